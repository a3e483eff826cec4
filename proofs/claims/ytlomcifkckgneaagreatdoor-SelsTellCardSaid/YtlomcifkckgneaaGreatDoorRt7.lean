/-
  WHAT THE FUNCTIONS COMPUTE, layer 1: the scanner's comment, string, number.
  (And 4 texts more.)
-/
import Derived.Test.YtlomcifkckgneaaGreatDoorRt6
set_option maxHeartbeats 4000000
open Nat (reduceEqDiff reduceAdd reduceLT reduceLeDiff reduceSub)
set_option linter.unusedSimpArgs false
set_option linter.unusedVariables false
namespace Go.Abs
open Go Go.Proofs
set_option maxRecDepth 10000
attribute [local go_sem] c7 bF cD bW bZ db cJ cE a7 ck ce cF c8 bS opd avOf cvOf St.degAt St.put okPV d6 okAV du dv dt cU aM if_true Bool.false_eq_true if_false Option.map_some Option.map_none Option.bind_some Option.bind_none dY dV upd List.toList_toArray cR steal bz mvB dE cV cT AV.deg CV.deg AV.gv AV.isIter cN cI bU List.length_nil List.length_cons List.filterMap_cons List.filterMap_nil beq_iff_eq List.getElem?_cons_zero List.getElem?_cons_succ Option.getD_some d8 eV Bool.false_and Bool.and_false Bool.and_self K_P fq co cO bw lend back idx dedup AV.ren CV.ren TV.ren AV.ptrs CV.ptrs cX AV.flat CV.flat cz cg bc c9 dk eo cj aY cm bt bH cf br eF CV.pv? content bA ownT bd reps pvs chunks cd leave eB cK dr bT bv TV.deg TV.av LK CV.plain CV.noBld c5 eA bound List.map_cons List.map_nil List.all_cons List.all_nil List.any_cons List.any_nil List.contains_cons List.contains_nil List.elem_cons List.elem_nil List.cons_append List.nil_append List.append_nil List.flatMap_cons List.flatMap_nil List.zip_cons_cons List.zip_nil_left List.zip_nil_right List.take_succ_cons List.take_zero List.take_nil List.drop_succ_cons List.drop_zero List.drop_nil List.isEmpty_nil List.isEmpty_cons Bool.and_true Bool.true_and Bool.or_true Bool.true_or Bool.or_false Bool.false_or Bool.not_true Bool.not_false Nat.add_zero Nat.zero_add Option.isNone_none Option.isNone_some Option.getD_none true_and and_true not_true_eq_false not_false_eq_true decide_true decide_false Nat.le_refl and_self Bool.not_eq_true Nat.sub_self or_true true_or Option.some.injEq List.length_map List.nil_eq and_false false_and AV.live CV.live CV.liveIn dU bg Option.orElse_some Option.orElse_none head bm bh Int.lt_irrefl List.length_append ite_self dZ cA dc bC Key.clash Key.sees Key.writes Nat.lt_irrefl gt_iff_lt cH dH false_or or_false beq_self_eq_true Bool.true_beq Bool.false_beq G9 fy jj ib Hu yx xY H5
def yX (r:List UInt8):Int:=match Tk.shut r with|some n=>(n:Int) - 2|none => -1
def kO (c:UInt8) (r:List UInt8):Int:=match Tk.inner c r with|some n=>(n:Int)|none => -1
theorem tX:∀ r:List UInt8,Lib.index r [42,47]=yX r
 | []=>rfl
 | b::l=>by
  have ih:=tX l
  have e:Lib.index (b::l) [42,47]=if [42,47].isPrefixOf (b::l) then 0 else if Lib.index l [42,47] == -1 then -1 else Lib.index l [42,47]+1:=rfl
  rw[e,ih];have hp:([42,47].isPrefixOf (b::l)=true)↔(b=42∧Tk.at0 l=47):=by
   cases l with
   | nil =>
    refine⟨fun h => ?_,fun h=>absurd h.2 (by decide)⟩
    simp[List.isPrefixOf] at h
   | cons d l =>
    simp only[List.isPrefixOf,Bool.and_true,Bool.and_eq_true,beq_iff_eq,Tk.at0];exact⟨fun h=>⟨h.1.symm,h.2.symm⟩,fun h=>⟨h.1.symm,h.2.symm⟩⟩
  by_cases h:b=42∧Tk.at0 l=47
  ·rw[if_pos (hp.2 h),yX,Tk.shut,if_pos h];rfl
  ·rw[if_neg (fun x=>h (hp.1 x)),yX,yX,Tk.shut,if_neg h]
   cases hs:Tk.shut l with
   | none=>rfl
   | some n =>
    have:=Tk.rg hs
    simp only[Option.map_some];rw[if_neg (by rw[beq_iff_eq];omega)]
    omega
theorem ui (b:UInt8):([10,12,13]:List UInt8).contains b=Tk.ending b:=by
 unfold Tk.ending;simp only[List.contains_cons,List.contains_nil,Bool.or_false,Bool.or_assoc]
theorem qa (b:UInt8) (l:List UInt8):Lib.containsAny (b::l) [10,12,13]=(Tk.ending b||Lib.containsAny l [10,12,13]):=by
 unfold Lib.containsAny;have e:Lib.indexAny (b::l) [10,12,13]=if ([10,12,13]:List UInt8).contains b then 0 else if Lib.indexAny l [10,12,13] == -1 then -1 else Lib.indexAny l [10,12,13]+1:=rfl
 rw[e,ui];have hge:=Lib.indexAny_ge [10,12,13] l
 cases Tk.ending b
 ·simp only[Bool.false_eq_true,if_false,Bool.false_or];by_cases h:Lib.indexAny l [10,12,13] = -1
  ·rw[if_pos (by rw[h];rfl),h]
  ·rw[if_neg (by simpa using h)]
   exact decide_eq_decide.2 (by omega)
 ·rfl
theorem je (b:UInt8) (l:List UInt8) (c:UInt8):Lib.indexByte (b::l) c=if b==c then 0 else if Lib.indexByte l c == -1 then -1 else Lib.indexByte l c+1:=rfl
theorem oX (c:UInt8):∀ r:List UInt8,0≤Lib.indexByte r c→Lib.indexByte r c<(r.length:Int)
 | [],h=>absurd (show (0:Int) ≤ -1 from h) (by decide)
 | b::l,h=>by
  have ih:=oX c l
  have hge:=Lib.indexByte_ge l c
  rw[je] at h ⊢;simp only[List.length_cons];split at h
  ·omega
  ·split at h
   ·omega
   ·rename_i h2;have:Lib.indexByte l c ≠ -1:=by simpa using h2
    have:=ih (by omega)
    rw[if_neg h2];omega
theorem vx (c:UInt8):∀ r:List UInt8,kO c r=if 0≤Lib.indexByte r c∧Lib.containsAny (r.take (Lib.indexByte r c).toNat) [10,12,13]=true then -1 else Lib.indexByte r c
 | []=>rfl
 | b::l=>by
  have ih:=vx c l
  have hge:=Lib.indexByte_ge l c
  by_cases hb:b=c
  ·have e:Lib.indexByte (b::l) c=0:=by rw[je,if_pos (by simp[hb])]
   have hc0:Lib.containsAny ((b::l).take (0:Int).toNat) [10,12,13]=false:=rfl
   rw[e,kO,Tk.inner,if_pos hb,hc0];rfl
  ·by_cases hm:Lib.indexByte l c = -1
   ·have e:Lib.indexByte (b::l) c = -1:=by rw[je,if_neg (by simpa using hb),hm];rfl
    rw[hm,if_neg (by omega)] at ih
    rw[e,if_neg (by omega),kO,Tk.inner,if_neg hb]
    unfold kO at ih;cases hi:Tk.inner c l with
    | none=>cases Tk.ending b<;>rfl
    | some n=>rw[hi] at ih;simp only at ih;omega
   ·have e:Lib.indexByte (b::l) c=Lib.indexByte l c+1:=by rw[je,if_neg (by simpa using hb),if_neg (by simpa using hm)]
    have ht:(Lib.indexByte l c+1).toNat=(Lib.indexByte l c).toNat+1:=by omega
    rw[e,ht,List.take_succ_cons,qa,kO,Tk.inner,if_neg hb];unfold kO at ih;cases he:Tk.ending b
    ·simp only[Bool.false_or,Bool.false_eq_true,if_false];by_cases hc:Lib.containsAny (l.take (Lib.indexByte l c).toNat) [10,12,13]=true
     ·rw[if_pos ⟨by omega,hc⟩]
      rw[if_pos ⟨by omega,hc⟩] at ih
      cases hi:Tk.inner c l with
      | none=>rfl
      | some n=>rw[hi] at ih;simp only at ih;omega
     ·rw[if_neg (fun x=>hc x.2)]
      rw[if_neg (fun x=>hc x.2)] at ih
      cases hi:Tk.inner c l with
      | none=>rw[hi] at ih;simp only at ih;omega
      | some n=>rw[hi] at ih;simp only at ih ⊢;simp only[Option.map_some];omega
    ·rw[Bool.true_or,if_pos (⟨by omega,rfl⟩:0≤Lib.indexByte l c+1∧true=true)]
     rfl
theorem Ee (s p:List UInt8) (h:s.length<4294967281):den K 193 [T s,T p] []=some (.ret (I (Lib.index s p)) []):=by
 refine fB (F:=rK) rfl ?_
 simp[rK,h]
theorem jg (s:List UInt8) (c:UInt8):den K 179 [T s,U c] []=some (.ret (I (Lib.indexByte s c)) []):=by
 refine fB (F:=ir) rfl ?_
 simp[ir]
theorem uc (s p:List UInt8):den K 177 [T s,T p] []=some (.ret (B (Lib.hasPrefix s p)) []):=fB (F:=lK) rfl rfl
theorem wz (s:List UInt8) (h:s.length<4294967281):den K 230 [T s,T [10,12,13]] []=some (.ret (I (Lib.indexAny s [10,12,13])) []):=by
 refine fB (F:=li) rfl ?_
 simp[li,h]
theorem qY (s:List UInt8) (h:s.length<4294967281):den K 212 [T s,T [10,12,13]] []=some (.ret (B (Lib.containsAny s [10,12,13])) []):=by
 have d:=wz s h
 unfold Lib.containsAny;refine ah rfl rfl Tryz.func212 rfl Tryz.ntmps212 ⟨by simp,by simp[LK]⟩ ?_
 have hr:Tryz.f212.results=#[.tmp 4]:=rfl
 simp only[go_sem,reduceLT,reduceCtorEq,reduceEqDiff,Nat.reduceBEq,reduceAdd,hr,d]
theorem zW (s:List UInt8) (x:TS) (hs:s.length<4000000000) (h:2≤s.length):den K 178 [P0] [scan s x]=some (.ret (.tup []) [scan (s.drop (Tk.comment (s.drop 2))) x]):=by
 have hi:=Ee (s.drop 2) [42,47] (by simp;omega)
 rw[tX] at hi;unfold yX at hi;refine ah rfl rfl Tryz.func178 rfl Tryz.ntmps178 ⟨by simp,by simp[LK]⟩ ?_
 have hr:Tryz.f178.results=#[]:=rfl
 have hb:((0:Int)≤2∧(2:Int)≤(s.length:Int))=True:=eq_true (by omega)
 have hd:(s.take s.length).drop 2=s.drop 2:=by rw[List.take_length]
 have t2:Int.toNat 2=2:=rfl
 unfold Tk.comment;cases hc:Tk.shut (s.drop 2) with
 | none =>
  rw[hc] at hi;have hsk:=rR s x s.length (Nat.le_refl _)
  have hn:decide ((-1:Int)<0)=true:=by decide
  have hlen:(s.drop 2).length+2=s.length:=by simp;omega
  rw[hlen];cases x<;>simp only[TS.cell,scan] at hsk ⊢ <;> simp only[go_sem,reduceLT,reduceCtorEq,reduceEqDiff,Nat.reduceBEq,reduceAdd,ax aD,aA aD,hr,hi,hb,t2,hd,hn,hsk]
 | some n =>
  rw[hc] at hi;have hle:=Tk.rg hc
  simp only[List.length_drop] at hle;have hsk:=rR s x (n+2) (by omega)
  have hn:decide ((n:Int) - 2<0)=false:=decide_eq_false (by omega)
  have w1:IntKind.i64.wrap (2+((n:Int) - 2))=(n:Int):=by rw[IntWalk.i64_in _ (by omega)];omega
  have w2:IntKind.i64.wrap ((n:Int)+2)=((n+2:Nat):Int):=by rw[IntWalk.i64_in _ (by omega)];rfl
  cases x<;>simp only[TS.cell,scan] at hsk ⊢ <;> simp only[go_sem,reduceLT,reduceCtorEq,reduceEqDiff,Nat.reduceBEq,reduceAdd,ax aD,aA aD,hr,hi,hb,t2,hd,hn,w1,w2,hsk]
theorem DV (s:List UInt8) (c:UInt8) (r:List UInt8) (x:TS) (hsr:s=c::r) (hs:s.length<4000000000):den K 183 [P0] [scan s x]=some (.ret (I (kO c r)) [scan s x]):=by
 have hb:((0:Int)≤1∧(1:Int)≤(s.length:Int))=True:=eq_true (by rw[hsr];simp;omega)
 have hd:(s.take s.length).drop 1=r:=by rw[List.take_length,hsr];rfl
 have hcell:s[(0:Int).toNat]? = some c:=by rw[hsr];rfl
 have hrs:r.length≤s.length:=by rw[hsr];simp
 clear hsr;have hi:=jg r c
 have hge:=Lib.indexByte_ge r c
 have hlt:=oX c r
 rw[vx];generalize Lib.indexByte r c=n at hi hge hlt;refine ah rfl rfl Tryz.func183 rfl Tryz.ntmps183 ⟨by simp,by simp[LK]⟩ ?_
 have hr:Tryz.f183.results=#[.tmp 2]:=rfl
 have t1:Int.toNat 1=1:=rfl
 by_cases h0:0≤n
 ·have hc:=qY (r.take n.toNat) (by rw[List.length_take];omega)
  have hn:decide (0≤n)=true:=decide_eq_true h0
  have hb2:((0:Int)≤n∧n≤(r.length:Int))=True:=eq_true (by have:=hlt h0;omega)
  cases hv:Lib.containsAny (r.take n.toNat) [10,12,13]
  ·rw[hv] at hc;rw[if_neg (fun e=>by cases e.2)]
   cases x<;>simp only[TS.cell,scan]<;>simp only[go_sem,reduceLT,reduceCtorEq,reduceEqDiff,Nat.reduceBEq,reduceAdd,ax aD,a8 aD,ax al,hr,hi,hb,hd,hn,t1,hb2,hc,hcell,Int.le_refl]
  ·rw[hv] at hc;rw[if_pos ⟨h0,rfl⟩];cases x<;>simp only[TS.cell,scan]<;>simp only[go_sem,reduceLT,reduceCtorEq,reduceEqDiff,Nat.reduceBEq,reduceAdd,ax aD,a8 aD,ax al,hr,hi,hb,hd,hn,t1,hb2,hc,hcell,Int.le_refl]
 ·have hn:decide (0≤n)=false:=decide_eq_false h0
  rw[if_neg (fun e=>h0 e.1)]
  cases x<;>simp only[TS.cell,scan]<;>simp only[go_sem,reduceLT,reduceCtorEq,reduceEqDiff,Nat.reduceBEq,reduceAdd,ax aD,a8 aD,hr,hi,hb,hd,hn,t1,hcell,Int.le_refl]
attribute [local go_sem] kX dJ aF iL dP ff bq wb dp bG cu bo dA BW aL bX HX ai aZ rr ro eG cB dz pA A2 lQ
abbrev rdB (l:List Val):List CV:=[.pv (.sl (encL l))]
abbrev dW:CV:=.pv (.ifa 115 [])
def nxCv:List Val→List CV
 | []=>[.pv (.int .i64 0),.pv (.int .i64 0),.pv (.str []),.pv (.int .i64 0),.nils]
 | .mk k t c::_=>jl k t c
theorem rS:nxCv []=[.pv (.int .i64 0),.pv (.int .i64 0),.pv (.str []),.pv (.int .i64 0),.nils]:=rfl
theorem fY (k:Int) (t:Tok) (c r:List Val):nxCv (.mk k t c::r)=[.pv (.int .i64 k),.pv (.int .i64 t.kind),.pv (.str t.text),.pv (.int .i64 t.n),.pv (.sl (encL c))]:=rfl
theorem fe:den K 40 [B true] []=some (.ret (.tup []) []):=by
 refine ah rfl rfl Tryz.func40 rfl Tryz.ntmps40 ⟨by simp,by simp[LK]⟩ ?_
 have hr:Tryz.f40.results=#[]:=rfl
 simp only[go_sem,reduceLT,reduceEqDiff,Nat.reduceBEq,reduceAdd,ab fM f9,hr]
theorem gR:den K 40 [B false] []=some (.pan dW []):=by
 refine ah rfl rfl Tryz.func40 rfl Tryz.ntmps40 ⟨by simp,by simp[LK]⟩ ?_
 have hr:Tryz.f40.results=#[]:=rfl
 simp only[go_sem,reduceLT,reduceEqDiff,Nat.reduceBEq,reduceAdd,ab fM f9,hr]
theorem gF (l:List Val) (hl:l.length≤100000000):den K 74 [P0] [rdB l]=some (.ret (.agg (nxCv l)) [rdB l]):=by
 have hr:Tryz.f74.results=#[.cell 2 93]:=rfl
 cases l with
 | nil =>
  have q0:(((0:Nat):Int)==0)=true:=rfl
  rw[rS];simp only[rdB];refine ah rfl rfl Tryz.func74 rfl Tryz.ntmps74 ⟨by simp,by simp[LK]⟩ ?_
  simp only[go_sem,reduceLT,reduceCtorEq,reduceEqDiff,Nat.reduceBEq,reduceAdd,reduceSub,reduceLeDiff,af ak,ab aF bQ,hr,az,q0]
 | cons v r =>
  obtain⟨k,t,c⟩:=v;rw[List.length_cons] at hl;have hn0:(((r.length+1:Nat):Int)==0)=false:=by rw[beq_eq_false_iff_ne];omega
  have hget:=tf k t c r
  rw[fY];simp only[rdB];refine ah rfl rfl Tryz.func74 rfl Tryz.ntmps74 ⟨by simp,by simp[LK]⟩ ?_
  simp only[go_sem,reduceLT,reduceCtorEq,reduceEqDiff,Nat.reduceBEq,reduceAdd,reduceSub,reduceLeDiff,af ak,ab aF bQ,ag ak,hr,az,hn0,hget,le00]
theorem fA (k:Int) (t:Tok) (c r:List Val) (hl:r.length≤90000000):den K 77 [P0] [rdB (.mk k t c::r)]=some (.ret (.agg (nxCv (.mk k t c::r))) [rdB r]):=by
 have hr:Tryz.f77.results=#[.cell 2 93]:=rfl
 have h:=gF (.mk k t c::r) (by rw[List.length_cons];omega)
 rw[fY] at h ⊢;simp only[rdB] at h ⊢;have hlt:decide ((0:Int)<(((r.length+1:Nat)):Int))=true:=decide_eq_true (by omega)
 have hcut:=xh (.mk k t c) r (r.length+1) rfl
 have hb1:((0:Int)≤1∧(1:Int)≤((r.length+1:Nat):Int))=True:=by rw[eq_iff_iff];simp;omega
 have hlv:=fu (.mk k t c::r)
 refine ah rfl rfl Tryz.func77 rfl Tryz.ntmps77 ⟨by simp,by simp[LK]⟩ ?_
 simp only[go_sem,reduceLT,reduceCtorEq,reduceEqDiff,Nat.reduceBEq,reduceAdd,reduceSub,reduceLeDiff,af ak,eU ak bq,hr,az,h,hlt,hcut,hb1,hlv]
def tokB (kind:Int):List Val→Bool
 | .mk k t _::_=>(k==1)&&(t.kind==kind)
 | []=>false
theorem jL {kind:Int} {l:List Val} {t:Tok} (h:Sl.tokK kind l=some t):tokB kind l=true∧∃ c r,l=.mk 1 t c::r∧t.kind=kind:=by
 cases l with
 | nil=>cases h
 | cons v r =>
  obtain⟨k,u,c⟩:=v;unfold Sl.tokK at h;simp only at h;split at h
  ·rename_i hh;cases h;obtain⟨rfl,h2⟩:=hh;exact⟨by show (((1:Int)==1)&&(t.kind==kind))=true;rw[h2];simp,c,r,rfl,h2⟩
  ·cases h
theorem ey {kind:Int} {l:List Val} (h:Sl.tokK kind l=none):tokB kind l=false:=by
 cases l with
 | nil=>rfl
 | cons v r =>
  obtain⟨k,u,c⟩:=v;unfold Sl.tokK at h;simp only at h;split at h
  ·cases h
  ·rename_i hh
   show ((k==1)&&(u.kind==kind))=false
   rw[Bool.and_eq_false_iff,beq_eq_false_iff_ne,beq_eq_false_iff_ne];by_cases h1:k=1
   ·exact .inr fun h2=>hh ⟨h1,h2⟩
   ·exact .inl h1
theorem dM (l:List Val) (kind:Int) (hl:l.length≤100000000):den K 71 [P0,I kind] [rdB l]=some (.ret (B (tokB kind l)) [rdB l]):=by
 have hr:Tryz.f71.results=#[.tmp 4]:=rfl
 have h:=gF l hl
 cases l with
 | nil =>
  rw[rS] at h;have q0:((0:Int)==1)=false:=rfl
  show _=(some (.ret (B false) [rdB []]):Option Res)
  simp only[rdB] at h ⊢;refine ah rfl rfl Tryz.func71 rfl Tryz.ntmps71 ⟨by simp,by simp[LK]⟩ ?_
  simp only[go_sem,reduceLT,reduceCtorEq,reduceEqDiff,Nat.reduceBEq,reduceAdd,hr,h,q0]
 | cons v r =>
  obtain⟨k,t,c⟩:=v;rw[fY] at h
  show _=(some (.ret (B ((k==1)&&(t.kind==kind))) [rdB (.mk k t c::r)]):Option Res)
  simp only[rdB] at h ⊢;cases e1:(k==1)
  ·refine ah rfl rfl Tryz.func71 rfl Tryz.ntmps71 ⟨by simp,by simp[LK]⟩ ?_
   simp only[go_sem,reduceLT,reduceCtorEq,reduceEqDiff,Nat.reduceBEq,reduceAdd,hr,h,e1]
  ·refine ah rfl rfl Tryz.func71 rfl Tryz.ntmps71 ⟨by simp,by simp[LK]⟩ ?_
   simp only[go_sem,reduceLT,reduceCtorEq,reduceEqDiff,Nat.reduceBEq,reduceAdd,reduceLeDiff,hr,h,e1]
abbrev ixtH (l:List (List UInt8)) (s:List UInt8) (i:Nat):St :=
  { sl:=upd (upd (upd (upd bot 8 (I i)) 7 (I l.length)) 1 (T s)) 0 (L (encT l)),bx:=nobox,nt:=19 }
noncomputable def ixtlp:Code:=.loop (ap Tryz.f151 2)
theorem yp (l:List (List UInt8)) (s:List UInt8) (hl:l.length≤1000000000):∀ (rest:List (List UInt8)) (i:Nat),l.drop i=rest→i≤l.length →
  Ends (exL K 151 ixtlp (ixtH l s i)) fun o S=>match rest.findIdx? (s == ·) with
   | none=>o=.exit 0∧S.nt=19
   | some j=>o=.ret∧S.sl 4=I ((i+j:Nat):Int)
 | [],i,hd,hi=>by
  have hin:i=l.length:=by
   have:=List.drop_eq_nil_iff.1 hd
   omega
  subst hin;have hlt:decide ((l.length:Int)<(l.length:Int))=false:=decide_eq_false (by omega)
  unfold ixtlp
  conv in ap _ _=>whnf
  rw[aq];simp only[go_sem,reduceLT,reduceCtorEq,reduceEqDiff,Nat.reduceBEq,ar,List.findIdx?_nil]
 | x::rest,i,hd,hi=>by
  obtain⟨g1,g2,g3⟩:=bE hd;have hlt:decide ((i:Int)<(l.length:Int))=true:=decide_eq_true (by omega)
  have hget:=Md l i x g1
  have ih:=yp l s hl rest (i+1) g2 (by omega)
  have hws:IntKind.i64.wrap ((i:Int)+1)=((i+1:Nat):Int):=bf i (by omega)
  unfold ixtlp at ih ⊢
  conv at ih in ap _ _=>whnf
  rw[List.findIdx?_cons]
  conv in ap _ _=>whnf
  rw[aq];cases hv:(s==x)
  ·rw[if_neg (by simp)]
   simp only[go_sem,reduceLT,reduceCtorEq,reduceEqDiff,Nat.reduceBEq,reduceAdd,ag aK,hlt,hget,Int.natCast_nonneg,hv,hws];rw[au];simp only[go_sem,reduceCtorEq,reduceEqDiff];refine bu ih fun o S q => ?_
   cases hf:rest.findIdx? (s == ·) with
   | none=>rw[hf] at q;exact q
   | some j =>
    rw[hf] at q
    refine⟨q.1,q.2.trans ?_⟩
    rw[show i+1+j=i+(j+1) by omega]
  ·rw[if_pos rfl];simp only[go_sem,reduceLT,reduceCtorEq,reduceEqDiff,Nat.reduceBEq,reduceAdd,ag aK,hlt,hget,Int.natCast_nonneg,hv,ar,Nat.add_zero]
theorem xy (l:List (List UInt8)) (s:List UInt8) (hl:l.length≤1000000000) :
  den K 151 [L (encT l),T s] []=some (.ret (I (ixI (l.findIdx? (s == ·)))) []):=by
 have hr:Tryz.f151.results=#[.tmp 4]:=rfl
 have h:=yp l s hl l 0 rfl (Nat.zero_le _)
 unfold ixtlp at h
 conv at h in ap _ _=>whnf
 obtain⟨o,S',w,hq⟩:=h;have z0:((0:Nat):Int)=0:=rfl
 simp only[ixtH,z0] at w
 refine ah rfl rfl Tryz.func151 rfl Tryz.ntmps151 ⟨by simp,by simp[LK]⟩ ?_
 cases hf:l.findIdx? (s == ·) with
 | none =>
  rw[hf] at hq;obtain⟨rfl,hn⟩:=hq;unfold ixI;simp only[go_sem,reduceLT,reduceCtorEq,reduceEqDiff,Nat.reduceBEq,reduceAdd,af aK,xj];rw[au];simp only[go_sem,reduceCtorEq,reduceEqDiff];erw [w];simp only[go_sem,reduceLT,Nat.reduceBEq,hr,hn]
 | some j =>
  rw[hf] at hq;obtain⟨rfl,h4⟩:=hq;rw[Nat.zero_add] at h4;unfold ixI;simp only[go_sem,reduceLT,reduceCtorEq,reduceEqDiff,Nat.reduceBEq,reduceAdd,af aK,xj];rw[au];simp only[go_sem,reduceCtorEq,reduceEqDiff];erw [w];simp only[go_sem,hr,h4]
theorem jX (l:List (List UInt8)) (s:List UInt8) (hl:l.length≤1000000000) :
  den K 106 [L (encT l),T s] []=some (.ret (B (l.any (s == ·))) []):=by
 have hr:Tryz.f106.results=#[.tmp 4]:=rfl
 have h:=xy l s hl
 rw[←H7];refine ah rfl rfl Tryz.func106 rfl Tryz.ntmps106 ⟨by simp,by simp[LK]⟩ ?_
 simp only[go_sem,reduceLT,reduceCtorEq,reduceEqDiff,Nat.reduceBEq,reduceAdd,hr,h]
def nS (ss:List (List UInt8)):List Val→Option (List UInt8×List Val)
 | .mk k t _::r=>if k=1∧t.kind=7∧t.n=0∧ss.any (t.text == ·)=true then some (t.text,r) else none
 | []=>none
def uI (ss:List (List UInt8)) (l:List Val):Option Res:=match nS ss l with
 | some (s,r)=>some (.ret (T s) [rdB r])
 | none=>some (.ret (T []) [rdB l])
theorem ly (l:List Val) (ss:List (List UInt8)) (hl:l.length≤90000000) (hs:ss.length≤1000):den K 78 [P0,L (encT ss)] [rdB l]=uI ss l:=by
 have hr:Tryz.f78.results=#[.tmp 4]:=rfl
 have h:=gF l (by omega)
 have ht:=dM l 7 (by omega)
 unfold uI;cases l with
 | nil =>
  rw[rS] at h;simp only[nS,rdB,tokB] at h ht ⊢;refine ah rfl rfl Tryz.func78 rfl Tryz.ntmps78 ⟨by simp,by simp[LK]⟩ ?_
  simp only[go_sem,reduceLT,reduceCtorEq,reduceEqDiff,Nat.reduceBEq,reduceAdd,reduceSub,reduceLeDiff,hr,h,ht]
 | cons v r =>
  obtain⟨k,t,c⟩:=v;rw[fY] at h;have hk:=fA k t c r (by rw[List.length_cons] at hl;omega)
  have hc:=jX ss t.text (by omega)
  rw[fY] at hk;simp only[nS,rdB,tokB] at h ht hk ⊢;cases e1:(k==1)
  ·have n1:k≠1:=by simpa using e1
   rw[if_neg fun h=>n1 h.1]
   refine ah rfl rfl Tryz.func78 rfl Tryz.ntmps78 ⟨by simp,by simp[LK]⟩ ?_
   simp only[go_sem,reduceLT,reduceCtorEq,reduceEqDiff,Nat.reduceBEq,reduceAdd,reduceSub,reduceLeDiff,hr,h,ht,e1]
  ·have n1:k=1:=by simpa using e1
   cases e2:(t.kind==7)
   ·have n2:t.kind≠7:=by simpa using e2
    rw[if_neg fun h=>n2 h.2.1]
    refine ah rfl rfl Tryz.func78 rfl Tryz.ntmps78 ⟨by simp,by simp[LK]⟩ ?_
    simp only[go_sem,reduceLT,reduceCtorEq,reduceEqDiff,Nat.reduceBEq,reduceAdd,reduceSub,reduceLeDiff,hr,h,ht,e1,e2]
   ·have n2:t.kind=7:=by simpa using e2
    cases e3:(t.n==0)
    ·have n3:t.n≠0:=by simpa using e3
     rw[if_neg fun h=>n3 h.2.2.1]
     refine ah rfl rfl Tryz.func78 rfl Tryz.ntmps78 ⟨by simp,by simp[LK]⟩ ?_
     simp only[go_sem,reduceLT,reduceCtorEq,reduceEqDiff,Nat.reduceBEq,reduceAdd,reduceSub,reduceLeDiff,hr,h,ht,e1,e2,e3]
    ·have n3:t.n=0:=by simpa using e3
     cases e4:ss.any (t.text == ·)
     ·rw[if_neg fun h=>absurd h.2.2.2 (by simp)]
      refine ah rfl rfl Tryz.func78 rfl Tryz.ntmps78 ⟨by simp,by simp[LK]⟩ ?_
      simp only[go_sem,reduceLT,reduceCtorEq,reduceEqDiff,Nat.reduceBEq,reduceAdd,reduceSub,reduceLeDiff,hr,h,ht,e1,e2,e3,hc,e4]
     ·rw[if_pos ⟨n1,n2,n3,rfl⟩];refine ah rfl rfl Tryz.func78 rfl Tryz.ntmps78 ⟨by simp,by simp[LK]⟩ ?_
      simp only[go_sem,reduceLT,reduceCtorEq,reduceEqDiff,Nat.reduceBEq,reduceAdd,reduceSub,reduceLeDiff,hr,h,ht,e1,e2,e3,hc,e4,hk]
theorem uP (s:List UInt8) (l:List Val):nS [s] l=(Sl.sign s l).map fun r=>(s,r):=by
 cases l with
 | nil=>rfl
 | cons v r =>
  obtain⟨k,t,c⟩:=v;have hs:Sl.aW s (.mk k t c)=true↔k=1∧t=⟨7,s,0⟩:=by
   show ((k==1)&&decide (t=⟨7,s,0⟩))=true↔_
   simp
  unfold nS Sl.sign;simp only[List.any_cons,List.any_nil,Bool.or_false,beq_iff_eq];by_cases h:k=1∧t.kind=7∧t.n=0∧t.text=s
  ·obtain⟨h1,h2,h3,h4⟩:=h;have e:t=⟨7,s,0⟩:=by cases t;simp_all
   rw[if_pos ⟨h1,h2,h3,h4⟩,if_pos (hs.2 ⟨h1,e⟩),h4];rfl
  ·rw[if_neg h,if_neg fun x=>h (by obtain⟨x1,x2⟩:=hs.1 x;rw[x2];exact⟨x1,rfl,rfl,rfl⟩)]
   rfl
theorem iH {s:List UInt8} {l r:List Val} (hl:l.length≤90000000) (h:Sl.sign s l=some r):den K 78 [P0,L [[.str s]]] [rdB l]=some (.ret (T s) [rdB r]):=by
 have:=ly l [s] hl (by simp)
 unfold uI at this
 rw[uP,h] at this
 exact this
theorem fp {s:List UInt8} {l:List Val} (hl:l.length≤90000000) (h:Sl.sign s l=none):den K 78 [P0,L [[.str s]]] [rdB l]=some (.ret (T []) [rdB l]):=by
 have:=ly l [s] hl (by simp)
 unfold uI at this
 rw[uP,h] at this
 exact this
theorem tS (v:Val) (r:List Val):tokB 8 (v::r)=Sl.ay v:=by obtain⟨k,t,c⟩:=v;rfl
abbrev Am (l:List Val) (w:Bool):St := { sl:=upd (upd bot 3 (B w)) 0 P0,bx:=upd nobox 100000 (some (rdB l)),nt:=9 }
noncomputable def rdblp:Code:=.loop (ap Tryz.f141 2)
theorem HQ (v:Val) (r:List Val) (w:Bool) (hl:r.length≤80000000) (hb:Sl.ay v=true) :
  exL K 141 rdblp (Am (v::r) w)=exL K 141 rdblp (Am r true):=by
 have ht:=dM (v::r) 8 (by rw[List.length_cons];omega)
 rw[tS,hb] at ht;obtain⟨k,t,c⟩:=v;have hk:=fA k t c r (by omega)
 rw[fY] at hk;simp only[rdB] at ht hk;unfold rdblp
 conv in ap _ _=>whnf
 conv in ap _ _=>whnf
 conv in exL _ _ _ (Am (.mk k t c::r) w)=>rw[aq]
 simp only[go_sem,reduceLT,reduceCtorEq,reduceEqDiff,Nat.reduceBEq,reduceAdd,ht,hk];rw[au];simp only[go_sem,reduceCtorEq,reduceEqDiff]
theorem C5 (l:List Val) (w:Bool) (hl:l.length≤80000000) (hb:tokB 8 l=false) :
  Ends (exL K 141 rdblp (Am l w)) fun o S=>o=.exit 0∧S.nt=9∧S.sl 0=P0∧S.sl 3=B w∧S.bx 100000=some (rdB l):=by
 have ht:=dM l 8 (by omega)
 rw[hb] at ht;simp only[rdB] at ht;unfold rdblp
 conv in ap _ _=>whnf
 rw[aq];simp only[go_sem,reduceLT,reduceCtorEq,reduceEqDiff,Nat.reduceBEq,reduceAdd,ht,ar]
theorem uK:∀ (l:List Val) (w:Bool),l.length≤80000000→Ends (exL K 141 rdblp (Am l w)) fun o S=>o=.exit 0∧S.nt=9∧S.sl 0=P0∧S.sl 3=B (w||decide ((l.dropWhile Sl.ay).length<l.length))∧S.bx 100000=some (rdB (l.dropWhile Sl.ay))
 | [],w,hl=>by
  have:=C5 [] w hl rfl
  simpa using this
 | v::r,w,hl=>by
  rw[List.length_cons] at hl;cases hb:Sl.ay v with
  | true =>
   rw[HQ v r w (by omega) hb,List.dropWhile_cons,if_pos hb]
   have hlen:=(List.dropWhile_sublist Sl.ay (l:=r)).length_le
   have e:decide ((r.dropWhile Sl.ay).length<(v::r).length)=true:=decide_eq_true (by rw[List.length_cons];omega)
   rw[e,Bool.or_true];refine bu (uK r true (by omega)) fun o S q => ?_
   rw[Bool.true_or] at q
   exact q
  | false =>
   rw[List.dropWhile_cons,if_neg (by rw[hb];simp)]
   have:=C5 (v::r) w (by rw[List.length_cons];omega) (by rw[tS,hb])
   simpa using this
theorem lp (l:List Val) (hl:l.length≤80000000):den K 141 [P0] [rdB l]=some (.ret (B (decide ((l.dropWhile Sl.ay).length<l.length))) [rdB (l.dropWhile Sl.ay)]):=by
 have hr:Tryz.f141.results=#[.tmp 2]:=rfl
 have h:=uK l false hl
 rw[Bool.false_or] at h;unfold rdblp at h
 conv at h in ap _ _=>whnf
 obtain⟨o,S,w,rfl,hn,s0,s3,b1⟩:=h;refine ah rfl rfl Tryz.func141 rfl Tryz.ntmps141 ⟨by simp,by simp[LK]⟩ ?_
 simp only[go_sem,reduceLT,Nat.reduceBEq];rw[au];simp only[go_sem,reduceCtorEq,reduceEqDiff];erw [w];simp only[go_sem,reduceLT,reduceEqDiff,Nat.reduceBEq,reduceAdd,hr,hn,s3,b1]
def il {α:Type} (enc:α→AV) (o:Option (α×List Val)) (r:Option Res):Prop:=match o with
 | some (x,m)=>r=some (.ret (enc x) [rdB m])
 | none=>∃ m,r=some (.pan dW [rdB m])
theorem iU (l:List Val) (hl:l.length≤80000000):il T (Sl.name l) (den K 73 [P0] [rdB l]):=by
 have hr:Tryz.f73.results=#[.tmp 2]:=rfl
 have ht:=dM l 1 (by omega)
 unfold Sl.name;cases hk:Sl.tokK 1 l with
 | none =>
  rw[ey hk] at ht;have hm:=gR
  refine⟨l,?_⟩
  simp only[rdB] at ht ⊢;refine ah rfl rfl Tryz.func73 rfl Tryz.ntmps73 ⟨by simp,by simp[LK]⟩ ?_
  simp only[go_sem,reduceLT,reduceCtorEq,reduceEqDiff,Nat.reduceBEq,hr,ht,hm]
 | some t =>
  obtain⟨e,c,r,rfl,h1⟩:=jL hk;rw[e] at ht;have hm:=fe
  have htk:=fA 1 t c r (by rw[List.length_cons] at hl;omega)
  rw[fY] at htk
  show den K 73 [P0] [rdB (.mk 1 t c::r)]=some (.ret (T t.text) [rdB r])
  simp only[rdB] at ht htk ⊢;refine ah rfl rfl Tryz.func73 rfl Tryz.ntmps73 ⟨by simp,by simp[LK]⟩ ?_
  simp only[go_sem,reduceLT,reduceCtorEq,reduceEqDiff,Nat.reduceBEq,reduceAdd,reduceLeDiff,hr,ht,hm,htk]
theorem uS (l:List Val) (hl:l.length≤80000000):il I (Sl.numP l) (den K 76 [P0] [rdB l]):=by
 have hr:Tryz.f76.results=#[.tmp 2]:=rfl
 have ht:=dM l 5 (by omega)
 unfold Sl.numP;cases hk:Sl.tokK 5 l with
 | none =>
  rw[ey hk] at ht;have hm:=gR
  refine⟨l,?_⟩
  simp only[rdB] at ht ⊢;refine ah rfl rfl Tryz.func76 rfl Tryz.ntmps76 ⟨by simp,by simp[LK]⟩ ?_
  simp only[go_sem,reduceLT,reduceCtorEq,reduceEqDiff,Nat.reduceBEq,hr,ht,hm]
 | some t =>
  obtain⟨e,c,r,rfl,h1⟩:=jL hk;rw[e] at ht;have hx:=gF (.mk 1 t c::r) (by omega)
  have htk:=fA 1 t c r (by rw[List.length_cons] at hl;omega)
  rw[fY] at htk hx;simp only;by_cases hs:t.text=[]
  ·rw[if_pos hs];have hm:=fe
   have e0:(t.text==[])=true:=by rw[hs];rfl
   show den K 76 [P0] [rdB (.mk 1 t c::r)]=some (.ret (I t.n) [rdB r])
   simp only[rdB] at ht htk hx ⊢;refine ah rfl rfl Tryz.func76 rfl Tryz.ntmps76 ⟨by simp,by simp[LK]⟩ ?_
   simp only[go_sem,reduceLT,reduceCtorEq,reduceEqDiff,Nat.reduceBEq,reduceAdd,reduceLeDiff,hr,ht,hm,hx,htk,e0]
  ·rw[if_neg hs];have hm:=gR
   have e0:(t.text==[])=false:=by rw[beq_eq_false_iff_ne];exact hs
   refine⟨.mk 1 t c::r,?_⟩
   simp only[rdB] at ht htk hx ⊢;refine ah rfl rfl Tryz.func76 rfl Tryz.ntmps76 ⟨by simp,by simp[LK]⟩ ?_
   simp only[go_sem,reduceLT,reduceCtorEq,reduceEqDiff,Nat.reduceBEq,reduceAdd,reduceLeDiff,hr,ht,hm,hx,e0]
attribute [local go_sem] gp iR Cu se gu jQ AJ
abbrev HM (t:Tok):List CV:=[.pv (.int .i64 t.kind),.pv (.str t.text),.pv (.int .i64 t.n)]
def rl (w:Option Nat) (l:List Val):CV:=match w with|none=>.pv (.sl (encL l))|some e=>.own e (encL l)
theorem jJ (l:List Val):rl none l=.pv (.sl (encL l)):=rfl
theorem fK (e:Nat) (l:List Val):rl (some e) l=.own e (encL l):=rfl
abbrev rb (w:Option Nat) (l:List Val) (i:Nat) (bad:Bool):List CV:=[rl w l,.pv (.int .i64 i),.pv (.bool bad)]
abbrev rb0 (l:List Val) (i:Nat) (bad:Bool):List CV:=[.pv (.sl (encL l)),.pv (.int .i64 i),.pv (.bool bad)]
theorem ia {l:List Val} {i:Nat} {v:Val} {r:List Val} (h:l.drop i=v::r):l[i]? = some v∧l.drop (i+1)=r∧i<l.length:=bE h
def tk0 (kind:Int) (l:List Val):Tok:=(Sl.tokK kind l).getD Ne.tok0
theorem lW {kind k:Int} {t:Tok} {c r:List Val} (h:¬(k=1∧t.kind=kind)):tk0 kind (Val.mk k t c::r)=Ne.tok0:=by
 have:Sl.tokK kind (Val.mk k t c::r)=none:=if_neg h
 unfold tk0;rw[this];rfl
theorem ny {kind k:Int} {t:Tok} {c r:List Val} (h:k=1∧t.kind=kind):tk0 kind (Val.mk k t c::r)=t:=by
 have:Sl.tokK kind (Val.mk k t c::r)=some t:=if_pos h
 unfold tk0;rw[this];rfl
theorem xd (w:Option Nat) (l:List Val) (i:Nat) (bad:Bool) (kind:Int) (hl:l.length≤100000000) :
  den K 100 [P0,I kind] [rb w l i bad]=some (.ret (.agg (HM (tk0 kind (l.drop i)))) [rb w l i bad]):=by
 have hr:Tryz.f100.results=#[.cell 4 91]:=rfl
 cases hd:l.drop i with
 | nil =>
  have hle:l.length≤i:=List.drop_eq_nil_iff.1 hd
  have hlt:decide ((i:Int)<(l.length:Int))=false:=decide_eq_false (by omega)
  have hv:tk0 kind []=Ne.tok0:=rfl
  rw[hv];cases w
  all_goals
   simp only[rb,jJ,fK];refine ah rfl rfl Tryz.func100 rfl Tryz.ntmps100 ⟨by simp,by simp[LK]⟩ ?_
   simp only[go_sem,reduceLT,reduceCtorEq,reduceEqDiff,Nat.reduceBEq,reduceAdd,reduceSub,reduceLeDiff,af ak,ag ak,ab ai am,hr,hlt,az,Ne.tok0]
 | cons v r =>
  obtain⟨k,t,c⟩:=v;obtain⟨g1,g2,g3⟩:=ia hd;have hlt:decide ((i:Int)<(l.length:Int))=true:=decide_eq_true (by omega)
  have hget:=fJ l i k t c g1
  cases e1:(k==1)
  ·have hv:tk0 kind (Val.mk k t c::r)=Ne.tok0:=by
    have:k≠1:=by simpa using e1
    exact lW fun h=>this h.1
   rw[hv];cases w
   all_goals
    simp only[rb,jJ,fK];refine ah rfl rfl Tryz.func100 rfl Tryz.ntmps100 ⟨by simp,by simp[LK]⟩ ?_
    simp only[go_sem,reduceLT,reduceCtorEq,reduceEqDiff,Nat.reduceBEq,reduceAdd,reduceSub,reduceLeDiff,af ak,ag ak,ab ai am,hr,hlt,hget,Int.natCast_nonneg,e1,az,Ne.tok0]
  ·cases e2:(t.kind==kind)
   ·have hv:tk0 kind (Val.mk k t c::r)=Ne.tok0:=by
     have:t.kind≠kind:=by simpa using e2
     exact lW fun h=>this h.2
    rw[hv];cases w
    all_goals
     simp only[rb,jJ,fK];refine ah rfl rfl Tryz.func100 rfl Tryz.ntmps100 ⟨by simp,by simp[LK]⟩ ?_
     simp only[go_sem,reduceLT,reduceCtorEq,reduceEqDiff,Nat.reduceBEq,reduceAdd,reduceSub,reduceLeDiff,af ak,ag ak,ab ai am,hr,hlt,hget,Int.natCast_nonneg,e1,e2,az,Ne.tok0]
   ·have hv:tk0 kind (Val.mk k t c::r)=t:=by
     have h1:k=1:=by simpa using e1
     have h2:t.kind=kind:=by simpa using e2
     exact ny ⟨h1,h2⟩
    rw[hv];cases w
    all_goals
     simp only[rb,jJ,fK];refine ah rfl rfl Tryz.func100 rfl Tryz.ntmps100 ⟨by simp,by simp[LK]⟩ ?_
     simp only[go_sem,reduceLT,reduceCtorEq,reduceEqDiff,Nat.reduceBEq,reduceAdd,reduceSub,reduceLeDiff,af ak,ag ak,hr,hlt,hget,Int.natCast_nonneg,e1,e2,az]
theorem tD (w:Option Nat) (l:List Val) (i:Nat) (bad:Bool) (s:List UInt8) (hl:l.length≤100000000) (r:List Val) (h:Sl.sign s (l.drop i)=some r) :
  den K 102 [P0,T s] [rb w l i bad]=some (.ret (B true) [rb w l (i+1) bad])∧l.drop (i+1)=r∧i<l.length:=by
 have hr:Tryz.f102.results=#[.tmp 4]:=rfl
 cases hd:l.drop i with
 | nil=>rw[hd] at h;cases h
 | cons v r' =>
  rw[hd] at h;obtain⟨k,t,c⟩:=v;obtain⟨g1,g2,g3⟩:=ia hd;have hb:Sl.aW s (Val.mk k t c)=true:=by
   cases hb:Sl.aW s (Val.mk k t c) with
   | true=>rfl
   | false=>unfold Sl.sign at h;simp only at h;rw[hb,if_neg (by simp)] at h;cases h
  have hrr:r'=r:=by unfold Sl.sign at h;simp only at h;rw[hb,if_pos rfl] at h;cases h;rfl
  refine⟨?_,by rw[g2,hrr],g3⟩
  have hlt:decide ((i:Int)<(l.length:Int))=true:=decide_eq_true (by omega)
  have hget:=fJ l i k t c g1
  have hw:IntKind.i64.wrap ((i:Int)+1)=((i+1:Nat):Int):=bf i (by omega)
  have hs:=gQ k t c s
  rw[hb] at hs;cases w
  all_goals
   simp only[rb,jJ,fK];refine ah rfl rfl Tryz.func102 rfl Tryz.ntmps102 ⟨by simp,by simp[LK]⟩ ?_
   simp only[go_sem,reduceLT,reduceCtorEq,reduceEqDiff,Nat.reduceBEq,reduceAdd,reduceLeDiff,af ak,ag ak,hr,hlt,hget,Int.natCast_nonneg,az,hs,hw]
theorem vT (w:Option Nat) (l:List Val) (i:Nat) (bad:Bool) (s:List UInt8) (hl:l.length≤100000000) (h:Sl.sign s (l.drop i)=none) :
  den K 102 [P0,T s] [rb w l i bad]=some (.ret (B false) [rb w l i bad]):=by
 have hr:Tryz.f102.results=#[.tmp 4]:=rfl
 cases hd:l.drop i with
 | nil =>
  have hle:l.length≤i:=List.drop_eq_nil_iff.1 hd
  have hlt:decide ((i:Int)<(l.length:Int))=false:=decide_eq_false (by omega)
  cases w
  all_goals
   simp only[rb,jJ,fK];refine ah rfl rfl Tryz.func102 rfl Tryz.ntmps102 ⟨by simp,by simp[LK]⟩ ?_
   simp only[go_sem,reduceLT,reduceCtorEq,reduceEqDiff,Nat.reduceBEq,reduceAdd,reduceLeDiff,af ak,hr,hlt,az]
 | cons v r' =>
  rw[hd] at h;obtain⟨k,t,c⟩:=v;obtain⟨g1,g2,g3⟩:=ia hd;have hb:Sl.aW s (Val.mk k t c)=false:=by
   cases hb:Sl.aW s (Val.mk k t c) with
   | false=>rfl
   | true=>unfold Sl.sign at h;simp only at h;rw[hb,if_pos rfl] at h;cases h
  have hlt:decide ((i:Int)<(l.length:Int))=true:=decide_eq_true (by omega)
  have hget:=fJ l i k t c g1
  have hs:=gQ k t c s
  rw[hb] at hs;cases w
  all_goals
   simp only[rb,jJ,fK];refine ah rfl rfl Tryz.func102 rfl Tryz.ntmps102 ⟨by simp,by simp[LK]⟩ ?_
   simp only[go_sem,reduceLT,reduceCtorEq,reduceEqDiff,Nat.reduceBEq,reduceAdd,reduceLeDiff,af ak,ag ak,hr,hlt,hget,Int.natCast_nonneg,az,hs]
theorem r6 {kind:Int} {l:List Val} {t:Tok} (h:Sl.tokK kind l=some t):tk0 kind l=t∧t.kind=kind:=by
 refine⟨by unfold tk0;rw[h];rfl,?_⟩
 cases l with
 | nil=>cases h
 | cons v r =>
  obtain⟨k,u,c⟩:=v;unfold Sl.tokK at h;simp only at h;split at h
  ·rename_i hh;cases h;exact hh.2
  ·cases h
theorem fX {kind:Int} {l:List Val} (h:Sl.tokK kind l=none):tk0 kind l=Ne.tok0:=by unfold tk0;rw[h];rfl
theorem CP {kind:Int} {l:List Val} {i:Nat} {t:Tok} (h:Sl.tokK kind (l.drop i)=some t):i<l.length:=by
 cases hd:l.drop i with
 | nil=>rw[hd] at h;cases h
 | cons v r=>exact(ia hd).2.2
theorem yi (w:Option Nat) (l:List Val) (i:Nat) (bad:Bool) (hl:l.length≤100000000) (s:List UInt8) (r:List Val) (h:Sl.name (l.drop i)=some (s,r)) :
  den K 96 [P0] [rb w l i bad]=some (.ret (T s) [rb w l (i+1) bad])∧l.drop (i+1)=r∧i<l.length:=by
 have hr:Tryz.f96.results=#[.tmp 2]:=rfl
 have ht:=xd w l i bad 1 hl
 unfold Sl.name at h;cases hk:Sl.tokK 1 (l.drop i) with
 | none=>rw[hk] at h;cases h
 | some t =>
  rw[hk] at h;cases h;obtain⟨h1,h2⟩:=r6 hk;have hi:=CP hk
  refine⟨?_,by rw[List.tail_drop],hi⟩
  rw[h1] at ht;have hw:IntKind.i64.wrap ((i:Int)+1)=((i+1:Nat):Int):=bf i (by omega)
  have e0:(t.kind==0)=false:=by rw[h2];rfl
  cases w
  all_goals
   simp only[rb,jJ,fK] at ht ⊢;refine ah rfl rfl Tryz.func96 rfl Tryz.ntmps96 ⟨by simp,by simp[LK]⟩ ?_
   simp only[go_sem,reduceLT,reduceCtorEq,reduceEqDiff,Nat.reduceBEq,reduceAdd,reduceSub,reduceLeDiff,hr,ht,hw,e0]
theorem wq (w:Option Nat) (l:List Val) (i:Nat) (bad:Bool) (hl:l.length≤100000000) (h:Sl.name (l.drop i)=none) :
  den K 96 [P0] [rb w l i bad]=some (.ret (T []) [rb w l i true]):=by
 have hr:Tryz.f96.results=#[.tmp 2]:=rfl
 have ht:=xd w l i bad 1 hl
 unfold Sl.name at h;cases hk:Sl.tokK 1 (l.drop i) with
 | some t=>rw[hk] at h;cases h
 | none =>
  rw[fX hk] at ht;simp only[Ne.tok0] at ht;cases w
  all_goals
   simp only[rb,jJ,fK] at ht ⊢;refine ah rfl rfl Tryz.func96 rfl Tryz.ntmps96 ⟨by simp,by simp[LK]⟩ ?_
   simp only[go_sem,reduceLT,reduceCtorEq,reduceEqDiff,Nat.reduceBEq,reduceAdd,reduceSub,reduceLeDiff,hr,ht]
theorem ee (l:List Val) (i:Nat) (bad:Bool) (kind:Int) (hl:l.length≤100000000) :
  den K 100 [P0,I kind] [rb0 l i bad]=some (.ret (.agg (HM (tk0 kind (l.drop i)))) [rb0 l i bad]):=xd none l i bad kind hl
theorem gJ (l:List Val) (i:Nat) (bad:Bool) (s:List UInt8) (hl:l.length≤100000000) (r:List Val) (h:Sl.sign s (l.drop i)=some r) :
  den K 102 [P0,T s] [rb0 l i bad]=some (.ret (B true) [rb0 l (i+1) bad])∧l.drop (i+1)=r∧i<l.length:=tD none l i bad s hl r h
theorem fl (l:List Val) (i:Nat) (bad:Bool) (s:List UInt8) (hl:l.length≤100000000) (h:Sl.sign s (l.drop i)=none) :
  den K 102 [P0,T s] [rb0 l i bad]=some (.ret (B false) [rb0 l i bad]):=vT none l i bad s hl h
theorem nw (l:List Val) (i:Nat) (bad:Bool) (hl:l.length≤100000000) (s:List UInt8) (r:List Val) (h:Sl.name (l.drop i)=some (s,r)) :
  den K 96 [P0] [rb0 l i bad]=some (.ret (T s) [rb0 l (i+1) bad])∧l.drop (i+1)=r∧i<l.length:=yi none l i bad hl s r h
theorem sJ (l:List Val) (i:Nat) (bad:Bool) (hl:l.length≤100000000) (h:Sl.name (l.drop i)=none) :
  den K 96 [P0] [rb0 l i bad]=some (.ret (T []) [rb0 l i true]):=wq none l i bad hl h
theorem pU (l:List Val) (i:Nat) (bad:Bool) (kind:Int) (hl:l.length≤100000000) (t:Tok) (c r:List Val) (h:Sl.eP kind (l.drop i)=some ((t,c),r)) :
  den K 144 [P0,I kind] [rb0 l i bad]=some (.ret (.agg (jl kind t c)) [rb0 l (i+1) bad])∧l.drop (i+1)=r∧l[i]? = some (.mk kind t c):=by
 have hr:Tryz.f144.results=#[.cell 4 93]:=rfl
 cases hd:l.drop i with
 | nil=>rw[hd] at h;cases h
 | cons v r' =>
  rw[hd] at h;obtain⟨k,t',c'⟩:=v;obtain⟨g1,g2,g3⟩:=ia hd;have hk:k=kind∧t'=t∧c'=c∧r'=r:=by
   unfold Sl.eP at h;simp only at h;split at h
   ·rename_i hh;cases h;exact⟨hh,rfl,rfl,rfl⟩
   ·cases h
  obtain⟨rfl,rfl,rfl,rfl⟩:=hk;refine⟨?_,g2,g1⟩
  have hlt:decide ((i:Int)<(l.length:Int))=true:=decide_eq_true (by omega)
  have hget:=fJ l i k t' c' g1
  have hw:IntKind.i64.wrap ((i:Int)+1)=((i+1:Nat):Int):=bf i (by omega)
  have hw2:IntKind.i64.wrap (((i+1:Nat):Int) - 1)=(i:Int):=by rw[IntWalk.i64_in _ (by omega)];omega
  refine ah rfl rfl Tryz.func144 rfl Tryz.ntmps144 ⟨by simp,by simp[LK]⟩ ?_
  simp only[go_sem,reduceLT,reduceCtorEq,reduceEqDiff,Nat.reduceBEq,reduceAdd,reduceSub,reduceLeDiff,af ak,ag ak,hr,hlt,hget,Int.natCast_nonneg,az,hw,hw2]
theorem zD (l:List Val) (i:Nat) (bad:Bool) (kind:Int) (hl:l.length≤100000000) (h:Sl.eP kind (l.drop i)=none) :
  den K 144 [P0,I kind] [rb0 l i bad]=some (.ret (.agg [.pv (.int .i64 0),.pv (.int .i64 0),.pv (.str []),.pv (.int .i64 0),.nils]) [rb0 l i bad]):=by
 have hr:Tryz.f144.results=#[.cell 4 93]:=rfl
 cases hd:l.drop i with
 | nil =>
  have hle:l.length≤i:=List.drop_eq_nil_iff.1 hd
  have hlt:decide ((i:Int)<(l.length:Int))=false:=decide_eq_false (by omega)
  refine ah rfl rfl Tryz.func144 rfl Tryz.ntmps144 ⟨by simp,by simp[LK]⟩ ?_
  simp only[go_sem,reduceLT,reduceCtorEq,reduceEqDiff,Nat.reduceBEq,reduceAdd,reduceSub,reduceLeDiff,af ak,ag ak,ab aF bQ,hr,hlt,az]
 | cons v r' =>
  rw[hd] at h;obtain⟨k,t',c'⟩:=v;obtain⟨g1,g2,g3⟩:=ia hd;have hk:(k==kind)=false:=by
   rw[beq_eq_false_iff_ne];intro hh;unfold Sl.eP at h;simp only at h;rw[if_pos hh] at h;cases h
  have hlt:decide ((i:Int)<(l.length:Int))=true:=decide_eq_true (by omega)
  have hget:=fJ l i k t' c' g1
  refine ah rfl rfl Tryz.func144 rfl Tryz.ntmps144 ⟨by simp,by simp[LK]⟩ ?_
  simp only[go_sem,reduceLT,reduceCtorEq,reduceEqDiff,Nat.reduceBEq,reduceAdd,reduceSub,reduceLeDiff,af ak,ag ak,ab aF bQ,hr,hlt,hget,Int.natCast_nonneg,az,hk]
theorem kH (l:List Val):(tk0 8 l).kind=8↔∃ v r,l=v::r∧Sl.ay v=true:=by
 cases l with
 | nil=>simp[tk0,Sl.tokK,Ne.tok0]
 | cons v r =>
  obtain⟨k,t,c⟩:=v;constructor
  ·intro h;refine⟨_,_,rfl,?_⟩
   by_cases hh:k=1∧t.kind=8
   ·obtain⟨rfl,h2⟩:=hh;simp[Sl.ay,h2]
   ·rw[lW hh] at h;cases h
  ·rintro ⟨v',r',h,hb⟩
   cases h
   simp[Sl.ay] at hb;rw[ny hb];exact hb.2
abbrev oA (l:List Val) (i0 i:Nat) (bad:Bool):St :=
  { sl:=upd (upd bot 3 (I i0)) 0 P0,bx:=upd nobox 100000 (some (rb0 l i bad)),nt:=25 }
noncomputable def bllp:Code:=.loop (ap Tryz.f146 2)
theorem BK (l:List Val) (i0 i:Nat) (bad:Bool) (hl:l.length≤100000000) (hi:i<l.length) (hb:(tk0 8 (l.drop i)).kind=8) :
  exL K 146 bllp (oA l i0 i bad)=exL K 146 bllp (oA l i0 (i+1) bad):=by
 have ht:=ee l i bad 8 hl
 have e8:((tk0 8 (l.drop i)).kind==8)=true:=by rw[hb];rfl
 have hw:IntKind.i64.wrap ((i:Int)+1)=((i+1:Nat):Int):=bf i (by omega)
 unfold bllp
 conv in ap _ _=>whnf
 conv in ap _ _=>whnf
 conv in exL _ _ _ (oA l i0 i bad)=>rw[aq]
 simp only[go_sem,reduceLT,reduceCtorEq,reduceEqDiff,Nat.reduceBEq,reduceAdd,reduceLeDiff,ht,e8,hw];rw[au];simp only[go_sem,reduceCtorEq,reduceEqDiff]
theorem uV (l:List Val) (i0 i:Nat) (bad:Bool) (hl:l.length≤100000000) (hb:(tk0 8 (l.drop i)).kind≠8) :
  Ends (exL K 146 bllp (oA l i0 i bad)) fun o S=>o=.exit 0∧S.nt=25∧S.sl 0=P0∧S.sl 3=I i0∧S.bx 100000=some (rb0 l i bad):=by
 have ht:=ee l i bad 8 hl
 have e8:((tk0 8 (l.drop i)).kind==8)=false:=by rw[beq_eq_false_iff_ne];exact hb
 unfold bllp
 conv in ap _ _=>whnf
 rw[aq];simp only[go_sem,reduceLT,reduceCtorEq,reduceEqDiff,Nat.reduceBEq,reduceAdd,ht,e8,ar]
theorem qm (l:List Val) (i0:Nat) (bad:Bool) (hl:l.length≤100000000):∀ (rest:List Val) (i:Nat),l.drop i=rest→i≤l.length →
  Ends (exL K 146 bllp (oA l i0 i bad)) fun o S=>o=.exit 0∧S.nt=25∧∃ j:Nat,l.drop j=rest.dropWhile Sl.ay∧i≤j∧j≤l.length∧S.sl 0=P0∧S.sl 3=I i0∧S.bx 100000=some (rb0 l j bad)
 | [],i,hd,hi=>by
  have hb:(tk0 8 (l.drop i)).kind≠8:=by rw[hd];decide
  refine bu (uV l i0 i bad hl hb) fun o S q=>⟨q.1,q.2.1,i,by rw[hd];rfl,Nat.le_refl _,hi,q.2.2⟩
 | v::rest,i,hd,hi=>by
  obtain⟨g1,g2,g3⟩:=ia hd;cases hb:Sl.ay v with
  | true =>
   have h8:(tk0 8 (l.drop i)).kind=8:=by rw[hd];exact(kH _).2 ⟨v,rest,rfl,hb⟩
   rw[BK l i0 i bad hl g3 h8,List.dropWhile_cons,if_pos hb];refine bu (qm l i0 bad hl rest (i+1) g2 g3) fun o S q => ?_
   obtain⟨q1,q2,j,q3,q4,q5⟩:=q;exact⟨q1,q2,j,q3,by omega,q5⟩
  | false =>
   have h8:(tk0 8 (l.drop i)).kind≠8:=by
    rw[hd];intro h;obtain⟨v',r',h1,h2⟩:=(kH _).1 h;cases h1;rw[hb] at h2;cases h2
   refine bu (uV l i0 i bad hl h8) fun o S q=>⟨q.1,q.2.1,i,?_,Nat.le_refl _,hi,q.2.2⟩
   rw[hd,List.dropWhile_cons,if_neg (by rw[hb];simp)]
theorem kg (l:List Val) (i:Nat) (bad:Bool) (hl:l.length≤100000000) (hi:i≤l.length):∃ (b:Bool) (j:Nat),l.drop j=(l.drop i).dropWhile Sl.ay∧i≤j∧j≤l.length ∧
  den K 146 [P0] [rb0 l i bad]=some (.ret (B b) [rb0 l j bad]):=by
 have h:=qm l i bad hl (l.drop i) i rfl hi
 unfold bllp at h
 conv at h in ap _ _=>whnf
 obtain⟨o,S,w,rfl,hn,j,hj1,hj2,hj3,s0,s3,b1⟩:=h;refine⟨decide ((i:Int)<(j:Int)),j,hj1,hj2,hj3,?_⟩
 refine ah rfl rfl Tryz.func146 rfl Tryz.ntmps146 ⟨by simp,by simp[LK]⟩ ?_
 have hr:Tryz.f146.results=#[.tmp 2]:=rfl
 simp only[go_sem,reduceLT,reduceCtorEq,reduceEqDiff,Nat.reduceBEq,reduceAdd];rw[au];simp only[go_sem,reduceCtorEq,reduceEqDiff];erw [w];simp only[go_sem,reduceLT,reduceEqDiff,Nat.reduceBEq,reduceAdd,hr,hn,s0,s3,b1]
attribute [local go_sem] A7 IL py
theorem aJ {α:Type} {ops ops':List Oper} {n j i n' j' i':Nat} {a b:α} (h:(reach ops n j i&&reach ops' n' j' i')=true):(if (reach ops n j i&&reach ops' n' j' i')=true then a else b)=a:=if_pos h
abbrev digH (s:List UInt8) (n:Int) (i:Nat):St :=
  { sl:=upd (upd (upd bot 4 (I i)) 3 (I n)) 0 (T s),bx:=nobox,nt:=38 }
noncomputable def dglp:Code:=.loop (ap Tryz.f101 5)
theorem I7 (s:List UInt8) (n:Int) (i:Nat) (hs:s.length≤4) (hn:0≤n∧n≤999) (c:UInt8) (hi:s[i]? = some c) (hd:Tk.digit c=true) :
  exL K 101 dglp (digH s n i)=exL K 101 dglp (digH s (10*n+((c.toNat:Int) - 48)) (i+1)):=by
 have hil:i<s.length:=(List.getElem?_eq_some_iff.1 hi).1
 have hlt:decide ((i:Int)<(s.length:Int))=true:=decide_eq_true (by omega)
 have hget:s[(i:Int).toNat]? = some c:=by rw[Int.toNat_natCast];exact hi
 have hw:IntKind.i64.wrap ((i:Int)+1)=((i+1:Nat):Int):=bf i (by omega)
 unfold Tk.digit at hd;have hd:=of_decide_eq_true hd
 have d1:decide ((c.toNat:Int)<48)=false:=decide_eq_false (by omega)
 have d2:decide ((57:Int)<(c.toNat:Int))=false:=decide_eq_false (by omega)
 have w1:IntKind.i64.wrap (10*n)=10*n:=IntWalk.i64_in _ (by omega)
 have w2:IntKind.i64.wrap (c.toNat:Int)=(c.toNat:Int):=IntWalk.i64_in _ (by omega)
 have w3:IntKind.i64.wrap (10*n+(c.toNat:Int))=10*n+(c.toNat:Int):=IntWalk.i64_in _ (by omega)
 have w4:IntKind.i64.wrap (10*n+(c.toNat:Int) - 48)=10*n+((c.toNat:Int) - 48):=by rw[IntWalk.i64_in _ (by omega)];omega
 unfold dglp
 conv in ap _ _=>whnf
 conv in ap _ _=>whnf
 conv in exL _ _ _ (digH s n i)=>rw[aq]
 simp only[go_sem,reduceLT,reduceCtorEq,reduceEqDiff,Nat.reduceBEq,reduceAdd,aA al,a8 al,dG d9 cQ,hlt,hget,Int.natCast_nonneg,hw,d1,d2,w1,w2,w3,w4];rw[au];simp only[go_sem,reduceCtorEq,reduceEqDiff]
theorem K6 (s:List UInt8) (n:Int) (i:Nat) (hs:s.length≤4) (c:UInt8) (hi:s[i]? = some c) (hd:Tk.digit c=false) :
  Ends (exL K 101 dglp (digH s n i)) fun o S=>o=.ret∧S.sl 2=I (-1):=by
 have hil:i<s.length:=(List.getElem?_eq_some_iff.1 hi).1
 have hlt:decide ((i:Int)<(s.length:Int))=true:=decide_eq_true (by omega)
 have hget:s[(i:Int).toNat]? = some c:=by rw[Int.toNat_natCast];exact hi
 unfold Tk.digit at hd;have hd:=of_decide_eq_false hd
 unfold dglp
 conv in ap _ _=>whnf
 rw[aq];cases d1:decide ((c.toNat:Int)<48)
 ·have d2:decide ((57:Int)<(c.toNat:Int))=true:=decide_eq_true (by have:=of_decide_eq_false d1;omega)
  simp only[go_sem,reduceLT,reduceCtorEq,reduceEqDiff,Nat.reduceBEq,reduceAdd,aA al,a8 al,hlt,hget,Int.natCast_nonneg,d1,d2,ar]
 ·simp only[go_sem,reduceLT,reduceCtorEq,reduceEqDiff,Nat.reduceBEq,reduceAdd,aA al,a8 al,hlt,hget,Int.natCast_nonneg,d1,ar]
theorem KC (s:List UInt8) (n:Int):Ends (exL K 101 dglp (digH s n s.length)) fun o S=>o=.exit 0∧S.nt=38∧S.sl 3=I n:=by
 unfold dglp
 conv in ap _ _=>whnf
 rw[aq];simp only[go_sem,reduceLT,reduceCtorEq,reduceEqDiff,Nat.reduceBEq,reduceAdd,aA al,ar]
theorem zP (s:List UInt8) (hs:s.length≤4):∀ (rest:List UInt8) (i:Nat) (n:Int),s.drop i=rest→i≤s.length→0≤n→n*(10 ^ rest.length:Int)+(10 ^ rest.length:Int)≤10000 →
  Ends (exL K 101 dglp (digH s n i)) fun o S=>if rest.all Tk.digit then o=.exit 0∧S.nt=38∧S.sl 3=I (rest.foldl (fun n c=>10*n+((c.toNat:Int) - 48)) n) else o=.ret∧S.sl 2=I (-1)
 | [],i,n,hd,hi,h0,h1=>by
  have hin:i=s.length:=by
   have:=List.drop_eq_nil_iff.1 hd
   omega
  subst hin;exact KC s n
 | c::rest,i,n,hd,hi,h0,h1=>by
  obtain⟨g1,g2,g3⟩:=bE hd;rw[List.length_cons,Int.pow_succ] at h1;have hp:(1:Int)≤10 ^ rest.length:=by
   have:(0:Int)<10 ^ rest.length:=Int.pow_pos (by omega)
   omega
  have h2:n*(10 ^ rest.length*10)=10*n*10 ^ rest.length:=by
   rw[Int.mul_comm (10 ^ rest.length) 10,←Int.mul_assoc,Int.mul_comm n 10]
  rw[h2] at h1;generalize hP:(10:Int) ^ rest.length=P at *
  cases hc:Tk.digit c with
  | true =>
   have hcc:=hc
   unfold Tk.digit at hcc;have hcc:=of_decide_eq_true hcc
   have h3:10*n≤10*n*P:=by
    have:10*n*1≤10*n*P:=Int.mul_le_mul_of_nonneg_left hp (by omega)
    omega
   have h4:(10*n+((c.toNat:Int) - 48))*P≤10*n*P+9*P:=by
    rw[Int.add_mul];have:((c.toNat:Int) - 48)*P≤9*P:=Int.mul_le_mul_of_nonneg_right (by omega) (by omega)
    omega
   rw[I7 s n i hs (by omega) c g1 hc]
   have ih:=zP s hs rest (i+1) (10*n+((c.toNat:Int) - 48)) g2 (by omega) (by omega) (by rw[hP];omega)
   rw[List.all_cons,hc,Bool.true_and,List.foldl_cons];exact ih
  | false =>
   refine bu (K6 s n i hs c g1 hc) fun o S q => ?_
   rw[List.all_cons,hc,Bool.false_and,if_neg (by simp)]
   exact q
theorem Ba (s:List UInt8):den K 101 [T s] []=some (.ret (I (Sl.digits s)) []):=by
 have hr:Tryz.f101.results=#[.tmp 2]:=rfl
 unfold Sl.digits;by_cases h1:s.length<1
 ·have e1:decide ((s.length:Int)<1)=true:=decide_eq_true (by omega)
  rw[if_pos (.inl h1)];refine ah rfl rfl Tryz.func101 rfl Tryz.ntmps101 ⟨by simp,by simp[LK]⟩ ?_
  simp only[go_sem,reduceLT,reduceCtorEq,reduceEqDiff,Nat.reduceBEq,reduceAdd,aA al,hr,e1]
 ·have e1:decide ((s.length:Int)<1)=false:=decide_eq_false (by omega)
  by_cases h2:4<s.length
  ·have e2:decide ((4:Int)<(s.length:Int))=true:=decide_eq_true (by omega)
   rw[if_pos (.inr h2)];refine ah rfl rfl Tryz.func101 rfl Tryz.ntmps101 ⟨by simp,by simp[LK]⟩ ?_
   simp only[go_sem,reduceLT,reduceCtorEq,reduceEqDiff,Nat.reduceBEq,reduceAdd,aA al,hr,e1,e2]
  ·have e2:decide ((4:Int)<(s.length:Int))=false:=decide_eq_false (by omega)
   rw[if_neg (by omega)]
   have hp:(10:Int) ^ s.length≤10000:=by
    have:s.length=1∨s.length=2∨s.length=3∨s.length=4:=by omega
    rcases this with h|h|h|h<;>rw[h]<;>decide
   have h:=zP s (by omega) s 0 0 rfl (Nat.zero_le _) (by omega) (by omega)
   unfold dglp at h
   conv at h in ap _ _=>whnf
   obtain⟨o,S,w,hq⟩:=h;refine ah rfl rfl Tryz.func101 rfl Tryz.ntmps101 ⟨by simp,by simp[LK]⟩ ?_
   simp only[go_sem,reduceLT,reduceCtorEq,reduceEqDiff,Nat.reduceBEq,reduceAdd,aA al,e1,e2];rw[au];simp only[go_sem,reduceCtorEq,reduceEqDiff];erw [w];cases ha:s.all Tk.digit with
   | true =>
    rw[ha,if_pos rfl] at hq;obtain⟨rfl,hn,h3⟩:=hq;simp only[go_sem,reduceLT,reduceEqDiff,Nat.reduceBEq,reduceAdd,hr,hn,h3]
   | false =>
    rw[ha,if_neg (by simp)] at hq
    obtain⟨rfl,h2⟩:=hq;simp only[go_sem,hr,h2]
theorem yO:∀ (s:List UInt8) (n:Int),s.all Tk.digit=true→0≤n→0≤s.foldl (fun n c=>10*n+((c.toNat:Int) - 48)) n∧s.foldl (fun n c=>10*n+((c.toNat:Int) - 48)) n+1≤(n+1)*10 ^ s.length
 | [],n,_,hn=>by simp;omega
 | c::s,n,h,hn=>by
  rw[List.all_cons,Bool.and_eq_true] at h;have hc:=h.1
  unfold Tk.digit at hc;have hc:=of_decide_eq_true hc
  obtain⟨h1,h2⟩:=yO s (10*n+((c.toNat:Int) - 48)) h.2 (by omega)
  refine⟨h1,?_⟩
  rw[List.foldl_cons,List.length_cons,Int.pow_succ];have hp:(0:Int)<10 ^ s.length:=Int.pow_pos (by omega)
  have h3:(10*n+((c.toNat:Int) - 48)+1)*10 ^ s.length≤(10*(n+1))*10 ^ s.length:=Int.mul_le_mul_of_nonneg_right (by omega) (by omega)
  have h4:(n+1)*(10 ^ s.length*10)=(10*(n+1))*10 ^ s.length:=by
   rw[Int.mul_comm (10 ^ s.length) 10,←Int.mul_assoc,Int.mul_comm (n+1) 10]
  omega
theorem Bj (s:List UInt8) : -1≤Sl.digits s∧Sl.digits s≤9999:=by
 unfold Sl.digits;split
 ·omega
 ·rename_i h;split
  ·rename_i ha;obtain⟨h1,h2⟩:=yO s 0 ha (by omega)
   have hp:(10:Int) ^ s.length≤10000:=by
    have:s.length=1∨s.length=2∨s.length=3∨s.length=4:=by omega
    rcases this with h|h|h|h<;>rw[h]<;>decide
   omega
  ·omega
theorem rx (n:Int):den K 51 [I n] []=some (.ret (B (decide (Sl.few n))) []):=by
 have hv:decide (Sl.few n)=(decide (-9999≤n)&&decide (n≤9999)):=by
  have e:(decide (-9999≤n)&&decide (n≤9999))=decide (-9999≤n∧n≤9999):=(Bool.decide_and ..).symm
  rw[e];exact decide_eq_decide.2 Iff.rfl
 rw[hv];refine ah rfl rfl Tryz.func51 rfl Tryz.ntmps51 ⟨by simp,by simp[LK]⟩ ?_
 have hr:Tryz.f51.results=#[.tmp 2]:=rfl
 cases e1:decide (-9999≤n)
 ·simp only[go_sem,reduceLT,reduceCtorEq,reduceEqDiff,Nat.reduceBEq,reduceAdd,hr,e1]
 ·simp only[go_sem,reduceLT,reduceCtorEq,reduceEqDiff,Nat.reduceBEq,reduceAdd,hr,e1]
theorem sD (l:List Val) (i:Nat) (bad:Bool) (hl:l.length≤100000000):den K 93 [P0] [rb0 l i bad]=some (.ret (B (Sl.over (l.drop i))) [rb0 l i bad]):=by
 have hr:Tryz.f93.results=#[.tmp 2]:=rfl
 have ht:=ee l i bad 8 hl
 cases hd:l.drop i with
 | nil =>
  have hle:l.length≤i:=List.drop_eq_nil_iff.1 hd
  have hlt:decide ((l.length:Int)≤(i:Int))=true:=decide_eq_true (by omega)
  have hv:Sl.over []=true:=rfl
  rw[hv];refine ah rfl rfl Tryz.func93 rfl Tryz.ntmps93 ⟨by simp,by simp[LK]⟩ ?_
  simp only[go_sem,reduceLT,reduceCtorEq,reduceEqDiff,Nat.reduceBEq,reduceAdd,af ak,hr,hlt,az]
 | cons v r =>
  obtain⟨g1,g2,g3⟩:=ia hd;have hlt:decide ((l.length:Int)≤(i:Int))=false:=decide_eq_false (by omega)
  cases hb:Sl.ay v with
  | true =>
   have h8:(tk0 8 (l.drop i)).kind=8:=by rw[hd];exact(kH _).2 ⟨v,r,rfl,hb⟩
   have e8:((tk0 8 (l.drop i)).kind==8)=true:=by rw[h8];rfl
   have hv:Sl.over (v::r)=true:=by unfold Sl.over;simp[hb]
   rw[hv];refine ah rfl rfl Tryz.func93 rfl Tryz.ntmps93 ⟨by simp,by simp[LK]⟩ ?_
   simp only[go_sem,reduceLT,reduceCtorEq,reduceEqDiff,Nat.reduceBEq,reduceAdd,af ak,hr,hlt,ht,e8,az];rw[aJ]
   rotate_left
   ·kernel_rfl
   simp only[go_sem,reduceLT,reduceEqDiff,Nat.reduceBEq]
  | false =>
   have h8:(tk0 8 (l.drop i)).kind≠8:=by
    rw[hd];intro h;obtain⟨v',r',h1,h2⟩:=(kH _).1 h;cases h1;rw[hb] at h2;cases h2
   have e8:((tk0 8 (l.drop i)).kind==8)=false:=by rw[beq_eq_false_iff_ne];exact h8
   have hv:Sl.over (v::r)=((Sl.aW [62] v||Sl.aW [43] v)||Sl.aW [126] v):=by unfold Sl.over;simp[hb]
   rw[hv];obtain⟨k,t,c⟩:=v;have hget:=fJ l i k t c g1
   have s1:=gQ k t c [62]
   have s2:=gQ k t c [43]
   have s3:=gQ k t c [126]
   refine ah rfl rfl Tryz.func93 rfl Tryz.ntmps93 ⟨by simp,by simp[LK]⟩ ?_
   cases e1:Sl.aW [62] (Val.mk k t c)
   ·rw[e1] at s1
    cases e2:Sl.aW [43] (Val.mk k t c)
    ·rw[e2] at s2
     simp only[go_sem,reduceLT,reduceCtorEq,reduceEqDiff,Nat.reduceBEq,reduceAdd,af ak,hr,hlt,ht,e8,az];rw[aJ]
     rotate_left
     ·kernel_rfl
     simp only[go_sem,reduceLT,reduceCtorEq,reduceEqDiff,Nat.reduceBEq,reduceAdd,reduceSub,reduceLeDiff,ag ak,hget,Int.natCast_nonneg];rw[aR]
     rotate_left
     ·kernel_rfl
     simp only[go_sem,reduceLT,reduceEqDiff,Nat.reduceBEq,reduceAdd,reduceSub,reduceLeDiff,s1,s2,s3]
    ·rw[e2] at s2
     simp only[go_sem,reduceLT,reduceCtorEq,reduceEqDiff,Nat.reduceBEq,reduceAdd,af ak,hr,hlt,ht,e8,az];rw[aJ]
     rotate_left
     ·kernel_rfl
     simp only[go_sem,reduceLT,reduceCtorEq,reduceEqDiff,Nat.reduceBEq,reduceAdd,reduceSub,reduceLeDiff,ag ak,hget,Int.natCast_nonneg];rw[aR]
     rotate_left
     ·kernel_rfl
     simp only[go_sem,reduceLT,reduceEqDiff,Nat.reduceBEq,reduceAdd,reduceSub,reduceLeDiff,s1,s2]
   ·rw[e1] at s1
    simp only[go_sem,reduceLT,reduceCtorEq,reduceEqDiff,Nat.reduceBEq,reduceAdd,af ak,hr,hlt,ht,e8,az];rw[aJ]
    rotate_left
    ·kernel_rfl
    simp only[go_sem,reduceLT,reduceCtorEq,reduceEqDiff,Nat.reduceBEq,reduceAdd,reduceSub,reduceLeDiff,ag ak,hget,Int.natCast_nonneg];rw[aR]
    rotate_left
    ·kernel_rfl
    simp only[go_sem,reduceLT,reduceEqDiff,Nat.reduceBEq,reduceAdd,reduceSub,reduceLeDiff,s1]
theorem iu (l:List Val) (i:Nat) (bad:Bool) (hl:l.length≤100000000) (hi:i≤100000000):den K 94 [P0] [rb0 l i bad]=some (.ret (B (Sl.double (l.drop i))) [rb0 l i bad]):=by
 have hr:Tryz.f94.results=#[.tmp 2]:=rfl
 have hw:IntKind.i64.wrap ((i:Int)+1)=((i+1:Nat):Int):=bf i (by omega)
 by_cases h:i+1<l.length
 ·have hlt:decide (((i+1:Nat):Int)<(l.length:Int))=true:=decide_eq_true (by omega)
  have hd1:l.drop i=l[i]::l[i+1]::l.drop (i+1+1):=by
   rw[List.drop_eq_getElem_cons (by omega:i<l.length),List.drop_eq_getElem_cons h]
  have g1:l[i]? = some l[i]:=List.getElem?_eq_getElem (by omega)
  have g2:l[i+1]? = some l[i+1]:=List.getElem?_eq_getElem h
  rw[hd1];generalize l[i]=v at g1
  generalize l[i+1]=u at g2
  have hv:Sl.double (v::u::l.drop (i+1+1))=(Sl.aW [58] v&&Sl.aW [58] u):=rfl
  rw[hv];obtain⟨k,t,c⟩:=v;obtain⟨k',t',c'⟩:=u;have hget:=fJ l i k t c g1
  have hget2:=fJ l (i+1) k' t' c' g2
  have s1:=gQ k t c [58]
  have s2:=gQ k' t' c' [58]
  refine ah rfl rfl Tryz.func94 rfl Tryz.ntmps94 ⟨by simp,by simp[LK]⟩ ?_
  cases e1:Sl.aW [58] (Val.mk k t c)
  ·rw[e1] at s1
   simp only[go_sem,reduceLT,reduceCtorEq,reduceEqDiff,Nat.reduceBEq,reduceAdd,af ak,ag ak,hr,hw,hlt,az,hget,Int.natCast_nonneg,s1]
  ·rw[e1] at s1
   simp only[go_sem,reduceLT,reduceCtorEq,reduceEqDiff,Nat.reduceBEq,reduceAdd,af ak,ag ak,hr,hw,hlt,az,hget,hget2,Int.natCast_nonneg,s1,s2]
 ·have hlt:decide (((i+1:Nat):Int)<(l.length:Int))=false:=decide_eq_false (by omega)
  have hv:Sl.double (l.drop i)=false:=by
   have hlen:(l.drop i).length≤1:=by rw[List.length_drop];omega
   cases hd:l.drop i with
   | nil=>rfl
   | cons v r =>
    cases r with
    | nil=>rfl
    | cons u r=>rw[hd] at hlen;simp at hlen
  rw[hv];refine ah rfl rfl Tryz.func94 rfl Tryz.ntmps94 ⟨by simp,by simp[LK]⟩ ?_
  simp only[go_sem,reduceLT,reduceCtorEq,reduceEqDiff,Nat.reduceBEq,reduceAdd,af ak,hr,hw,hlt,az]
theorem De (l:List Val) (i:Nat) (bad:Bool) (hl:l.length≤100000000) (hi:i≤l.length):∃ j:Nat,l.drop j=(Sl.comb (l.drop i)).2∧i≤j∧j≤l.length ∧
  den K 97 [P0] [rb0 l i bad]=some (.ret (I (Sl.comb (l.drop i)).1) [rb0 l j bad]):=by
 have hr:Tryz.f97.results=#[.tmp 2]:=rfl
 obtain⟨b,m,m1,m2,m3,hb⟩:=kg l i bad hl hi;unfold Sl.comb;simp only[←m1];cases h1:Sl.sign [62] (l.drop m) with
 | some r =>
  obtain⟨s1,s2,s3⟩:=gJ l m bad [62] hl r h1;obtain⟨b',j,j1,j2,j3,hb'⟩:=kg l (m+1) bad hl s3;refine⟨j,by rw[j1,s2],by omega,j3,?_⟩
  refine ah rfl rfl Tryz.func97 rfl Tryz.ntmps97 ⟨by simp,by simp[LK]⟩ ?_
  simp only[go_sem,reduceLT,reduceCtorEq,reduceEqDiff,Nat.reduceBEq,reduceAdd,hr,hb,s1,hb']
 | none =>
  have s1:=fl l m bad [62] hl h1
  cases h2:Sl.sign [43] (l.drop m) with
  | some r =>
   obtain⟨t1,t2,t3⟩:=gJ l m bad [43] hl r h2;obtain⟨b',j,j1,j2,j3,hb'⟩:=kg l (m+1) bad hl t3;refine⟨j,by rw[j1,t2],by omega,j3,?_⟩
   refine ah rfl rfl Tryz.func97 rfl Tryz.ntmps97 ⟨by simp,by simp[LK]⟩ ?_
   simp only[go_sem,reduceLT,reduceCtorEq,reduceEqDiff,Nat.reduceBEq,reduceAdd,hr,hb,s1,t1,hb']
  | none =>
   have t1:=fl l m bad [43] hl h2
   cases h3:Sl.sign [126] (l.drop m) with
   | some r =>
    obtain⟨u1,u2,u3⟩:=gJ l m bad [126] hl r h3;obtain⟨b',j,j1,j2,j3,hb'⟩:=kg l (m+1) bad hl u3;refine⟨j,by rw[j1,u2],by omega,j3,?_⟩
    refine ah rfl rfl Tryz.func97 rfl Tryz.ntmps97 ⟨by simp,by simp[LK]⟩ ?_
    simp only[go_sem,reduceLT,reduceCtorEq,reduceEqDiff,Nat.reduceBEq,reduceAdd,hr,hb,s1,t1,u1,hb']
   | none =>
    have u1:=fl l m bad [126] hl h3
    obtain⟨b',j,j1,j2,j3,hb'⟩:=kg l m bad hl m3;refine⟨j,j1,by omega,j3,?_⟩
    refine ah rfl rfl Tryz.func97 rfl Tryz.ntmps97 ⟨by simp,by simp[LK]⟩ ?_
    simp only[go_sem,reduceLT,reduceCtorEq,reduceEqDiff,Nat.reduceBEq,reduceAdd,hr,hb,s1,t1,u1,hb']
def Prt.enc (p:Prt):List PV:=[.int .i64 p.comb,.sl (p.l.map Sim.enc)]
def Cpx.enc (c:Cpx):List PV:=[.sl (c.parts.map Prt.enc),.str c.pseudo]
structure Prt.Ok (p:Prt):Prop where
 len:p.l.length≤reachBytes
 all:∀ x∈p.l,x.Ok
structure Cpx.Ok (c:Cpx):Prop where
 len:c.parts.length≤reachBytes
 all:∀ p∈c.parts,p.Ok
 pse:c.pseudo.length≤reachBytes
theorem oG {n:Nat} (h:n≤reachBytes):n<9000000000000000000:=by simp[reachBytes] at h;omega
end Go.Abs
