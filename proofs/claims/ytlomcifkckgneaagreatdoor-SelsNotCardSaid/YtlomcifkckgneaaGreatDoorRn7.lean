/-
  WHAT THE FUNCTIONS COMPUTE, layer 1: the scanner's comment, string, number.
  WHAT THE FUNCTIONS COMPUTE, layer 4, the program's reader of selectors: what comes, tokens, signs, blanks, names, numbers.
  WHAT THE FUNCTIONS COMPUTE, layer 4, the document's reader of selectors: numbers; where a compound one ends; combinators.
  WHAT THE FUNCTIONS COMPUTE: selectors and their texts.
  WHAT THE FUNCTIONS COMPUTE, layer 4, the document's reader of selectors: attributes.
  WHAT THE FUNCTIONS COMPUTE, layer 4, the document's reader of selectors: simple selectors.
  WHAT THE FUNCTIONS COMPUTE, layer 4, the document's reader of selectors: an nth; attributes.
  WHAT THE FUNCTIONS COMPUTE, layer 4, the document's reader of selectors: the simple selectors of a compound one.
  WHAT THE FUNCTIONS COMPUTE: complex selectors and lists of them.
  WHAT THE FUNCTIONS COMPUTE, layer 4, the document's reader of selectors: a complex selector.
  WHAT THE FUNCTIONS COMPUTE, layer 1: the scanner's number.
  DATA OF A TYPE: what reads as selectors (as in layer 5's rows, upon the types of layer 3).
-/
import Derived.Test.YtlomcifkckgneaaGreatDoorRn4
import Derived.Test.YtlomcifkckgneaaGreatDoorRn6
set_option linter.unusedSimpArgs false
set_option linter.unusedVariables false
namespace Go.Abs
open Go Go.Proofs
set_option maxRecDepth 10000
attribute [local go_sem] cX bA ce bJ bL cU ci cg aN bD bt bR cz bE opd avOf cvOf St.degAt St.put okPV dQ okAV dc dh dp cG aD if_true Bool.false_eq_true if_false Option.map_some Option.map_none Option.bind_some Option.bind_none dL dG upd List.toList_toArray bX steal bd mvB dx cE co AV.deg CV.deg AV.gv AV.isIter cv cj bK List.length_nil List.length_cons List.filterMap_cons List.filterMap_nil beq_iff_eq List.getElem?_cons_zero List.getElem?_cons_succ Option.getD_some d8 eS Bool.false_and Bool.and_false Bool.and_self K_P fO bO cd bc lend back idx dedup AV.ren CV.ren TV.ren AV.ptrs CV.ptrs cD AV.flat CV.flat bU bH aR cA cQ dV bM aK bS bh bw bI bg ep CV.pv? content bo ownT aV reps pvs chunks bC leave ee cm c9 bF a8 TV.deg TV.av LK CV.plain CV.noBld cK ei bound List.map_cons List.map_nil List.all_cons List.all_nil List.any_cons List.any_nil List.contains_cons List.contains_nil List.elem_cons List.elem_nil List.cons_append List.nil_append List.append_nil List.flatMap_cons List.flatMap_nil List.zip_cons_cons List.zip_nil_left List.zip_nil_right List.take_succ_cons List.take_zero List.take_nil List.drop_succ_cons List.drop_zero List.drop_nil List.isEmpty_nil List.isEmpty_cons Bool.and_true Bool.true_and Bool.or_true Bool.true_or Bool.or_false Bool.false_or Bool.not_true Bool.not_false Nat.add_zero Nat.zero_add Option.isNone_none Option.isNone_some Option.getD_none true_and and_true not_true_eq_false not_false_eq_true decide_true decide_false Nat.le_refl and_self Bool.not_eq_true Nat.sub_self or_true true_or Option.some.injEq List.length_map List.nil_eq and_false false_and AV.live CV.live CV.liveIn dW aO Option.orElse_some Option.orElse_none head a7 aY Int.lt_irrefl List.length_append ite_self dR bQ cF br Key.clash Key.sees Key.writes Nat.lt_irrefl gt_iff_lt cf dD false_or or_false beq_self_eq_true Bool.true_beq Bool.false_beq D2 fe jf gX EU vF wK Fu
def w8 (r:List UInt8):Int:=match Tk.shut r with|some n=>(n:Int) - 2|none => -1
def jy (c:UInt8) (r:List UInt8):Int:=match Tk.inner c r with|some n=>(n:Int)|none => -1
theorem qe : ∀ r:List UInt8,Lib.index r [42,47]=w8 r
 | []=>rfl
 | b::l=>by
  have ih:=qe l
  have e:Lib.index (b::l) [42,47]=if [42,47].isPrefixOf (b::l) then 0 else if Lib.index l [42,47] == -1 then -1 else Lib.index l [42,47]+1:=rfl
  rw[e,ih]
  have hp:([42,47].isPrefixOf (b::l)=true)↔(b=42∧Tk.at0 l=47):=by
   cases l with
   | nil =>
    refine ⟨fun h => ?_,fun h=>absurd h.2 (by decide)⟩
    simp[List.isPrefixOf] at h
   | cons d l =>
    simp only[List.isPrefixOf,Bool.and_true,Bool.and_eq_true,beq_iff_eq,Tk.at0]
    exact ⟨fun h=>⟨h.1.symm,h.2.symm⟩,fun h=>⟨h.1.symm,h.2.symm⟩⟩
  by_cases h:b=42∧Tk.at0 l=47
  ·rw[if_pos (hp.2 h),w8,Tk.shut,if_pos h];rfl
  ·rw[if_neg (fun x=>h (hp.1 x)),w8,w8,Tk.shut,if_neg h]
   cases hs:Tk.shut l with
   | none=>rfl
   | some n =>
    have:=Tk.pL hs
    simp only[Option.map_some]
    rw[if_neg (by rw[beq_iff_eq];omega)]
    omega
theorem rZ (b:UInt8):([10,12,13]:List UInt8).contains b=Tk.ending b:=by
 unfold Tk.ending
 simp only[List.contains_cons,List.contains_nil,Bool.or_false,Bool.or_assoc]
theorem oe (b:UInt8) (l:List UInt8):Lib.containsAny (b::l) [10,12,13]=(Tk.ending b||Lib.containsAny l [10,12,13]):=by
 unfold Lib.containsAny
 have e:Lib.indexAny (b::l) [10,12,13]=if ([10,12,13]:List UInt8).contains b then 0 else if Lib.indexAny l [10,12,13] == -1 then -1 else Lib.indexAny l [10,12,13]+1:=rfl
 rw[e,rZ]
 have hge:=Lib.indexAny_ge [10,12,13] l
 cases Tk.ending b
 ·simp only[Bool.false_eq_true,if_false,Bool.false_or]
  by_cases h:Lib.indexAny l [10,12,13] = -1
  ·rw[if_pos (by rw[h];rfl),h]
  ·rw[if_neg (by simpa using h)]
   exact decide_eq_decide.2 (by omega)
 ·rfl
theorem gV (b:UInt8) (l:List UInt8) (c:UInt8):Lib.indexByte (b::l) c=if b==c then 0 else if Lib.indexByte l c == -1 then -1 else Lib.indexByte l c+1:=rfl
theorem na (c:UInt8) : ∀ r:List UInt8,0≤Lib.indexByte r c→Lib.indexByte r c<(r.length:Int)
 | [],h=>absurd (show (0:Int) ≤ -1 from h) (by decide)
 | b::l,h=>by
  have ih:=na c l
  have hge:=Lib.indexByte_ge l c
  rw[gV] at h ⊢
  simp only[List.length_cons]
  split at h
  ·omega
  ·split at h
   ·omega
   ·rename_i h2
    have:Lib.indexByte l c ≠ -1:=by simpa using h2
    have:=ih (by omega)
    rw[if_neg h2];omega
theorem sU (c:UInt8) : ∀ r:List UInt8,jy c r=if 0≤Lib.indexByte r c∧Lib.containsAny (r.take (Lib.indexByte r c).toNat) [10,12,13]=true then -1 else Lib.indexByte r c
 | []=>rfl
 | b::l=>by
  have ih:=sU c l
  have hge:=Lib.indexByte_ge l c
  by_cases hb:b=c
  ·have e:Lib.indexByte (b::l) c=0:=by rw[gV,if_pos (by simp[hb])]
   have hc0:Lib.containsAny ((b::l).take (0:Int).toNat) [10,12,13]=false:=rfl
   rw[e,jy,Tk.inner,if_pos hb,hc0]
   rfl
  ·by_cases hm:Lib.indexByte l c = -1
   ·have e:Lib.indexByte (b::l) c = -1:=by rw[gV,if_neg (by simpa using hb),hm];rfl
    rw[hm,if_neg (by omega)] at ih
    rw[e,if_neg (by omega),jy,Tk.inner,if_neg hb]
    unfold jy at ih
    cases hi:Tk.inner c l with
    | none=>cases Tk.ending b<;>rfl
    | some n=>rw[hi] at ih;simp only at ih;omega
   ·have e:Lib.indexByte (b::l) c=Lib.indexByte l c+1:=by rw[gV,if_neg (by simpa using hb),if_neg (by simpa using hm)]
    have ht:(Lib.indexByte l c+1).toNat=(Lib.indexByte l c).toNat+1:=by omega
    rw[e,ht,List.take_succ_cons,oe,jy,Tk.inner,if_neg hb]
    unfold jy at ih
    cases he:Tk.ending b
    ·simp only[Bool.false_or,Bool.false_eq_true,if_false]
     by_cases hc:Lib.containsAny (l.take (Lib.indexByte l c).toNat) [10,12,13]=true
     ·rw[if_pos ⟨by omega,hc⟩]
      rw[if_pos ⟨by omega,hc⟩] at ih
      cases hi:Tk.inner c l with
      | none=>rfl
      | some n=>rw[hi] at ih;simp only at ih;omega
     ·rw[if_neg (fun x=>hc x.2)]
      rw[if_neg (fun x=>hc x.2)] at ih
      cases hi:Tk.inner c l with
      | none=>rw[hi] at ih;simp only at ih;omega
      | some n=>rw[hi] at ih;simp only at ih ⊢;simp only[Option.map_some];omega
    ·rw[Bool.true_or,if_pos (⟨by omega,rfl⟩:0≤Lib.indexByte l c+1∧true=true)]
     rfl
theorem AK (s p:List UInt8) (h:s.length<4294967281):den K 193 [T s,T p] []=some (.ret (I (Lib.index s p)) []):=by
 refine eE (F:=p8) rfl ?_
 simp[p8,h]
theorem gW (s:List UInt8) (c:UInt8):den K 179 [T s,U c] []=some (.ret (I (Lib.indexByte s c)) []):=by
 refine eE (F:=gb) rfl ?_
 simp[gb]
theorem rX (s p:List UInt8):den K 177 [T s,T p] []=some (.ret (B (Lib.hasPrefix s p)) []):=eE (F:=kh) rfl rfl
theorem tW (s:List UInt8) (h:s.length<4294967281):den K 230 [T s,T [10,12,13]] []=some (.ret (I (Lib.indexAny s [10,12,13])) []):=by
 refine eE (F:=jC) rfl ?_
 simp[jC,h]
theorem pm (s:List UInt8) (h:s.length<4294967281):den K 212 [T s,T [10,12,13]] []=some (.ret (B (Lib.containsAny s [10,12,13])) []):=by
 have d:=tW s h
 unfold Lib.containsAny
 refine ab rfl rfl Tryz.func212 rfl Tryz.ntmps212 ⟨by simp,by simp[LK]⟩ ?_
 have hr:Tryz.f212.results = #[.tmp 4]:=rfl
 simp only[go_sem,Nat.reduceLT,reduceCtorEq,Nat.reduceEqDiff,Nat.reduceBEq,Nat.reduceAdd,hr,d]
theorem wZ (s:List UInt8) (x:TS) (hs:s.length<4000000000) (h:2≤s.length):den K 178 [P0] [scan s x]=some (.ret (.tup []) [scan (s.drop (Tk.comment (s.drop 2))) x]):=by
 have hi:=AK (s.drop 2) [42,47] (by simp;omega)
 rw[qe] at hi
 unfold w8 at hi
 refine ab rfl rfl Tryz.func178 rfl Tryz.ntmps178 ⟨by simp,by simp[LK]⟩ ?_
 have hr:Tryz.f178.results = #[]:=rfl
 have hb:((0:Int)≤2∧(2:Int)≤(s.length:Int))=True:=eq_true (by omega)
 have hd:(s.take s.length).drop 2=s.drop 2:=by rw[List.take_length]
 have t2:Int.toNat 2=2:=rfl
 unfold Tk.comment
 cases hc:Tk.shut (s.drop 2) with
 | none =>
  rw[hc] at hi
  have hsk:=rl s x s.length (Nat.le_refl _)
  have hn:decide ((-1:Int)<0)=true:=by decide
  have hlen:(s.drop 2).length+2=s.length:=by simp;omega
  rw[hlen]
  cases x<;>simp only[TS.cell,scan] at hsk ⊢ <;> simp only[go_sem,Nat.reduceLT,reduceCtorEq,Nat.reduceEqDiff,Nat.reduceBEq,Nat.reduceAdd,aj ao,aq ao,hr,hi,hb,t2,hd,hn,hsk]
 | some n =>
  rw[hc] at hi
  have hle:=Tk.pL hc
  simp only[List.length_drop] at hle
  have hsk:=rl s x (n+2) (by omega)
  have hn:decide ((n:Int) - 2<0)=false:=decide_eq_false (by omega)
  have w1:IntKind.i64.wrap (2+((n:Int) - 2))=(n:Int):=by rw[IntWalk.i64_in _ (by omega)];omega
  have w2:IntKind.i64.wrap ((n:Int)+2)=((n+2:Nat):Int):=by rw[IntWalk.i64_in _ (by omega)];rfl
  cases x<;>simp only[TS.cell,scan] at hsk ⊢ <;> simp only[go_sem,Nat.reduceLT,reduceCtorEq,Nat.reduceEqDiff,Nat.reduceBEq,Nat.reduceAdd,aj ao,aq ao,hr,hi,hb,t2,hd,hn,w1,w2,hsk]
theorem A6 (s:List UInt8) (c:UInt8) (r:List UInt8) (x:TS) (hsr:s=c::r) (hs:s.length<4000000000):den K 183 [P0] [scan s x]=some (.ret (I (jy c r)) [scan s x]):=by
 have hb:((0:Int)≤1∧(1:Int)≤(s.length:Int))=True:=eq_true (by rw[hsr];simp;omega)
 have hd:(s.take s.length).drop 1=r:=by rw[List.take_length,hsr];rfl
 have hcell:s[(0:Int).toNat]? = some c:=by rw[hsr];rfl
 have hrs:r.length≤s.length:=by rw[hsr];simp
 clear hsr
 have hi:=gW r c
 have hge:=Lib.indexByte_ge r c
 have hlt:=na c r
 rw[sU]
 generalize Lib.indexByte r c=n at hi hge hlt
 refine ab rfl rfl Tryz.func183 rfl Tryz.ntmps183 ⟨by simp,by simp[LK]⟩ ?_
 have hr:Tryz.f183.results = #[.tmp 2]:=rfl
 have t1:Int.toNat 1=1:=rfl
 by_cases h0:0≤n
 ·have hc:=pm (r.take n.toNat) (by rw[List.length_take];omega)
  have hn:decide (0≤n)=true:=decide_eq_true h0
  have hb2:((0:Int)≤n∧n≤(r.length:Int))=True:=eq_true (by have:=hlt h0;omega)
  cases hv:Lib.containsAny (r.take n.toNat) [10,12,13]
  ·rw[hv] at hc
   rw[if_neg (fun e=>by cases e.2)]
   cases x<;>simp only[TS.cell,scan]<;>simp only[go_sem,Nat.reduceLT,reduceCtorEq,Nat.reduceEqDiff,Nat.reduceBEq,Nat.reduceAdd,aj ao,aI ao,aj aa,hr,hi,hb,hd,hn,t1,hb2,hc,hcell,Int.le_refl]
  ·rw[hv] at hc
   rw[if_pos ⟨h0,rfl⟩]
   cases x<;>simp only[TS.cell,scan]<;>simp only[go_sem,Nat.reduceLT,reduceCtorEq,Nat.reduceEqDiff,Nat.reduceBEq,Nat.reduceAdd,aj ao,aI ao,aj aa,hr,hi,hb,hd,hn,t1,hb2,hc,hcell,Int.le_refl]
 ·have hn:decide (0≤n)=false:=decide_eq_false h0
  rw[if_neg (fun e=>h0 e.1)]
  cases x<;>simp only[TS.cell,scan]<;>simp only[go_sem,Nat.reduceLT,reduceCtorEq,Nat.reduceEqDiff,Nat.reduceBEq,Nat.reduceAdd,aj ao,aI ao,hr,hi,hb,hd,hn,t1,hcell,Int.le_refl]
attribute [local go_sem] jI c5 ax gC dK dS aZ tX cx bB bz aL cR yL aE cy Dn ae aG pJ pC fF ck c8 xe yJ jZ
abbrev rdB (l:List Val):List CV:=[.pv (.sl (encL l))]
abbrev cZ:CV := .pv (.ifa 115 [])
def nxCv:List Val→List CV
 | []=>[.pv (.int .i64 0),.pv (.int .i64 0),.pv (.str []),.pv (.int .i64 0),.nils]
 | .mk k t c::_=>iT k t c
theorem qm:nxCv []=[.pv (.int .i64 0),.pv (.int .i64 0),.pv (.str []),.pv (.int .i64 0),.nils]:=rfl
theorem eL (k:Int) (t:Tok) (c r:List Val):nxCv (.mk k t c::r)=[.pv (.int .i64 k),.pv (.int .i64 t.kind),.pv (.str t.text),.pv (.int .i64 t.n),.pv (.sl (encL c))]:=rfl
theorem dP:den K 40 [B true] []=some (.ret (.tup []) []):=by
 refine ab rfl rfl Tryz.func40 rfl Tryz.ntmps40 ⟨by simp,by simp[LK]⟩ ?_
 have hr:Tryz.f40.results = #[]:=rfl
 simp only[go_sem,Nat.reduceLT,Nat.reduceEqDiff,Nat.reduceBEq,Nat.reduceAdd,ak eH eX,hr]
theorem fM:den K 40 [B false] []=some (.pan cZ []):=by
 refine ab rfl rfl Tryz.func40 rfl Tryz.ntmps40 ⟨by simp,by simp[LK]⟩ ?_
 have hr:Tryz.f40.results = #[]:=rfl
 simp only[go_sem,Nat.reduceLT,Nat.reduceEqDiff,Nat.reduceBEq,Nat.reduceAdd,ak eH eX,hr]
theorem fl (l:List Val) (hl:l.length≤100000000):den K 74 [P0] [rdB l]=some (.ret (.agg (nxCv l)) [rdB l]):=by
 have hr:Tryz.f74.results = #[.cell 2 93]:=rfl
 cases l with
 | nil =>
  have q0:(((0:Nat):Int)==0)=true:=rfl
  rw[qm]
  simp only[rdB]
  refine ab rfl rfl Tryz.func74 rfl Tryz.ntmps74 ⟨by simp,by simp[LK]⟩ ?_
  simp only[go_sem,Nat.reduceLT,reduceCtorEq,Nat.reduceEqDiff,Nat.reduceBEq,Nat.reduceAdd,Nat.reduceSub,Nat.reduceLeDiff,ai ah,ak ax bm,hr,aH,q0]
 | cons v r =>
  obtain ⟨k,t,c⟩:=v
  rw[List.length_cons] at hl
  have hn0:(((r.length+1:Nat):Int)==0)=false:=by rw[beq_eq_false_iff_ne];omega
  have hget:=pZ k t c r
  rw[eL]
  simp only[rdB]
  refine ab rfl rfl Tryz.func74 rfl Tryz.ntmps74 ⟨by simp,by simp[LK]⟩ ?_
  simp only[go_sem,Nat.reduceLT,reduceCtorEq,Nat.reduceEqDiff,Nat.reduceBEq,Nat.reduceAdd,Nat.reduceSub,Nat.reduceLeDiff,ai ah,ak ax bm,am ah,hr,aH,hn0,hget,le00]
theorem ef (k:Int) (t:Tok) (c r:List Val) (hl:r.length≤90000000):den K 77 [P0] [rdB (.mk k t c::r)]=some (.ret (.agg (nxCv (.mk k t c::r))) [rdB r]):=by
 have hr:Tryz.f77.results = #[.cell 2 93]:=rfl
 have h:=fl (.mk k t c::r) (by rw[List.length_cons];omega)
 rw[eL] at h ⊢
 simp only[rdB] at h ⊢
 have hlt:decide ((0:Int)<(((r.length+1:Nat)):Int))=true:=decide_eq_true (by omega)
 have hcut:=uY (.mk k t c) r (r.length+1) rfl
 have hb1:((0:Int)≤1∧(1:Int)≤((r.length+1:Nat):Int))=True:=by rw[eq_iff_iff];simp;omega
 have hlv:=eJ (.mk k t c::r)
 refine ab rfl rfl Tryz.func77 rfl Tryz.ntmps77 ⟨by simp,by simp[LK]⟩ ?_
 simp only[go_sem,Nat.reduceLT,reduceCtorEq,Nat.reduceEqDiff,Nat.reduceBEq,Nat.reduceAdd,Nat.reduceSub,Nat.reduceLeDiff,ai ah,dE ah aZ,hr,aH,h,hlt,hcut,hb1,hlv]
def tokB (kind:Int):List Val→Bool
 | .mk k t _::_=>(k==1)&&(t.kind==kind)
 | []=>false
theorem iE {kind:Int} {l:List Val} {t:Tok} (h:Sl.tokK kind l=some t):tokB kind l=true ∧ ∃ c r,l = .mk 1 t c::r∧t.kind=kind:=by
 cases l with
 | nil=>cases h
 | cons v r =>
  obtain ⟨k,u,c⟩:=v
  unfold Sl.tokK at h
  simp only at h
  split at h
  ·rename_i hh
   cases h
   obtain ⟨rfl,h2⟩:=hh
   exact ⟨by show (((1:Int)==1)&&(t.kind==kind))=true;rw[h2];simp,c,r,rfl,h2⟩
  ·cases h
theorem dq {kind:Int} {l:List Val} (h:Sl.tokK kind l=none):tokB kind l=false:=by
 cases l with
 | nil=>rfl
 | cons v r =>
  obtain ⟨k,u,c⟩:=v
  unfold Sl.tokK at h
  simp only at h
  split at h
  ·cases h
  ·rename_i hh
   show ((k==1)&&(u.kind==kind))=false
   rw[Bool.and_eq_false_iff,beq_eq_false_iff_ne,beq_eq_false_iff_ne]
   by_cases h1:k=1
   ·exact .inr fun h2=>hh ⟨h1,h2⟩
   ·exact .inl h1
theorem cT (l:List Val) (kind:Int) (hl:l.length≤100000000):den K 71 [P0,I kind] [rdB l]=some (.ret (B (tokB kind l)) [rdB l]):=by
 have hr:Tryz.f71.results = #[.tmp 4]:=rfl
 have h:=fl l hl
 cases l with
 | nil =>
  rw[qm] at h
  have q0:((0:Int)==1)=false:=rfl
  show _=(some (.ret (B false) [rdB []]):Option Res)
  simp only[rdB] at h ⊢
  refine ab rfl rfl Tryz.func71 rfl Tryz.ntmps71 ⟨by simp,by simp[LK]⟩ ?_
  simp only[go_sem,Nat.reduceLT,reduceCtorEq,Nat.reduceEqDiff,Nat.reduceBEq,Nat.reduceAdd,hr,h,q0]
 | cons v r =>
  obtain ⟨k,t,c⟩:=v
  rw[eL] at h
  show _=(some (.ret (B ((k==1)&&(t.kind==kind))) [rdB (.mk k t c::r)]):Option Res)
  simp only[rdB] at h ⊢
  cases e1:(k==1)
  ·refine ab rfl rfl Tryz.func71 rfl Tryz.ntmps71 ⟨by simp,by simp[LK]⟩ ?_
   simp only[go_sem,Nat.reduceLT,reduceCtorEq,Nat.reduceEqDiff,Nat.reduceBEq,Nat.reduceAdd,hr,h,e1]
  ·refine ab rfl rfl Tryz.func71 rfl Tryz.ntmps71 ⟨by simp,by simp[LK]⟩ ?_
   simp only[go_sem,Nat.reduceLT,reduceCtorEq,Nat.reduceEqDiff,Nat.reduceBEq,Nat.reduceAdd,Nat.reduceLeDiff,hr,h,e1]
abbrev ixtH (l:List (List UInt8)) (s:List UInt8) (i:Nat):St :=
  { sl:=upd (upd (upd (upd bot 8 (I i)) 7 (I l.length)) 1 (T s)) 0 (L (encT l)),bx:=nobox,nt:=19 }
noncomputable def ixtlp:Code := .loop (ap Tryz.f151 2)
theorem uZ (l:List (List UInt8)) (s:List UInt8) (hl:l.length≤1000000000) : ∀ (rest:List (List UInt8)) (i:Nat),l.drop i=rest→i≤l.length →
  Ends (exL K 151 ixtlp (ixtH l s i)) fun o S=>match rest.findIdx? (s == ·) with
   | none=>o = .exit 0∧S.nt=19
   | some j=>o = .ret∧S.sl 4=I ((i+j:Nat):Int)
 | [],i,hd,hi=>by
  have hin:i=l.length:=by
   have:=List.drop_eq_nil_iff.1 hd
   omega
  subst hin
  have hlt:decide ((l.length:Int)<(l.length:Int))=false:=decide_eq_false (by omega)
  unfold ixtlp
  conv in ap _ _=>whnf
  rw[aw]
  simp only[go_sem,Nat.reduceLT,reduceCtorEq,Nat.reduceEqDiff,Nat.reduceBEq,aB,List.findIdx?_nil]
 | x::rest,i,hd,hi=>by
  obtain ⟨g1,g2,g3⟩:=bZ hd
  have hlt:decide ((i:Int)<(l.length:Int))=true:=decide_eq_true (by omega)
  have hget:=HO l i x g1
  have ih:=uZ l s hl rest (i+1) g2 (by omega)
  have hws:IntKind.i64.wrap ((i:Int)+1)=((i+1:Nat):Int):=bu i (by omega)
  unfold ixtlp at ih ⊢
  conv at ih in ap _ _=>whnf
  rw[List.findIdx?_cons]
  conv in ap _ _=>whnf
  rw[aw]
  cases hv:(s==x)
  ·rw[if_neg (by simp)]
   simp only[go_sem,Nat.reduceLT,reduceCtorEq,Nat.reduceEqDiff,Nat.reduceBEq,Nat.reduceAdd,am ay,hlt,hget,Int.natCast_nonneg,hv,hws]
   rw[az]
   simp only[go_sem,reduceCtorEq,Nat.reduceEqDiff]
   refine bN ih fun o S q => ?_
   cases hf:rest.findIdx? (s == ·) with
   | none=>rw[hf] at q;exact q
   | some j =>
    rw[hf] at q
    refine ⟨q.1,q.2.trans ?_⟩
    rw[show i+1+j=i+(j+1) by omega]
  ·rw[if_pos rfl]
   simp only[go_sem,Nat.reduceLT,reduceCtorEq,Nat.reduceEqDiff,Nat.reduceBEq,Nat.reduceAdd,am ay,hlt,hget,Int.natCast_nonneg,hv,aB,Nat.add_zero]
theorem xw (l:List (List UInt8)) (s:List UInt8) (hl:l.length≤1000000000) :
  den K 151 [L (encT l),T s] []=some (.ret (I (ixI (l.findIdx? (s == ·)))) []):=by
 have hr:Tryz.f151.results = #[.tmp 4]:=rfl
 have h:=uZ l s hl l 0 rfl (Nat.zero_le _)
 unfold ixtlp at h
 conv at h in ap _ _=>whnf
 obtain ⟨o,S',w,hq⟩:=h
 have z0:((0:Nat):Int)=0:=rfl
 simp only[ixtH,z0] at w
 refine ab rfl rfl Tryz.func151 rfl Tryz.ntmps151 ⟨by simp,by simp[LK]⟩ ?_
 cases hf:l.findIdx? (s == ·) with
 | none =>
  rw[hf] at hq
  obtain ⟨rfl,hn⟩:=hq
  unfold ixI
  simp only[go_sem,Nat.reduceLT,reduceCtorEq,Nat.reduceEqDiff,Nat.reduceBEq,Nat.reduceAdd,ai ay,vh]
  rw[az]
  simp only[go_sem,reduceCtorEq,Nat.reduceEqDiff]
  erw [w]
  simp only[go_sem,Nat.reduceLT,Nat.reduceBEq,hr,hn]
 | some j =>
  rw[hf] at hq
  obtain ⟨rfl,h4⟩:=hq
  rw[Nat.zero_add] at h4
  unfold ixI
  simp only[go_sem,Nat.reduceLT,reduceCtorEq,Nat.reduceEqDiff,Nat.reduceBEq,Nat.reduceAdd,ai ay,vh]
  rw[az]
  simp only[go_sem,reduceCtorEq,Nat.reduceEqDiff]
  erw [w]
  simp only[go_sem,hr,h4]
theorem lm (l:List (List UInt8)) (s:List UInt8) (hl:l.length≤1000000000) :
  den K 106 [L (encT l),T s] []=some (.ret (B (l.any (s == ·))) []):=by
 have hr:Tryz.f106.results = #[.tmp 4]:=rfl
 have h:=xw l s hl
 rw[←HV]
 refine ab rfl rfl Tryz.func106 rfl Tryz.ntmps106 ⟨by simp,by simp[LK]⟩ ?_
 simp only[go_sem,Nat.reduceLT,reduceCtorEq,Nat.reduceEqDiff,Nat.reduceBEq,Nat.reduceAdd,hr,h]
def mf (ss:List (List UInt8)):List Val→Option (List UInt8×List Val)
 | .mk k t _::r=>if k=1∧t.kind=7∧t.n=0∧ss.any (t.text == ·)=true then some (t.text,r) else none
 | []=>none
def sa (ss:List (List UInt8)) (l:List Val):Option Res:=match mf ss l with
 | some (s,r)=>some (.ret (T s) [rdB r])
 | none=>some (.ret (T []) [rdB l])
set_option maxHeartbeats 4000000 in
theorem kt (l:List Val) (ss:List (List UInt8)) (hl:l.length≤90000000) (hs:ss.length≤1000):den K 78 [P0,L (encT ss)] [rdB l]=sa ss l:=by
 have hr:Tryz.f78.results = #[.tmp 4]:=rfl
 have h:=fl l (by omega)
 have ht:=cT l 7 (by omega)
 unfold sa
 cases l with
 | nil =>
  rw[qm] at h
  simp only[mf,rdB,tokB] at h ht ⊢
  refine ab rfl rfl Tryz.func78 rfl Tryz.ntmps78 ⟨by simp,by simp[LK]⟩ ?_
  simp only[go_sem,Nat.reduceLT,reduceCtorEq,Nat.reduceEqDiff,Nat.reduceBEq,Nat.reduceAdd,Nat.reduceSub,Nat.reduceLeDiff,hr,h,ht]
 | cons v r =>
  obtain ⟨k,t,c⟩:=v
  rw[eL] at h
  have hk:=ef k t c r (by rw[List.length_cons] at hl;omega)
  have hc:=lm ss t.text (by omega)
  rw[eL] at hk
  simp only[mf,rdB,tokB] at h ht hk ⊢
  cases e1:(k==1)
  ·have n1:k≠1:=by simpa using e1
   rw[if_neg fun h=>n1 h.1]
   refine ab rfl rfl Tryz.func78 rfl Tryz.ntmps78 ⟨by simp,by simp[LK]⟩ ?_
   simp only[go_sem,Nat.reduceLT,reduceCtorEq,Nat.reduceEqDiff,Nat.reduceBEq,Nat.reduceAdd,Nat.reduceSub,Nat.reduceLeDiff,hr,h,ht,e1]
  ·have n1:k=1:=by simpa using e1
   cases e2:(t.kind==7)
   ·have n2:t.kind≠7:=by simpa using e2
    rw[if_neg fun h=>n2 h.2.1]
    refine ab rfl rfl Tryz.func78 rfl Tryz.ntmps78 ⟨by simp,by simp[LK]⟩ ?_
    simp only[go_sem,Nat.reduceLT,reduceCtorEq,Nat.reduceEqDiff,Nat.reduceBEq,Nat.reduceAdd,Nat.reduceSub,Nat.reduceLeDiff,hr,h,ht,e1,e2]
   ·have n2:t.kind=7:=by simpa using e2
    cases e3:(t.n==0)
    ·have n3:t.n≠0:=by simpa using e3
     rw[if_neg fun h=>n3 h.2.2.1]
     refine ab rfl rfl Tryz.func78 rfl Tryz.ntmps78 ⟨by simp,by simp[LK]⟩ ?_
     simp only[go_sem,Nat.reduceLT,reduceCtorEq,Nat.reduceEqDiff,Nat.reduceBEq,Nat.reduceAdd,Nat.reduceSub,Nat.reduceLeDiff,hr,h,ht,e1,e2,e3]
    ·have n3:t.n=0:=by simpa using e3
     cases e4:ss.any (t.text == ·)
     ·rw[if_neg fun h=>absurd h.2.2.2 (by simp)]
      refine ab rfl rfl Tryz.func78 rfl Tryz.ntmps78 ⟨by simp,by simp[LK]⟩ ?_
      simp only[go_sem,Nat.reduceLT,reduceCtorEq,Nat.reduceEqDiff,Nat.reduceBEq,Nat.reduceAdd,Nat.reduceSub,Nat.reduceLeDiff,hr,h,ht,e1,e2,e3,hc,e4]
     ·rw[if_pos ⟨n1,n2,n3,rfl⟩]
      refine ab rfl rfl Tryz.func78 rfl Tryz.ntmps78 ⟨by simp,by simp[LK]⟩ ?_
      simp only[go_sem,Nat.reduceLT,reduceCtorEq,Nat.reduceEqDiff,Nat.reduceBEq,Nat.reduceAdd,Nat.reduceSub,Nat.reduceLeDiff,hr,h,ht,e1,e2,e3,hc,e4,hk]
theorem sD (s:List UInt8) (l:List Val):mf [s] l=(Sl.sign s l).map fun r=>(s,r):=by
 cases l with
 | nil=>rfl
 | cons v r =>
  obtain ⟨k,t,c⟩:=v
  have hs:Sl.aJ s (.mk k t c)=true↔k=1∧t=⟨7,s,0⟩:=by
   show ((k==1)&&decide (t=⟨7,s,0⟩))=true↔_
   simp
  unfold mf Sl.sign
  simp only[List.any_cons,List.any_nil,Bool.or_false,beq_iff_eq]
  by_cases h:k=1∧t.kind=7∧t.n=0∧t.text=s
  ·obtain ⟨h1,h2,h3,h4⟩:=h
   have e:t=⟨7,s,0⟩:=by cases t;simp_all
   rw[if_pos ⟨h1,h2,h3,h4⟩,if_pos (hs.2 ⟨h1,e⟩),h4]
   rfl
  ·rw[if_neg h,if_neg fun x=>h (by obtain ⟨x1,x2⟩:=hs.1 x;rw[x2];exact ⟨x1,rfl,rfl,rfl⟩)]
   rfl
theorem gq {s:List UInt8} {l r:List Val} (hl:l.length≤90000000) (h:Sl.sign s l=some r):den K 78 [P0,L [[.str s]]] [rdB l]=some (.ret (T s) [rdB r]):=by
 have:=kt l [s] hl (by simp)
 unfold sa at this
 rw[sD,h] at this
 exact this
theorem d7 {s:List UInt8} {l:List Val} (hl:l.length≤90000000) (h:Sl.sign s l=none):den K 78 [P0,L [[.str s]]] [rdB l]=some (.ret (T []) [rdB l]):=by
 have:=kt l [s] hl (by simp)
 unfold sa at this
 rw[sD,h] at this
 exact this
theorem qo (v:Val) (r:List Val):tokB 8 (v::r)=Sl.al v:=by obtain ⟨k,t,c⟩:=v;rfl
abbrev xu (l:List Val) (w:Bool):St := { sl:=upd (upd bot 3 (B w)) 0 P0,bx:=upd nobox 100000 (some (rdB l)),nt:=9 }
noncomputable def rdblp:Code := .loop (ap Tryz.f141 2)
theorem Fd (v:Val) (r:List Val) (w:Bool) (hl:r.length≤80000000) (hb:Sl.al v=true) :
  exL K 141 rdblp (xu (v::r) w)=exL K 141 rdblp (xu r true):=by
 have ht:=cT (v::r) 8 (by rw[List.length_cons];omega)
 rw[qo,hb] at ht
 obtain ⟨k,t,c⟩:=v
 have hk:=ef k t c r (by omega)
 rw[eL] at hk
 simp only[rdB] at ht hk
 unfold rdblp
 conv in ap _ _=>whnf
 conv in ap _ _=>whnf
 conv in exL _ _ _ (xu (.mk k t c::r) w)=>rw[aw]
 simp only[go_sem,Nat.reduceLT,reduceCtorEq,Nat.reduceEqDiff,Nat.reduceBEq,Nat.reduceAdd,ht,hk]
 rw[az]
 simp only[go_sem,reduceCtorEq,Nat.reduceEqDiff]
theorem zY (l:List Val) (w:Bool) (hl:l.length≤80000000) (hb:tokB 8 l=false) :
  Ends (exL K 141 rdblp (xu l w)) fun o S=>o = .exit 0∧S.nt=9∧S.sl 0=P0∧S.sl 3=B w∧S.bx 100000=some (rdB l):=by
 have ht:=cT l 8 (by omega)
 rw[hb] at ht
 simp only[rdB] at ht
 unfold rdblp
 conv in ap _ _=>whnf
 rw[aw]
 simp only[go_sem,Nat.reduceLT,reduceCtorEq,Nat.reduceEqDiff,Nat.reduceBEq,Nat.reduceAdd,ht,aB]
theorem sr : ∀ (l:List Val) (w:Bool),l.length≤80000000→Ends (exL K 141 rdblp (xu l w)) fun o S=>o = .exit 0∧S.nt=9∧S.sl 0=P0∧S.sl 3=B (w||decide ((l.dropWhile Sl.al).length<l.length))∧S.bx 100000=some (rdB (l.dropWhile Sl.al))
 | [],w,hl=>by
  have:=zY [] w hl rfl
  simpa using this
 | v::r,w,hl=>by
  rw[List.length_cons] at hl
  cases hb:Sl.al v with
  | true =>
   rw[Fd v r w (by omega) hb,List.dropWhile_cons,if_pos hb]
   have hlen:=(List.dropWhile_sublist Sl.al (l:=r)).length_le
   have e:decide ((r.dropWhile Sl.al).length<(v::r).length)=true:=decide_eq_true (by rw[List.length_cons];omega)
   rw[e,Bool.or_true]
   refine bN (sr r true (by omega)) fun o S q => ?_
   rw[Bool.true_or] at q
   exact q
  | false =>
   rw[List.dropWhile_cons,if_neg (by rw[hb];simp)]
   have:=zY (v::r) w (by rw[List.length_cons];omega) (by rw[qo,hb])
   simpa using this
theorem kz (l:List Val) (hl:l.length≤80000000):den K 141 [P0] [rdB l]=some (.ret (B (decide ((l.dropWhile Sl.al).length<l.length))) [rdB (l.dropWhile Sl.al)]):=by
 have hr:Tryz.f141.results = #[.tmp 2]:=rfl
 have h:=sr l false hl
 rw[Bool.false_or] at h
 unfold rdblp at h
 conv at h in ap _ _=>whnf
 obtain ⟨o,S,w,rfl,hn,s0,s3,b1⟩:=h
 refine ab rfl rfl Tryz.func141 rfl Tryz.ntmps141 ⟨by simp,by simp[LK]⟩ ?_
 simp only[go_sem,Nat.reduceLT,Nat.reduceBEq]
 rw[az]
 simp only[go_sem,reduceCtorEq,Nat.reduceEqDiff]
 erw [w]
 simp only[go_sem,Nat.reduceLT,Nat.reduceEqDiff,Nat.reduceBEq,Nat.reduceAdd,hr,hn,s3,b1]
def fQ {α:Type} (enc:α→AV) (o:Option (α×List Val)) (r:Option Res):Prop:=match o with
 | some (x,m)=>r=some (.ret (enc x) [rdB m])
 | none => ∃ m,r=some (.pan cZ [rdB m])
theorem gK (l:List Val) (hl:l.length≤80000000):fQ T (Sl.name l) (den K 73 [P0] [rdB l]):=by
 have hr:Tryz.f73.results = #[.tmp 2]:=rfl
 have ht:=cT l 1 (by omega)
 unfold Sl.name
 cases hk:Sl.tokK 1 l with
 | none =>
  rw[dq hk] at ht
  have hm:=fM
  refine ⟨l,?_⟩
  simp only[rdB] at ht ⊢
  refine ab rfl rfl Tryz.func73 rfl Tryz.ntmps73 ⟨by simp,by simp[LK]⟩ ?_
  simp only[go_sem,Nat.reduceLT,reduceCtorEq,Nat.reduceEqDiff,Nat.reduceBEq,hr,ht,hm]
 | some t =>
  obtain ⟨e,c,r,rfl,h1⟩:=iE hk
  rw[e] at ht
  have hm:=dP
  have htk:=ef 1 t c r (by rw[List.length_cons] at hl;omega)
  rw[eL] at htk
  show den K 73 [P0] [rdB (.mk 1 t c::r)]=some (.ret (T t.text) [rdB r])
  simp only[rdB] at ht htk ⊢
  refine ab rfl rfl Tryz.func73 rfl Tryz.ntmps73 ⟨by simp,by simp[LK]⟩ ?_
  simp only[go_sem,Nat.reduceLT,reduceCtorEq,Nat.reduceEqDiff,Nat.reduceBEq,Nat.reduceAdd,Nat.reduceLeDiff,hr,ht,hm,htk]
theorem tB (l:List Val) (hl:l.length≤80000000):fQ I (Sl.numP l) (den K 76 [P0] [rdB l]):=by
 have hr:Tryz.f76.results = #[.tmp 2]:=rfl
 have ht:=cT l 5 (by omega)
 unfold Sl.numP
 cases hk:Sl.tokK 5 l with
 | none =>
  rw[dq hk] at ht
  have hm:=fM
  refine ⟨l,?_⟩
  simp only[rdB] at ht ⊢
  refine ab rfl rfl Tryz.func76 rfl Tryz.ntmps76 ⟨by simp,by simp[LK]⟩ ?_
  simp only[go_sem,Nat.reduceLT,reduceCtorEq,Nat.reduceEqDiff,Nat.reduceBEq,hr,ht,hm]
 | some t =>
  obtain ⟨e,c,r,rfl,h1⟩:=iE hk
  rw[e] at ht
  have hx:=fl (.mk 1 t c::r) (by omega)
  have htk:=ef 1 t c r (by rw[List.length_cons] at hl;omega)
  rw[eL] at htk hx
  simp only
  by_cases hs:t.text=[]
  ·rw[if_pos hs]
   have hm:=dP
   have e0:(t.text==[])=true:=by rw[hs];rfl
   show den K 76 [P0] [rdB (.mk 1 t c::r)]=some (.ret (I t.n) [rdB r])
   simp only[rdB] at ht htk hx ⊢
   refine ab rfl rfl Tryz.func76 rfl Tryz.ntmps76 ⟨by simp,by simp[LK]⟩ ?_
   simp only[go_sem,Nat.reduceLT,reduceCtorEq,Nat.reduceEqDiff,Nat.reduceBEq,Nat.reduceAdd,Nat.reduceLeDiff,hr,ht,hm,hx,htk,e0]
  ·rw[if_neg hs]
   have hm:=fM
   have e0:(t.text==[])=false:=by rw[beq_eq_false_iff_ne];exact hs
   refine ⟨.mk 1 t c::r,?_⟩
   simp only[rdB] at ht htk hx ⊢
   refine ab rfl rfl Tryz.func76 rfl Tryz.ntmps76 ⟨by simp,by simp[LK]⟩ ?_
   simp only[go_sem,Nat.reduceLT,reduceCtorEq,Nat.reduceEqDiff,Nat.reduceBEq,Nat.reduceAdd,Nat.reduceLeDiff,hr,ht,hm,hx,e0]
theorem sn {α:Type} {ops ops':List Oper} {n j i n' j' i':Nat} {a b:α} (h:(reach ops n j i&&reach ops' n' j' i')=true):(if (reach ops n j i&&reach ops' n' j' i')=true then a else b)=a:=if_pos h
mutual
def Sim.enc:Sim→List PV
 | .mk k n v a b l=>[.int .i64 k,.str n,.str v,.int .i64 a,.int .i64 b,.sl (Sim.encL l)]
def Sim.encL:List Sim→List (List PV)
 | []=>[]
 | x::l=>x.enc::Sim.encL l
end
theorem Sim.encL_map (l:List Sim):Sim.encL l=l.map Sim.enc:=by
 induction l with
 | nil=>rfl
 | cons x l ih=>simp only[Sim.encL,List.map_cons,ih]
theorem Sim.enc_mk (k:Int) (n v:List UInt8) (a b:Int) (l:List Sim):(Sim.mk k n v a b l).enc=[.int .i64 k,.str n,.str v,.int .i64 a,.int .i64 b,.sl (l.map Sim.enc)]:=by
 rw[Sim.enc,Sim.encL_map]
def Ia:List Sim→CV
 | [] => .nils
 | x::l => .pv (.sl (Sim.encL (x::l)))
def gz:Sim→List CV
 | .mk k n v a b l=>[.pv (.int .i64 k),.pv (.str n),.pv (.str v),.pv (.int .i64 a),.pv (.int .i64 b),Ia l]
theorem b7 (k:Int) (n v:List UInt8) (a b:Int):gz (.mk k n v a b [])=[.pv (.int .i64 k),.pv (.str n),.pv (.str v),.pv (.int .i64 a),.pv (.int .i64 b),.nils]:=rfl
def TSh (l:List Val):Prop := ∀ t∈Ne.flat l,t.text.length<1000000000
theorem t8 {l m:List Val} (h:TSh l) (hs : ∀ v∈m,v∈l):TSh m:=fun t ht=>by
 obtain ⟨v,hv,ht⟩:=Sl.kT.1 ht
 exact h t (Sl.kT.2 ⟨v,hs v hv,ht⟩)
theorem nh {l:List Val} (h:TSh l):TSh (Sl.trim l):=t8 h fun v hv=>Sl.Fi hv
theorem EV {t:Tok} {c l:List Val} (h:TSh (.mk 1 t c::l)):t.text.length<1000000000:=h t (Sl.kT.2 ⟨.mk 1 t c,by simp,by rw[Ne.dm,if_pos rfl];simp⟩)
theorem Iv {l:List Val} {i:Nat} {t:Tok} {c:List Val} (h:TSh l) (hi:l[i]? = some (.mk 5 t c)):TSh c:=by
 have hm:Val.mk 5 t c∈l:=List.mem_of_getElem? hi
 exact fun x hx=>h x (Sl.kT.2 ⟨_,hm,by rw[Ne.dm,if_neg (by decide),if_pos rfl];simp[hx]⟩)
theorem jA (a b:List Val):Ne.size (a++b)=Ne.size a+Ne.size b:=by
 induction a with
 | nil=>rw[Ne.size];simp
 | cons v a ih=>rw[List.cons_append,Ne.size,Ne.size,ih];omega
theorem qt (p:Val→Bool) (l:List Val):Ne.size (l.dropWhile p)≤Ne.size l:=by
 have h:l.takeWhile p++l.dropWhile p=l:=List.takeWhile_append_dropWhile
 have:=jA (l.takeWhile p) (l.dropWhile p)
 rw[h] at this
 omega
theorem sV (l:List Val):Ne.size l.reverse=Ne.size l:=by
 induction l with
 | nil=>rfl
 | cons v l ih =>
  rw[List.reverse_cons,jA,ih,Ne.size,Ne.size,Ne.size]
  omega
theorem j6 (l:List Val):Ne.size (Sl.trim l)≤Ne.size l:=by
 unfold Sl.trim
 rw[sV]
 have h1:=qt Sl.al (l.dropWhile Sl.al).reverse
 have h2:=qt Sl.al l
 rw[sV] at h1
 omega
def iy (g:List Val→Option (Sim×List Val)) (first:Bool) (l:List Val):Option (Sim×List Val) :=
  match (if first then Sl.tokK 1 l else none) with
  | some t=>some (.mk 2 (Sl.low t.text) [] 0 0 [],l.tail)
  | none =>
  match (if first then Sl.sign [42] l else none) with
  | some r=>some (.mk 1 [] [] 0 0 [],r)
  | none =>
  match Sl.tokK 4 l with
  | some t=>some (.mk 3 t.text [] 0 0 [],l.tail)
  | none =>
  match Sl.sign [46] l with
  | some r=>(Sl.name r).map fun x=>(.mk 4 x.1 [] 0 0 [],x.2)
  | none =>
  match Sl.sign [58] l with
  | some r=>Sl.colon g r
  | none =>
  match Sl.fw 3 l with
  | some x=>(Sl.attr x.1.2).map fun y=>(y,x.2)
  | none=>none
theorem wV (f:Nat) (first:Bool) (l:List Val):Sl.simple (f+1) first l=iy (Sl.simple f true) first l:=rfl
def notG (g:List Val→Option (Sim×List Val)) (c:List Val):Option Sim :=
 match g (Sl.trim c) with
 | some (x,[])=>if x.kind=11 then none else some (.mk 11 [] [] 0 0 [x])
 | _=>none
theorem d6 (k:Int) (n v:List UInt8) (a b:Int) (x:Sim) (l:List Sim):gz (.mk k n v a b (x::l))=[.pv (.int .i64 k),.pv (.str n),.pv (.str v),.pv (.int .i64 a),.pv (.int .i64 b),.pv (.sl (Sim.encL (x::l)))]:=rfl
theorem DZ (x:Sim):Sim.encL [x]=[x.enc]:=rfl
theorem FZ (k:Int) (n v:List UInt8) (a b:Int):(Sim.mk k n v a b []).enc=[.int .i64 k,.str n,.str v,.int .i64 a,.int .i64 b,.sl []]:=rfl
theorem EL (k:Int) (n v:List UInt8) (a b:Int) (x:Sim) (l:List Sim):(Sim.mk k n v a b (x::l)).enc=[.int .i64 k,.str n,.str v,.int .i64 a,.int .i64 b,.sl (Sim.encL (x::l))]:=rfl
def nthA (x:Option (Int×Int)):AV:=match x with
 | some x => .tup [.c (.pv (.int .i64 x.1)),.c (.pv (.int .i64 x.2)),.c (.pv (.int .i64 0))]
 | none => .tup [.c (.pv (.int .i64 0)),.c (.pv (.int .i64 0)),.c (.pv (.int .i64 40))]
theorem nM (l:List Sim):(Sim.encL l).length=l.length:=by rw[Sim.encL_map,List.length_map]
theorem Ct (l:List Sim):lens 6 (Sim.encL l)=true:=by
 rw[Sim.encL_map]
 simp only[lens,List.all_map,List.all_eq_true]
 intro x _
 obtain ⟨k,n,v,a,b,xl⟩:=x
 rfl
theorem E0 (a b c d e f:PV):lens 6 [[a,b,c,d,e,f]]=true:=rfl
theorem xh (a b:List Sim):Sim.encL (a++b)=Sim.encL a++Sim.encL b:=by rw[Sim.encL_map,Sim.encL_map,Sim.encL_map,List.map_append]
theorem GV (acc:List Sim) (k:Int) (n v:List UInt8) (a b:Int):Sim.encL acc++[[.int .i64 k,.str n,.str v,.int .i64 a,.int .i64 b,.sl []]]=Sim.encL (acc++[.mk k n v a b []]):=by rw[xh];rfl
theorem FH (acc:List Sim) (k:Int) (n v:List UInt8) (a b:Int) (x:Sim) (xl:List Sim):Sim.encL acc++[[.int .i64 k,.str n,.str v,.int .i64 a,.int .i64 b,.sl (Sim.encL (x::xl))]]=Sim.encL (acc++[.mk k n v a b (x::xl)]):=by rw[xh];rfl
def Prt.enc (p:Prt):List PV:=[.int .i64 p.comb,.sl (p.l.map Sim.enc)]
def Cpx.enc (c:Cpx):List PV:=[.sl (c.parts.map Prt.enc),.str c.pseudo]
theorem Prt.enc_mk (k:Int) (l:List Sim):(Prt.mk k l).enc=[.int .i64 k,.sl (l.map Sim.enc)]:=rfl
theorem Cpx.enc_mk (l:List Prt) (s:List UInt8):(Cpx.mk l s).enc=[.sl (l.map Prt.enc),.str s]:=rfl
attribute [local go_sem] nc ec f9 jN ia fB kx iA cP gc gM mC km fI mN
theorem AU {α:Type} {ops ops' ops2:List Oper} {n j i n' j' i' n2 j2 i2:Nat} {a b:α} (h:(reach ops n j i&&(reach ops' n' j' i'&&reach ops2 n2 j2 i2))=true):(if (reach ops n j i&&(reach ops' n' j' i'&&reach ops2 n2 j2 i2))=true then a else b)=a:=if_pos h
abbrev encQ (l:List Prt):List (List PV):=l.map Prt.enc
theorem lp (l:List Prt):(encQ l).length=l.length:=List.length_map ..
theorem oA (l:List Prt):lens 2 (encQ l)=true:=by
 simp only[lens,List.all_map,List.all_eq_true]
 intro x _
 rfl
theorem re (a b:PV):lens 2 [[a,b]]=true:=rfl
theorem rK (l:List Prt) (cb:Int) (acc:List Sim):encQ l++[[.int .i64 cb,.sl (Sim.encL acc)]]=encQ (l++[⟨cb,acc⟩]):=by
 show _=(l++[(⟨cb,acc⟩:Prt)]).map Prt.enc
 rw[List.map_append,Sim.encL_map];rfl
attribute [local go_sem] yp rF qM xA uU
def TS.live':TS→TS
 | .nils => .live
 | x=>x
theorem TS.live_toks (x:TS):x.live'.toks=x.toks:=by cases x<;>rfl
abbrev numH (s:List UInt8) (et:Nat) (ct:List (List PV)) (from_ e:Nat) (d:List UInt8) (n:Int) (i:Nat):St :=
  { sl:=upd (upd (upd (upd (upd bot 29 (.c (.iter d i))) 4 (I n)) 3 (I e)) 2 (I from_)) 0 P0,bx:=upd nobox 100000 (some [.pv (.str s),.own et ct]),nt:=72 }
theorem zH (v:Int):(if (999999999:Int)<v then (999999999:Int) else v)=min v 999999999:=by
 split<;>omega
theorem ES (s:List UInt8) (et:Nat) (ct:List (List PV)) (from_ e:Nat) (d:List UInt8) (hd : ∀ b∈d,Tk.digit b=true) : ∀ (rest:List UInt8) (i:Nat) (n:Int),d.drop i=rest→i≤d.length→0≤n→n≤999999999 →
  Ends (exL K 186 (.loop (ap Tryz.f186 6)) (numH s et ct from_ e d n i)) fun o S=>o = .exit 0∧S.sl 0=P0∧S.sl 2=I from_∧S.sl 3=I e∧S.sl 4=I (Tk.num n rest)∧S.nt=72∧S.bx=upd nobox 100000 (some [.pv (.str s),.own et ct]):=by
 intro rest
 induction rest with
 | nil =>
  intro i n hr hi h0 h1
  have hin:i=d.length:=by
   have:=List.drop_eq_nil_iff.1 hr
   omega
  subst hin
  have hlt:(d.length<d.length)=False:=by simp
  conv in ap _ _=>whnf
  rw[aw]
  simp only[go_sem,Nat.reduceLT,reduceCtorEq,Nat.reduceEqDiff,Nat.reduceBEq,Nat.reduceAdd,aB,hlt,Tk.num]
 | cons c rest ih =>
  intro i n hr hi h0 h1
  obtain ⟨g1,g2,g3⟩:=bZ hr
  have hc:Tk.digit c=true:=hd c (List.mem_of_getElem? g1)
  have hcn:48≤c.toNat∧c.toNat≤57:=by simpa[Tk.digit] using hc
  obtain ⟨r,wd,hdec,hw1,hw2,hr2,hcase⟩:=sc d i g3
  have hrc:r=c.toNat∧wd=1:=by
   rcases hcase with ⟨_,hw,b,hb,hbr⟩|⟨_,hall⟩
   ·rw[g1] at hb;cases hb;exact ⟨hbr.symm,hw⟩
   ·have:=hall i c (Nat.le_refl _) (by omega) g1;omega
  obtain ⟨rfl,rfl⟩:=hrc
  have hit:ii d i=i+1:=by unfold ii;rw[hdec]
  have hlt:(i<d.length)=True:=eq_true g3
  have w1:IntKind.i64.wrap (10*n)=10*n:=IntWalk.i64_in _ (by omega)
  have w2:IntKind.i32.wrap ((c.toNat:Int) - 48)=(c.toNat:Int) - 48:=IntWalk.i32_in _ (by omega)
  have w3:IntKind.i64.wrap ((c.toNat:Int) - 48)=(c.toNat:Int) - 48:=IntWalk.i64_in _ (by omega)
  have w4:IntKind.i64.wrap (10*n+((c.toNat:Int) - 48))=10*n+((c.toNat:Int) - 48):=IntWalk.i64_in _ (by omega)
  have hv:Tk.num n (c::rest)=Tk.num (min (10*n+((c.toNat:Int) - 48)) 999999999) rest:=by rw[Tk.num,if_pos hc]
  rw[hv]
  have ih':=ih (i+1) (min (10*n+((c.toNat:Int) - 48)) 999999999) g2 (by omega) (by omega) (by omega)
  conv at ih' in ap _ _=>whnf
  conv in ap _ _=>whnf
  rw[aw]
  simp only[go_sem,Nat.reduceLT,reduceCtorEq,Nat.reduceEqDiff,Nat.reduceBEq,Nat.reduceAdd,cW ui c7,hlt,hdec,hit,w1,w2,w3,w4,pV,jp,List.foldl_cons,List.foldl_nil,zH]
  rw[az]
  simp only[go_sem,reduceCtorEq,Nat.reduceEqDiff]
  exact ih'
set_option maxHeartbeats 8000000 in
theorem q8 (s:List UInt8) (x:TS) (neg:Bool) (from_:Nat) (l:List UInt8) (hf:from_=if neg then 1 else 0) (hl:s.drop from_=l) (hle:from_≤s.length) (h45:(Tk.at0 s==45)=neg) (hs:s.length<4000000000) (hx:x.toks.length<4000000000) :
  den K 186 [P0] [scan s x]=some (.ret (.tup []) [scan (s.drop (from_+(Tk.number neg l).2)) (.wr (x.toks++[(Tk.number neg l).1]))]):=by
 have d0:=my s 0 (by omega)
 rw[List.drop_zero] at d0
 have e45:(((Tk.at0 s).toNat:Int)==45)=neg:=by rw[←h45];exact dJ _ 45
 have hrun:=pT s (by omega) Tk.digit 185 ru rfl lM from_ hle
 rw[hl] at hrun
 have hrl:=Tk.run_le (p:=Tk.digit) l
 have hll:l.length=s.length - from_:=by rw[←hl,List.length_drop]
 have hnum:=Tk.lO (l:=l) (n:=0) (by omega) (by omega)
 have hdig:=Tk.nu (p:=Tk.digit) l
 generalize hk:Tk.run Tk.digit l=k at hrun hrl hdig
 have hle2:from_+k≤s.length:=by omega
 have hde:s.drop (from_+k)=l.drop k:=by rw[←List.drop_drop,hl]
 have dn:=qc s (by omega) (from_+k) hle2
 have da:=my s (from_+k) (by omega)
 rw[hde] at dn da
 have hul:=Tk.m8 (l.drop k)
 rw[List.length_drop] at hul
 have e37:(((Tk.at0 (l.drop k)).toNat:Int)==37)=(Tk.at0 (l.drop k)==37):=dJ _ 37
 have hnn:Tk.num 0 (l.take k)=Tk.num 0 l:=by
  have:l=l.take k++l.drop k:=(List.take_append_drop k l).symm
  conv=>rhs;rw[this]
  rw[Tk.pM hdig]
  exact (Tk.xd (n:=Tk.num 0 (l.take k)) (by rw[←hk];exact Tk.vp Tk.qH l)).symm
 have hin:=fun et ct=>ES s et ct from_ (from_+k) (l.take k) hdig (l.take k) 0 0 rfl (Nat.zero_le _) (by omega) (by omega)
 rw[hnn] at hin
 conv at hin in ap _ _=>whnf
 have hsub:(s.take (from_+k)).drop from_=l.take k:=by rw[List.drop_take,hl];congr 1;omega
 unfold Tk.number
 simp only[hk]
 rw[←Nat.add_assoc]
 generalize hu:Tk.unit (l.drop k)=u at hul
 have hput:=fun v=>Ae s x.live' (from_+k+u) 5 ((l.drop k).take u) v (by omega) (by rw[TS.live_toks];exact hx)
 rw[TS.live_toks] at hput
 have hsub2:(s.take (from_+k+u)).drop (from_+k)=(l.drop k).take u:=by rw[List.drop_take,hde];congr 1;omega
 have b1:((0:Int)≤((from_+k:Nat):Int)∧((from_+k:Nat):Int)≤(s.length:Int))=True:=eq_true (by omega)
 have b2:((0:Int)≤(from_:Int)∧(from_:Int)≤((from_+k:Nat):Int))=True:=eq_true (by omega)
 have b3:((0:Int)≤((from_+k+u:Nat):Int)∧((from_+k+u:Nat):Int)≤(s.length:Int))=True:=eq_true (by omega)
 have b4:((0:Int)≤((from_+k:Nat):Int)∧((from_+k:Nat):Int)≤((from_+k+u:Nat):Int))=True:=eq_true (by omega)
 have w1:IntKind.i64.wrap ((from_:Int)+(k:Int))=((from_+k:Nat):Int):=by rw[IntWalk.i64_in _ (by omega)];rfl
 have w2:IntKind.i64.wrap (((from_+k:Nat):Int)+(u:Int))=((from_+k+u:Nat):Int):=by rw[IntWalk.i64_in _ (by omega)];rfl
 have w3:IntKind.i64.wrap (0 - Tk.num 0 l) = -Tk.num 0 l:=by rw[IntWalk.i64_in _ (by omega)];omega
 have t0:Int.toNat 0=0:=rfl
 have t1:Int.toNat 1=1:=rfl
 have z01:((0:Int)=1)=False:=by simp
 have z0:((0:Nat):Int)=0:=rfl
 have z1:((1:Nat):Int)=1:=rfl
 have hu37:(Tk.at0 (l.drop k)==37)=false→Tk.name (l.drop k)=u:=fun h=>by
  rw[←hu,Tk.unit,if_neg (by simpa using h)]
 have hu1:(Tk.at0 (l.drop k)==37)=true→u=1:=fun h=>by
  rw[←hu,Tk.unit,if_pos (by simpa using h)]
 refine ab rfl rfl Tryz.func186 rfl Tryz.ntmps186 ⟨by simp,by simp[LK]⟩ ?_
 have hr:Tryz.f186.results = #[]:=rfl
 cases neg
 all_goals (
  simp only[Bool.false_eq_true,if_true,if_false] at hf
  subst hf
  simp only[z0,z1,Nat.zero_add] at d0 hrun w1 b1 b2 b3 b4 w2 hin hsub hsub2 hput dn da hu37 hu1 e45
  first|(rw[List.drop_zero] at hl;subst hl)|skip
  cases x)
 ·obtain ⟨o,S',e,rfl,f0,f2,f3,f4,fn,fb⟩:=hin 0 []
  simp only[TS.cell,TS.live',TS.toks,scan,List.map_cons,List.map_nil,Tok.enc,List.nil_append] at hput ⊢
  simp only[go_sem,Nat.reduceLT,reduceCtorEq,Nat.reduceEqDiff,Nat.reduceBEq,Nat.reduceAdd,aj ao,iO ao,d0,e45,hrun,w1,b1,b2,Int.toNat_natCast,hsub,t0]
  rw[az]
  simp only[go_sem,reduceCtorEq,Nat.reduceEqDiff]
  erw [e]
  cases h37:(Tk.at0 (s.drop k)==37)
  ·rw[h37] at e37
   rw[hu37 h37] at dn
   simp only[go_sem,Nat.reduceLT,reduceCtorEq,Nat.reduceEqDiff,Nat.reduceBEq,Nat.reduceAdd,aj ao,hr,z01,f0,f2,f3,f4,fn,fb,dn,da,e37,w2,w3,b3,b4,Int.toNat_natCast,hsub2,hput]
  ·rw[h37] at e37
   rw[hu1 h37] at w2 b3 b4 hput hsub2 ⊢
   simp only[z1] at w2
   simp only[go_sem,Nat.reduceLT,reduceCtorEq,Nat.reduceEqDiff,Nat.reduceBEq,Nat.reduceAdd,aj ao,hr,z01,f0,f2,f3,f4,fn,fb,dn,da,e37,w2,w3,b3,b4,Int.toNat_natCast,hsub2,hput]

 ·obtain ⟨o,S',e,rfl,f0,f2,f3,f4,fn,fb⟩:=hin 0 []
  simp only[TS.cell,TS.live',TS.toks,scan,List.map_cons,List.map_nil,Tok.enc,List.nil_append] at hput ⊢
  simp only[go_sem,Nat.reduceLT,reduceCtorEq,Nat.reduceEqDiff,Nat.reduceBEq,Nat.reduceAdd,aj ao,iO ao,d0,e45,hrun,w1,b1,b2,Int.toNat_natCast,hsub,t0]
  rw[az]
  simp only[go_sem,reduceCtorEq,Nat.reduceEqDiff]
  erw [e]
  cases h37:(Tk.at0 (s.drop k)==37)
  ·rw[h37] at e37
   rw[hu37 h37] at dn
   simp only[go_sem,Nat.reduceLT,reduceCtorEq,Nat.reduceEqDiff,Nat.reduceBEq,Nat.reduceAdd,aj ao,hr,z01,f0,f2,f3,f4,fn,fb,dn,da,e37,w2,w3,b3,b4,Int.toNat_natCast,hsub2,hput]
  ·rw[h37] at e37
   rw[hu1 h37] at w2 b3 b4 hput hsub2 ⊢
   simp only[z1] at w2
   simp only[go_sem,Nat.reduceLT,reduceCtorEq,Nat.reduceEqDiff,Nat.reduceBEq,Nat.reduceAdd,aj ao,hr,z01,f0,f2,f3,f4,fn,fb,dn,da,e37,w2,w3,b3,b4,Int.toNat_natCast,hsub2,hput]

 ·rename_i lt
  obtain ⟨o,S',e,rfl,f0,f2,f3,f4,fn,fb⟩:=hin 91 (lt.map Tok.enc)
  simp only[TS.cell,TS.live',TS.toks,scan,List.map_append,List.map_cons,List.map_nil,Tok.enc] at hput ⊢
  simp only[go_sem,Nat.reduceLT,reduceCtorEq,Nat.reduceEqDiff,Nat.reduceBEq,Nat.reduceAdd,aj ao,iO ao,d0,e45,hrun,w1,b1,b2,Int.toNat_natCast,hsub,t0]
  rw[az]
  simp only[go_sem,reduceCtorEq,Nat.reduceEqDiff]
  erw [e]
  cases h37:(Tk.at0 (s.drop k)==37)
  ·rw[h37] at e37
   rw[hu37 h37] at dn
   simp only[go_sem,Nat.reduceLT,reduceCtorEq,Nat.reduceEqDiff,Nat.reduceBEq,Nat.reduceAdd,aj ao,hr,z01,f0,f2,f3,f4,fn,fb,dn,da,e37,w2,w3,b3,b4,Int.toNat_natCast,hsub2,hput]
  ·rw[h37] at e37
   rw[hu1 h37] at w2 b3 b4 hput hsub2 ⊢
   simp only[z1] at w2
   simp only[go_sem,Nat.reduceLT,reduceCtorEq,Nat.reduceEqDiff,Nat.reduceBEq,Nat.reduceAdd,aj ao,hr,z01,f0,f2,f3,f4,fn,fb,dn,da,e37,w2,w3,b3,b4,Int.toNat_natCast,hsub2,hput]

 ·obtain ⟨o,S',e,rfl,f0,f2,f3,f4,fn,fb⟩:=hin 0 []
  simp only[TS.cell,TS.live',TS.toks,scan,List.map_cons,List.map_nil,Tok.enc,List.nil_append] at hput ⊢
  simp only[go_sem,Nat.reduceLT,reduceCtorEq,Nat.reduceEqDiff,Nat.reduceBEq,Nat.reduceAdd,aj ao,iO ao,d0,e45,hrun,w1,b1,b2,Int.toNat_natCast,hsub,t1]
  rw[az]
  simp only[go_sem,reduceCtorEq,Nat.reduceEqDiff]
  erw [e]
  cases h37:(Tk.at0 (l.drop k)==37)
  ·rw[h37] at e37
   rw[hu37 h37] at dn
   simp only[go_sem,Nat.reduceLT,reduceCtorEq,Nat.reduceEqDiff,Nat.reduceBEq,Nat.reduceAdd,aj ao,hr,f0,f2,f3,f4,fn,fb,dn,da,e37,w2,w3,b3,b4,Int.toNat_natCast,hsub2,hput]
  ·rw[h37] at e37
   rw[hu1 h37] at w2 b3 b4 hput hsub2 ⊢
   simp only[z1] at w2
   simp only[go_sem,Nat.reduceLT,reduceCtorEq,Nat.reduceEqDiff,Nat.reduceBEq,Nat.reduceAdd,aj ao,hr,f0,f2,f3,f4,fn,fb,dn,da,e37,w2,w3,b3,b4,Int.toNat_natCast,hsub2,hput]

 ·obtain ⟨o,S',e,rfl,f0,f2,f3,f4,fn,fb⟩:=hin 0 []
  simp only[TS.cell,TS.live',TS.toks,scan,List.map_cons,List.map_nil,Tok.enc,List.nil_append] at hput ⊢
  simp only[go_sem,Nat.reduceLT,reduceCtorEq,Nat.reduceEqDiff,Nat.reduceBEq,Nat.reduceAdd,aj ao,iO ao,d0,e45,hrun,w1,b1,b2,Int.toNat_natCast,hsub,t1]
  rw[az]
  simp only[go_sem,reduceCtorEq,Nat.reduceEqDiff]
  erw [e]
  cases h37:(Tk.at0 (l.drop k)==37)
  ·rw[h37] at e37
   rw[hu37 h37] at dn
   simp only[go_sem,Nat.reduceLT,reduceCtorEq,Nat.reduceEqDiff,Nat.reduceBEq,Nat.reduceAdd,aj ao,hr,f0,f2,f3,f4,fn,fb,dn,da,e37,w2,w3,b3,b4,Int.toNat_natCast,hsub2,hput]
  ·rw[h37] at e37
   rw[hu1 h37] at w2 b3 b4 hput hsub2 ⊢
   simp only[z1] at w2
   simp only[go_sem,Nat.reduceLT,reduceCtorEq,Nat.reduceEqDiff,Nat.reduceBEq,Nat.reduceAdd,aj ao,hr,f0,f2,f3,f4,fn,fb,dn,da,e37,w2,w3,b3,b4,Int.toNat_natCast,hsub2,hput]

 ·rename_i lt
  obtain ⟨o,S',e,rfl,f0,f2,f3,f4,fn,fb⟩:=hin 91 (lt.map Tok.enc)
  simp only[TS.cell,TS.live',TS.toks,scan,List.map_append,List.map_cons,List.map_nil,Tok.enc] at hput ⊢
  simp only[go_sem,Nat.reduceLT,reduceCtorEq,Nat.reduceEqDiff,Nat.reduceBEq,Nat.reduceAdd,aj ao,iO ao,d0,e45,hrun,w1,b1,b2,Int.toNat_natCast,hsub,t1]
  rw[az]
  simp only[go_sem,reduceCtorEq,Nat.reduceEqDiff]
  erw [e]
  cases h37:(Tk.at0 (l.drop k)==37)
  ·rw[h37] at e37
   rw[hu37 h37] at dn
   simp only[go_sem,Nat.reduceLT,reduceCtorEq,Nat.reduceEqDiff,Nat.reduceBEq,Nat.reduceAdd,aj ao,hr,f0,f2,f3,f4,fn,fb,dn,da,e37,w2,w3,b3,b4,Int.toNat_natCast,hsub2,hput]
  ·rw[h37] at e37
   rw[hu1 h37] at w2 b3 b4 hput hsub2 ⊢
   simp only[z1] at w2
   simp only[go_sem,Nat.reduceLT,reduceCtorEq,Nat.reduceEqDiff,Nat.reduceBEq,Nat.reduceAdd,aj ao,hr,f0,f2,f3,f4,fn,fb,dn,da,e37,w2,w3,b3,b4,Int.toNat_natCast,hsub2,hput]
end Go.Abs
namespace Go.Abs
open Go Go.Proofs
set_option maxRecDepth 100000
def zX:List TypeId:=[4,3,9,91,60,93,23,52,48,50,45,47,31]
theorem CZ:pG Tryz.prog zX=true:=by kernel_rfl
end Go.Abs
