/-
  WHAT THE FUNCTIONS COMPUTE, layer 4, the document's reader of selectors: numbers; where a compound one ends; combinators.
  WHAT THE FUNCTIONS COMPUTE: selectors and their texts.
  WHAT THE FUNCTIONS COMPUTE, layer 4, the document's reader of selectors: attributes.
  WHAT THE FUNCTIONS COMPUTE, layer 4, the document's reader of selectors: simple selectors.
  WHAT THE FUNCTIONS COMPUTE, layer 4, the document's reader of selectors: an nth; attributes.
  WHAT THE FUNCTIONS COMPUTE, layer 4, the document's reader of selectors: the simple selectors of a compound one.
  WHAT THE FUNCTIONS COMPUTE: complex selectors and lists of them.
  WHAT THE FUNCTIONS COMPUTE, layer 4, the document's reader of selectors: a complex selector.
  WHAT THE FUNCTIONS COMPUTE, layer 1: the scanner's number.
  WHAT THE FUNCTIONS COMPUTE, layer 4, the document's 'Same', of selectors and themselves: true.
  Layer 4: what 'Small' says of selectors' parts and texts; that what is read of any values has few parts.
  DATA OF A TYPE: what reads as selectors (as in layer 5's rows, upon the types of layer 3).
-/
import Derived.Lib.ItoaLen
import Derived.Lib.Join
import Derived.Test.YtlomcifkckgneaaGreatDoorRa1
import Derived.Test.YtlomcifkckgneaaGreatDoorRa4
import Derived.Test.YtlomcifkckgneaaGreatDoorRa6
set_option linter.unusedSimpArgs false
set_option linter.unusedVariables false
namespace Go.Abs
open Go Go.Proofs
set_option maxRecDepth 10000
attribute [local go_sem] cA bm bU bD bB cz bQ bS aG bv bq bL cg br opd avOf cvOf St.degAt St.put okPV db okAV cN cM cO cd aq if_true Bool.false_eq_true if_false Option.map_some Option.map_none Option.bind_some Option.bind_none c9 c5 upd List.toList_toArray bO steal aZ mvB cR cf b7 AV.deg CV.deg AV.gv AV.isIter b9 bT bC List.length_nil List.length_cons List.filterMap_cons List.filterMap_nil beq_iff_eq List.getElem?_cons_zero List.getElem?_cons_succ Option.getD_some du d5 Bool.false_and Bool.and_false Bool.and_self K_P eF bF bV aW lend back idx dedup AV.ren CV.ren TV.ren AV.ptrs CV.ptrs ce AV.flat CV.flat bM bz aJ cj cx dp bE aE bK a7 bh bA a8 dP CV.pv? content bf ownT aL reps pvs chunks bu leave dL bW cJ bt aX TV.deg TV.av LK CV.plain CV.noBld cm dF bound List.map_cons List.map_nil List.all_cons List.all_nil List.any_cons List.any_nil List.contains_cons List.contains_nil List.elem_cons List.elem_nil List.cons_append List.nil_append List.append_nil List.flatMap_cons List.flatMap_nil List.zip_cons_cons List.zip_nil_left List.zip_nil_right List.take_succ_cons List.take_zero List.take_nil List.drop_succ_cons List.drop_zero List.drop_nil List.isEmpty_nil List.isEmpty_cons Bool.and_true Bool.true_and Bool.or_true Bool.true_or Bool.or_false Bool.false_or Bool.not_true Bool.not_false Nat.add_zero Nat.zero_add Option.isNone_none Option.isNone_some Option.getD_none true_and and_true not_true_eq_false not_false_eq_true decide_true decide_false Nat.le_refl and_self Bool.not_eq_true Nat.sub_self or_true true_or Option.some.injEq List.length_map List.nil_eq and_false false_and AV.live CV.live CV.liveIn dh aI Option.orElse_some Option.orElse_none head aO aN Int.lt_irrefl List.length_append ite_self dc bI ck bg Key.clash Key.sees Key.writes Nat.lt_irrefl gt_iff_lt bR cW false_or or_false beq_self_eq_true Bool.true_beq Bool.false_beq
theorem rN {α:Type} {ops ops':List Oper} {n j i n' j' i':Nat} {a b:α} (h:(reach ops n j i&&reach ops' n' j' i')=true):(if (reach ops n j i&&reach ops' n' j' i')=true then a else b)=a:=if_pos h
mutual
def Sim.enc:Sim→List PV
 | .mk k n v a b l=>[.int .i64 k,.str n,.str v,.int .i64 a,.int .i64 b,.sl (Sim.encL l)]
def Sim.encL:List Sim→List (List PV)
 | []=>[]
 | x::l=>x.enc::Sim.encL l
end
theorem Sim.encL_map (l:List Sim):Sim.encL l=l.map Sim.enc:=by
 induction l with
 | nil=>rfl
 | cons x l ih=>simp only[Sim.encL,List.map_cons,ih]
theorem Sim.enc_mk (k:Int) (n v:List UInt8) (a b:Int) (l:List Sim):(Sim.mk k n v a b l).enc=[.int .i64 k,.str n,.str v,.int .i64 a,.int .i64 b,.sl (l.map Sim.enc)]:=by
 rw[Sim.enc,Sim.encL_map]
def Ff:List Sim→CV
 | [] => .nils
 | x::l => .pv (.sl (Sim.encL (x::l)))
def fL:Sim→List CV
 | .mk k n v a b l=>[.pv (.int .i64 k),.pv (.str n),.pv (.str v),.pv (.int .i64 a),.pv (.int .i64 b),Ff l]
theorem bZ (k:Int) (n v:List UInt8) (a b:Int):fL (.mk k n v a b [])=[.pv (.int .i64 k),.pv (.str n),.pv (.str v),.pv (.int .i64 a),.pv (.int .i64 b),.nils]:=rfl
def TSh (l:List Val):Prop := ∀ t∈Ne.flat l,t.text.length<1000000000
theorem r6 {l m:List Val} (h:TSh l) (hs : ∀ v∈m,v∈l):TSh m:=fun t ht=>by
 obtain ⟨v,hv,ht⟩:=Sl.jP.1 ht
 exact h t (Sl.jP.2 ⟨v,hs v hv,ht⟩)
theorem n7 {l:List Val} (h:TSh l):TSh (Sl.trim l):=r6 h fun v hv=>Sl.Co hv
theorem AX {t:Tok} {c l:List Val} (h:TSh (.mk 1 t c::l)):t.text.length<1000000000:=h t (Sl.jP.2 ⟨.mk 1 t c,by simp,by rw[Ne.iO,if_pos rfl];simp⟩)
theorem F1 {l:List Val} {i:Nat} {t:Tok} {c:List Val} (h:TSh l) (hi:l[i]? = some (.mk 5 t c)):TSh c:=by
 have hm:Val.mk 5 t c∈l:=List.mem_of_getElem? hi
 exact fun x hx=>h x (Sl.jP.2 ⟨_,hm,by rw[Ne.iO,if_neg (by decide),if_pos rfl];simp[hx]⟩)
theorem iK (a b:List Val):Ne.size (a++b)=Ne.size a+Ne.size b:=by
 induction a with
 | nil=>rw[Ne.size];simp
 | cons v a ih=>rw[List.cons_append,Ne.size,Ne.size,ih];omega
theorem pt (p:Val→Bool) (l:List Val):Ne.size (l.dropWhile p)≤Ne.size l:=by
 have h:l.takeWhile p++l.dropWhile p=l:=List.takeWhile_append_dropWhile
 have:=iK (l.takeWhile p) (l.dropWhile p)
 rw[h] at this
 omega
theorem qL (l:List Val):Ne.size l.reverse=Ne.size l:=by
 induction l with
 | nil=>rfl
 | cons v l ih =>
  rw[List.reverse_cons,iK,ih,Ne.size,Ne.size,Ne.size]
  omega
theorem la (l:List Val):Ne.size (Sl.trim l)≤Ne.size l:=by
 unfold Sl.trim
 rw[qL]
 have h1:=pt Sl.aa (l.dropWhile Sl.aa).reverse
 have h2:=pt Sl.aa l
 rw[qL] at h1
 omega
def gC (g:List Val→Option (Sim×List Val)) (first:Bool) (l:List Val):Option (Sim×List Val) :=
  match (if first then Sl.tokK 1 l else none) with
  | some t=>some (.mk 2 (Sl.low t.text) [] 0 0 [],l.tail)
  | none =>
  match (if first then Sl.sign [42] l else none) with
  | some r=>some (.mk 1 [] [] 0 0 [],r)
  | none =>
  match Sl.tokK 4 l with
  | some t=>some (.mk 3 t.text [] 0 0 [],l.tail)
  | none =>
  match Sl.sign [46] l with
  | some r=>(Sl.name r).map fun x=>(.mk 4 x.1 [] 0 0 [],x.2)
  | none =>
  match Sl.sign [58] l with
  | some r=>Sl.colon g r
  | none =>
  match Sl.ep 3 l with
  | some x=>(Sl.attr x.1.2).map fun y=>(y,x.2)
  | none=>none
theorem vh (f:Nat) (first:Bool) (l:List Val):Sl.simple (f+1) first l=gC (Sl.simple f true) first l:=rfl
def notG (g:List Val→Option (Sim×List Val)) (c:List Val):Option Sim :=
 match g (Sl.trim c) with
 | some (x,[])=>if x.kind=11 then none else some (.mk 11 [] [] 0 0 [x])
 | _=>none
theorem dE (k:Int) (n v:List UInt8) (a b:Int) (x:Sim) (l:List Sim):fL (.mk k n v a b (x::l))=[.pv (.int .i64 k),.pv (.str n),.pv (.str v),.pv (.int .i64 a),.pv (.int .i64 b),.pv (.sl (Sim.encL (x::l)))]:=rfl
theorem Cy (x:Sim):Sim.encL [x]=[x.enc]:=rfl
theorem EP (k:Int) (n v:List UInt8) (a b:Int):(Sim.mk k n v a b []).enc=[.int .i64 k,.str n,.str v,.int .i64 a,.int .i64 b,.sl []]:=rfl
theorem CX (k:Int) (n v:List UInt8) (a b:Int) (x:Sim) (l:List Sim):(Sim.mk k n v a b (x::l)).enc=[.int .i64 k,.str n,.str v,.int .i64 a,.int .i64 b,.sl (Sim.encL (x::l))]:=rfl
def nthA (x:Option (Int×Int)):AV:=match x with
 | some x => .tup [.c (.pv (.int .i64 x.1)),.c (.pv (.int .i64 x.2)),.c (.pv (.int .i64 0))]
 | none => .tup [.c (.pv (.int .i64 0)),.c (.pv (.int .i64 0)),.c (.pv (.int .i64 40))]
theorem lA (l:List Sim):(Sim.encL l).length=l.length:=by rw[Sim.encL_map,List.length_map]
theorem AJ (l:List Sim):lens 6 (Sim.encL l)=true:=by
 rw[Sim.encL_map]
 simp only[lens,List.all_map,List.all_eq_true]
 intro x _
 obtain ⟨k,n,v,a,b,xl⟩:=x
 rfl
theorem B0 (a b c d e f:PV):lens 6 [[a,b,c,d,e,f]]=true:=rfl
theorem vv (a b:List Sim):Sim.encL (a++b)=Sim.encL a++Sim.encL b:=by rw[Sim.encL_map,Sim.encL_map,Sim.encL_map,List.map_append]
theorem Ez (acc:List Sim) (k:Int) (n v:List UInt8) (a b:Int):Sim.encL acc++[[.int .i64 k,.str n,.str v,.int .i64 a,.int .i64 b,.sl []]]=Sim.encL (acc++[.mk k n v a b []]):=by rw[vv];rfl
theorem DL (acc:List Sim) (k:Int) (n v:List UInt8) (a b:Int) (x:Sim) (xl:List Sim):Sim.encL acc++[[.int .i64 k,.str n,.str v,.int .i64 a,.int .i64 b,.sl (Sim.encL (x::xl))]]=Sim.encL (acc++[.mk k n v a b (x::xl)]):=by rw[vv];rfl
def Prt.enc (p:Prt):List PV:=[.int .i64 p.comb,.sl (p.l.map Sim.enc)]
def Cpx.enc (c:Cpx):List PV:=[.sl (c.parts.map Prt.enc),.str c.pseudo]
theorem Prt.enc_mk (k:Int) (l:List Sim):(Prt.mk k l).enc=[.int .i64 k,.sl (l.map Sim.enc)]:=rfl
theorem Cpx.enc_mk (l:List Prt) (s:List UInt8):(Cpx.mk l s).enc=[.sl (l.map Prt.enc),.str s]:=rfl
attribute [local go_sem] gG bG dk dA fU eU bd dN mA xn sT cy bN eV ar cu dM dU lL
theorem Av {α:Type} {ops ops' ops2:List Oper} {n j i n' j' i' n2 j2 i2:Nat} {a b:α} (h:(reach ops n j i&&(reach ops' n' j' i'&&reach ops2 n2 j2 i2))=true):(if (reach ops n j i&&(reach ops' n' j' i'&&reach ops2 n2 j2 i2))=true then a else b)=a:=if_pos h
abbrev encQ (l:List Prt):List (List PV):=l.map Prt.enc
theorem dr (l:List Prt):(encQ l).length=l.length:=List.length_map ..
theorem m7 (l:List Prt):lens 2 (encQ l)=true:=by
 simp only[lens,List.all_map,List.all_eq_true]
 intro x _
 rfl
theorem p8 (a b:PV):lens 2 [[a,b]]=true:=rfl
theorem oJ (l:List Prt) (cb:Int) (acc:List Sim):encQ l++[[.int .i64 cb,.sl (Sim.encL acc)]]=encQ (l++[⟨cb,acc⟩]):=by
 show _=(l++[(⟨cb,acc⟩:Prt)]).map Prt.enc
 rw[List.map_append,Sim.encL_map];rfl
attribute [local go_sem] xw eH g9 f7 pH pR u6 vL
def TS.live':TS→TS
 | .nils => .live
 | x=>x
theorem TS.live_toks (x:TS):x.live'.toks=x.toks:=by cases x<;>rfl
abbrev numH (s:List UInt8) (et:Nat) (ct:List (List PV)) (from_ e:Nat) (d:List UInt8) (n:Int) (i:Nat):St :=
  { sl:=upd (upd (upd (upd (upd bot 29 (.c (.iter d i))) 4 (I n)) 3 (I e)) 2 (I from_)) 0 P0,bx:=upd nobox 100000 (some [.pv (.str s),.own et ct]),nt:=72 }
theorem DR (v:Int):(if (999999999:Int)<v then (999999999:Int) else v)=min v 999999999:=by
 split<;>omega
theorem Bi (s:List UInt8) (et:Nat) (ct:List (List PV)) (from_ e:Nat) (d:List UInt8) (hd : ∀ b∈d,Tk.digit b=true) : ∀ (rest:List UInt8) (i:Nat) (n:Int),d.drop i=rest→i≤d.length→0≤n→n≤999999999 →
  Ends (exL K 186 (.loop (au Tryz.f186 6)) (numH s et ct from_ e d n i)) fun o S=>o = .exit 0∧S.sl 0=P0∧S.sl 2=I from_∧S.sl 3=I e∧S.sl 4=I (Tk.num n rest)∧S.nt=72∧S.bx=upd nobox 100000 (some [.pv (.str s),.own et ct]):=by
 intro rest
 induction rest with
 | nil =>
  intro i n hr hi h0 h1
  have hin:i=d.length:=by
   have:=List.drop_eq_nil_iff.1 hr
   omega
  subst hin
  have hlt:(d.length<d.length)=False:=by simp
  conv in au _ _=>whnf
  rw[aD]
  simp only[go_sem,Nat.reduceLT,reduceCtorEq,Nat.reduceEqDiff,Nat.reduceBEq,Nat.reduceAdd,aV,hlt,Tk.num]
 | cons c rest ih =>
  intro i n hr hi h0 h1
  obtain ⟨g1,g2,g3⟩:=eC hr
  have hc:Tk.digit c=true:=hd c (List.mem_of_getElem? g1)
  have hcn:48≤c.toNat∧c.toNat≤57:=by simpa[Tk.digit] using hc
  obtain ⟨r,wd,hdec,hw1,hw2,hr2,hcase⟩:=rT d i g3
  have hrc:r=c.toNat∧wd=1:=by
   rcases hcase with ⟨_,hw,b,hb,hbr⟩|⟨_,hall⟩
   ·rw[g1] at hb;cases hb;exact ⟨hbr.symm,hw⟩
   ·have:=hall i c (Nat.le_refl _) (by omega) g1;omega
  obtain ⟨rfl,rfl⟩:=hrc
  have hit:gi d i=i+1:=by unfold gi;rw[hdec]
  have hlt:(i<d.length)=True:=eq_true g3
  have w1:IntKind.i64.wrap (10*n)=10*n:=IntWalk.i64_in _ (by omega)
  have w2:IntKind.i32.wrap ((c.toNat:Int) - 48)=(c.toNat:Int) - 48:=IntWalk.i32_in _ (by omega)
  have w3:IntKind.i64.wrap ((c.toNat:Int) - 48)=(c.toNat:Int) - 48:=IntWalk.i64_in _ (by omega)
  have w4:IntKind.i64.wrap (10*n+((c.toNat:Int) - 48))=10*n+((c.toNat:Int) - 48):=IntWalk.i64_in _ (by omega)
  have hv:Tk.num n (c::rest)=Tk.num (min (10*n+((c.toNat:Int) - 48)) 999999999) rest:=by rw[Tk.num,if_pos hc]
  rw[hv]
  have ih':=ih (i+1) (min (10*n+((c.toNat:Int) - 48)) 999999999) g2 (by omega) (by omega) (by omega)
  conv at ih' in au _ _=>whnf
  conv in au _ _=>whnf
  rw[aD]
  simp only[go_sem,Nat.reduceLT,reduceCtorEq,Nat.reduceEqDiff,Nat.reduceBEq,Nat.reduceAdd,ii sm im,hlt,hdec,hit,w1,w2,w3,w4,th,jq,List.foldl_cons,List.foldl_nil,DR]
  rw[aY]
  simp only[go_sem,reduceCtorEq,Nat.reduceEqDiff]
  exact ih'
set_option maxHeartbeats 8000000 in
theorem pZ (s:List UInt8) (x:TS) (neg:Bool) (from_:Nat) (l:List UInt8) (hf:from_=if neg then 1 else 0) (hl:s.drop from_=l) (hle:from_≤s.length) (h45:(Tk.at0 s==45)=neg) (hs:s.length<4000000000) (hx:x.toks.length<4000000000) :
  den K 186 [P0] [scan s x]=some (.ret (.tup []) [scan (s.drop (from_+(Tk.number neg l).2)) (.wr (x.toks++[(Tk.number neg l).1]))]):=by
 have d0:=ll s 0 (by omega)
 rw[List.drop_zero] at d0
 have e45:(((Tk.at0 s).toNat:Int)==45)=neg:=by rw[←h45];exact jo _ 45
 have hrun:=n6 s (by omega) Tk.digit 185 pu rfl kK from_ hle
 rw[hl] at hrun
 have hrl:=Tk.run_le (p:=Tk.digit) l
 have hll:l.length=s.length - from_:=by rw[←hl,List.length_drop]
 have hnum:=Tk.rq (l:=l) (n:=0) (by omega) (by omega)
 have hdig:=Tk.vJ (p:=Tk.digit) l
 generalize hk:Tk.run Tk.digit l=k at hrun hrl hdig
 have hle2:from_+k≤s.length:=by omega
 have hde:s.drop (from_+k)=l.drop k:=by rw[←List.drop_drop,hl]
 have dn:=pS s (by omega) (from_+k) hle2
 have da:=ll s (from_+k) (by omega)
 rw[hde] at dn da
 have hul:=Tk.yh (l.drop k)
 rw[List.length_drop] at hul
 have e37:(((Tk.at0 (l.drop k)).toNat:Int)==37)=(Tk.at0 (l.drop k)==37):=jo _ 37
 have hnn:Tk.num 0 (l.take k)=Tk.num 0 l:=by
  have:l=l.take k++l.drop k:=(List.take_append_drop k l).symm
  conv=>rhs;rw[this]
  rw[Tk.n8 hdig]
  exact (Tk.uP (n:=Tk.num 0 (l.take k)) (by rw[←hk];exact Tk.tR Tk.o7 l)).symm
 have hin:=fun et ct=>Bi s et ct from_ (from_+k) (l.take k) hdig (l.take k) 0 0 rfl (Nat.zero_le _) (by omega) (by omega)
 rw[hnn] at hin
 conv at hin in au _ _=>whnf
 have hsub:(s.take (from_+k)).drop from_=l.take k:=by rw[List.drop_take,hl];congr 1;omega
 unfold Tk.number
 simp only[hk]
 rw[←Nat.add_assoc]
 generalize hu:Tk.unit (l.drop k)=u at hul
 have hput:=fun v=>yB s x.live' (from_+k+u) 5 ((l.drop k).take u) v (by omega) (by rw[TS.live_toks];exact hx)
 rw[TS.live_toks] at hput
 have hsub2:(s.take (from_+k+u)).drop (from_+k)=(l.drop k).take u:=by rw[List.drop_take,hde];congr 1;omega
 have b1:((0:Int)≤((from_+k:Nat):Int)∧((from_+k:Nat):Int)≤(s.length:Int))=True:=eq_true (by omega)
 have b2:((0:Int)≤(from_:Int)∧(from_:Int)≤((from_+k:Nat):Int))=True:=eq_true (by omega)
 have b3:((0:Int)≤((from_+k+u:Nat):Int)∧((from_+k+u:Nat):Int)≤(s.length:Int))=True:=eq_true (by omega)
 have b4:((0:Int)≤((from_+k:Nat):Int)∧((from_+k:Nat):Int)≤((from_+k+u:Nat):Int))=True:=eq_true (by omega)
 have w1:IntKind.i64.wrap ((from_:Int)+(k:Int))=((from_+k:Nat):Int):=by rw[IntWalk.i64_in _ (by omega)];rfl
 have w2:IntKind.i64.wrap (((from_+k:Nat):Int)+(u:Int))=((from_+k+u:Nat):Int):=by rw[IntWalk.i64_in _ (by omega)];rfl
 have w3:IntKind.i64.wrap (0 - Tk.num 0 l) = -Tk.num 0 l:=by rw[IntWalk.i64_in _ (by omega)];omega
 have t0:Int.toNat 0=0:=rfl
 have t1:Int.toNat 1=1:=rfl
 have z01:((0:Int)=1)=False:=by simp
 have z0:((0:Nat):Int)=0:=rfl
 have z1:((1:Nat):Int)=1:=rfl
 have hu37:(Tk.at0 (l.drop k)==37)=false→Tk.name (l.drop k)=u:=fun h=>by
  rw[←hu,Tk.unit,if_neg (by simpa using h)]
 have hu1:(Tk.at0 (l.drop k)==37)=true→u=1:=fun h=>by
  rw[←hu,Tk.unit,if_pos (by simpa using h)]
 refine ab rfl rfl Tryz.func186 rfl Tryz.ntmps186 ⟨by simp,by simp[LK]⟩ ?_
 have hr:Tryz.f186.results = #[]:=rfl
 cases neg
 all_goals (
  simp only[Bool.false_eq_true,if_true,if_false] at hf
  subst hf
  simp only[z0,z1,Nat.zero_add] at d0 hrun w1 b1 b2 b3 b4 w2 hin hsub hsub2 hput dn da hu37 hu1 e45
  first|(rw[List.drop_zero] at hl;subst hl)|skip
  cases x)
 ·obtain ⟨o,S',e,rfl,f0,f2,f3,f4,fn,fb⟩:=hin 0 []
  simp only[TS.cell,TS.live',TS.toks,scan,List.map_cons,List.map_nil,Tok.enc,List.nil_append] at hput ⊢
  simp only[go_sem,Nat.reduceLT,reduceCtorEq,Nat.reduceEqDiff,Nat.reduceBEq,Nat.reduceAdd,ak af,gS af,d0,e45,hrun,w1,b1,b2,Int.toNat_natCast,hsub,t0]
  rw[aY]
  simp only[go_sem,reduceCtorEq,Nat.reduceEqDiff]
  erw [e]
  cases h37:(Tk.at0 (s.drop k)==37)
  ·rw[h37] at e37
   rw[hu37 h37] at dn
   simp only[go_sem,Nat.reduceLT,reduceCtorEq,Nat.reduceEqDiff,Nat.reduceBEq,Nat.reduceAdd,ak af,hr,z01,f0,f2,f3,f4,fn,fb,dn,da,e37,w2,w3,b3,b4,Int.toNat_natCast,hsub2,hput]
  ·rw[h37] at e37
   rw[hu1 h37] at w2 b3 b4 hput hsub2 ⊢
   simp only[z1] at w2
   simp only[go_sem,Nat.reduceLT,reduceCtorEq,Nat.reduceEqDiff,Nat.reduceBEq,Nat.reduceAdd,ak af,hr,z01,f0,f2,f3,f4,fn,fb,dn,da,e37,w2,w3,b3,b4,Int.toNat_natCast,hsub2,hput]

 ·obtain ⟨o,S',e,rfl,f0,f2,f3,f4,fn,fb⟩:=hin 0 []
  simp only[TS.cell,TS.live',TS.toks,scan,List.map_cons,List.map_nil,Tok.enc,List.nil_append] at hput ⊢
  simp only[go_sem,Nat.reduceLT,reduceCtorEq,Nat.reduceEqDiff,Nat.reduceBEq,Nat.reduceAdd,ak af,gS af,d0,e45,hrun,w1,b1,b2,Int.toNat_natCast,hsub,t0]
  rw[aY]
  simp only[go_sem,reduceCtorEq,Nat.reduceEqDiff]
  erw [e]
  cases h37:(Tk.at0 (s.drop k)==37)
  ·rw[h37] at e37
   rw[hu37 h37] at dn
   simp only[go_sem,Nat.reduceLT,reduceCtorEq,Nat.reduceEqDiff,Nat.reduceBEq,Nat.reduceAdd,ak af,hr,z01,f0,f2,f3,f4,fn,fb,dn,da,e37,w2,w3,b3,b4,Int.toNat_natCast,hsub2,hput]
  ·rw[h37] at e37
   rw[hu1 h37] at w2 b3 b4 hput hsub2 ⊢
   simp only[z1] at w2
   simp only[go_sem,Nat.reduceLT,reduceCtorEq,Nat.reduceEqDiff,Nat.reduceBEq,Nat.reduceAdd,ak af,hr,z01,f0,f2,f3,f4,fn,fb,dn,da,e37,w2,w3,b3,b4,Int.toNat_natCast,hsub2,hput]

 ·rename_i lt
  obtain ⟨o,S',e,rfl,f0,f2,f3,f4,fn,fb⟩:=hin 91 (lt.map Tok.enc)
  simp only[TS.cell,TS.live',TS.toks,scan,List.map_append,List.map_cons,List.map_nil,Tok.enc] at hput ⊢
  simp only[go_sem,Nat.reduceLT,reduceCtorEq,Nat.reduceEqDiff,Nat.reduceBEq,Nat.reduceAdd,ak af,gS af,d0,e45,hrun,w1,b1,b2,Int.toNat_natCast,hsub,t0]
  rw[aY]
  simp only[go_sem,reduceCtorEq,Nat.reduceEqDiff]
  erw [e]
  cases h37:(Tk.at0 (s.drop k)==37)
  ·rw[h37] at e37
   rw[hu37 h37] at dn
   simp only[go_sem,Nat.reduceLT,reduceCtorEq,Nat.reduceEqDiff,Nat.reduceBEq,Nat.reduceAdd,ak af,hr,z01,f0,f2,f3,f4,fn,fb,dn,da,e37,w2,w3,b3,b4,Int.toNat_natCast,hsub2,hput]
  ·rw[h37] at e37
   rw[hu1 h37] at w2 b3 b4 hput hsub2 ⊢
   simp only[z1] at w2
   simp only[go_sem,Nat.reduceLT,reduceCtorEq,Nat.reduceEqDiff,Nat.reduceBEq,Nat.reduceAdd,ak af,hr,z01,f0,f2,f3,f4,fn,fb,dn,da,e37,w2,w3,b3,b4,Int.toNat_natCast,hsub2,hput]

 ·obtain ⟨o,S',e,rfl,f0,f2,f3,f4,fn,fb⟩:=hin 0 []
  simp only[TS.cell,TS.live',TS.toks,scan,List.map_cons,List.map_nil,Tok.enc,List.nil_append] at hput ⊢
  simp only[go_sem,Nat.reduceLT,reduceCtorEq,Nat.reduceEqDiff,Nat.reduceBEq,Nat.reduceAdd,ak af,gS af,d0,e45,hrun,w1,b1,b2,Int.toNat_natCast,hsub,t1]
  rw[aY]
  simp only[go_sem,reduceCtorEq,Nat.reduceEqDiff]
  erw [e]
  cases h37:(Tk.at0 (l.drop k)==37)
  ·rw[h37] at e37
   rw[hu37 h37] at dn
   simp only[go_sem,Nat.reduceLT,reduceCtorEq,Nat.reduceEqDiff,Nat.reduceBEq,Nat.reduceAdd,ak af,hr,f0,f2,f3,f4,fn,fb,dn,da,e37,w2,w3,b3,b4,Int.toNat_natCast,hsub2,hput]
  ·rw[h37] at e37
   rw[hu1 h37] at w2 b3 b4 hput hsub2 ⊢
   simp only[z1] at w2
   simp only[go_sem,Nat.reduceLT,reduceCtorEq,Nat.reduceEqDiff,Nat.reduceBEq,Nat.reduceAdd,ak af,hr,f0,f2,f3,f4,fn,fb,dn,da,e37,w2,w3,b3,b4,Int.toNat_natCast,hsub2,hput]

 ·obtain ⟨o,S',e,rfl,f0,f2,f3,f4,fn,fb⟩:=hin 0 []
  simp only[TS.cell,TS.live',TS.toks,scan,List.map_cons,List.map_nil,Tok.enc,List.nil_append] at hput ⊢
  simp only[go_sem,Nat.reduceLT,reduceCtorEq,Nat.reduceEqDiff,Nat.reduceBEq,Nat.reduceAdd,ak af,gS af,d0,e45,hrun,w1,b1,b2,Int.toNat_natCast,hsub,t1]
  rw[aY]
  simp only[go_sem,reduceCtorEq,Nat.reduceEqDiff]
  erw [e]
  cases h37:(Tk.at0 (l.drop k)==37)
  ·rw[h37] at e37
   rw[hu37 h37] at dn
   simp only[go_sem,Nat.reduceLT,reduceCtorEq,Nat.reduceEqDiff,Nat.reduceBEq,Nat.reduceAdd,ak af,hr,f0,f2,f3,f4,fn,fb,dn,da,e37,w2,w3,b3,b4,Int.toNat_natCast,hsub2,hput]
  ·rw[h37] at e37
   rw[hu1 h37] at w2 b3 b4 hput hsub2 ⊢
   simp only[z1] at w2
   simp only[go_sem,Nat.reduceLT,reduceCtorEq,Nat.reduceEqDiff,Nat.reduceBEq,Nat.reduceAdd,ak af,hr,f0,f2,f3,f4,fn,fb,dn,da,e37,w2,w3,b3,b4,Int.toNat_natCast,hsub2,hput]

 ·rename_i lt
  obtain ⟨o,S',e,rfl,f0,f2,f3,f4,fn,fb⟩:=hin 91 (lt.map Tok.enc)
  simp only[TS.cell,TS.live',TS.toks,scan,List.map_append,List.map_cons,List.map_nil,Tok.enc] at hput ⊢
  simp only[go_sem,Nat.reduceLT,reduceCtorEq,Nat.reduceEqDiff,Nat.reduceBEq,Nat.reduceAdd,ak af,gS af,d0,e45,hrun,w1,b1,b2,Int.toNat_natCast,hsub,t1]
  rw[aY]
  simp only[go_sem,reduceCtorEq,Nat.reduceEqDiff]
  erw [e]
  cases h37:(Tk.at0 (l.drop k)==37)
  ·rw[h37] at e37
   rw[hu37 h37] at dn
   simp only[go_sem,Nat.reduceLT,reduceCtorEq,Nat.reduceEqDiff,Nat.reduceBEq,Nat.reduceAdd,ak af,hr,f0,f2,f3,f4,fn,fb,dn,da,e37,w2,w3,b3,b4,Int.toNat_natCast,hsub2,hput]
  ·rw[h37] at e37
   rw[hu1 h37] at w2 b3 b4 hput hsub2 ⊢
   simp only[z1] at w2
   simp only[go_sem,Nat.reduceLT,reduceCtorEq,Nat.reduceEqDiff,Nat.reduceBEq,Nat.reduceAdd,ak af,hr,f0,f2,f3,f4,fn,fb,dn,da,e37,w2,w3,b3,b4,Int.toNat_natCast,hsub2,hput]
attribute [local go_sem] qz iZ f5 i6 iT mQ mM tA Aj dJ fM CR mG EH zW iP yU
theorem DZ (k k' a a' b b':Int) (n n' v v':List UInt8):gV Tryz.prog 146 [.int .i64 k,.str n,.str v,.int .i64 a,.int .i64 b] [.int .i64 k',.str n',.str v',.int .i64 a',.int .i64 b']=some ((k==k')&&((n==n')&&((v==v')&&((a==a')&&((b==b')&&true))))):=by kernel_rfl
theorem z6 (k a b:Int) (n v:List UInt8) (l:List (List PV)):den K 103 [.agg [.pv (.int .i64 k),.pv (.str n),.pv (.str v),.pv (.int .i64 a),.pv (.int .i64 b),.pv (.sl l)]] []=some (.ret (.agg [.pv (.int .i64 k),.pv (.str n),.pv (.str v),.pv (.int .i64 a),.pv (.int .i64 b)]) []):=by
 have hr:Tryz.f103.results = #[.cell 2 146]:=rfl
 refine ab rfl rfl Tryz.func103 rfl Tryz.ntmps103 ⟨by simp,by simp[LK]⟩ ?_
 simp only[go_sem,Nat.reduceLT,Nat.reduceEqDiff,Nat.reduceBEq,Nat.reduceAdd,Nat.reduceSub,Nat.reduceLeDiff,aj iZ nP,hr]
def Sim4Den (l:List Sim):Prop:=den K 52 [L (l.map Sim.enc),L (l.map Sim.enc)] []=some (.ret (B true) [])
abbrev si4H (l:List Sim) (i:Nat):St := { sl:=upd (upd (upd bot 5 (I i)) 1 (L (l.map Sim.enc))) 0 (L (l.map Sim.enc)),bx:=nobox,nt:=42 }
noncomputable def si4lp:Code := .loop (au Tryz.f52 4)
set_option maxHeartbeats 8000000 in
theorem uL (l:List Sim) (hal:l.length≤100000000) (hin : ∀ x∈l, ∀ q n v a b l',x=Sim.mk q n v a b l'→Sim4Den l') : ∀ (rest:List Sim) (i:Nat),l.drop i=rest→i≤l.length →
  Ends (exL K 52 si4lp (si4H l i)) fun o S=>o = .exit 0∧S.nt=42
 | [],i,hd,hi=>by
  have hin:i=l.length:=by
   have:=List.drop_eq_nil_iff.1 hd
   omega
  subst hin
  have hlt:decide ((l.length:Int)<(l.length:Int))=false:=decide_eq_false (by omega)
  unfold si4lp
  conv in au _ _=>whnf
  rw[aD]
  simp only[go_sem,Nat.reduceLT,reduceCtorEq,Nat.reduceEqDiff,Nat.reduceBEq,Nat.reduceAdd,ai bX,aV]
 | .mk q n v a b l'::rest,i,hd,hi=>by
  obtain ⟨h1,h2,h3⟩:=eC hd
  have hmem:Sim.mk q n v a b l'∈l:=List.mem_of_getElem? h1
  have hc:=hin _ hmem q n v a b l' rfl
  unfold Sim4Den at hc
  have hget:(l.map Sim.enc)[(i:Int).toNat]? = some [.int .i64 q,.str n,.str v,.int .i64 a,.int .i64 b,.sl (l'.map Sim.enc)]:=by simp[h1,Sim.enc_mk]
  have hlt:decide ((i:Int)<(l.length:Int))=true:=decide_eq_true (by omega)
  have hp:=z6 q a b n v (l'.map Sim.enc)
  have hb:=DZ q q a a b b n n v v
  simp only[beq_self_eq_true,Bool.and_true] at hb
  have hnext:=uL l hal hin rest (i+1) h2 (by omega)
  unfold si4lp at hnext ⊢
  conv at hnext in au _ _=>whnf
  conv in au _ _=>whnf
  rw[aD]
  simp only[go_sem,Nat.reduceLT,reduceCtorEq,Nat.reduceEqDiff,Nat.reduceBEq,Nat.reduceAdd,ai bX,aw bX,hlt,hget,Int.natCast_nonneg,hp,hb,hc,d8 i (by omega)]
  rw[aY]
  simp only[go_sem,reduceCtorEq,Nat.reduceEqDiff]
  exact hnext
theorem xV (l:List Sim) (hal:l.length≤100000000) (hin : ∀ x∈l, ∀ q n v a b l',x=Sim.mk q n v a b l'→Sim4Den l'):Sim4Den l:=by
 unfold Sim4Den
 have hr:Tryz.f52.results = #[.tmp 4]:=rfl
 have hnext:=uL l hal hin l 0 rfl (Nat.zero_le _)
 unfold si4lp at hnext
 conv at hnext in au _ _=>whnf
 obtain ⟨o,S',e,rfl,hn⟩:=hnext
 refine ab rfl rfl Tryz.func52 rfl Tryz.ntmps52 ⟨by simp,by simp[LK]⟩ ?_
 simp only[go_sem,Nat.reduceLT,reduceCtorEq,Nat.reduceEqDiff,Nat.reduceBEq,Nat.reduceAdd,ai bX,bne_self_eq_false]
 rw[aY]
 simp only[go_sem,reduceCtorEq,Nat.reduceEqDiff]
 erw [e]
 simp only[go_sem,Nat.reduceLT,Nat.reduceBEq,hr,hn]
inductive Fin4:Sim→Prop
 | mk {k:Int} {n v:List UInt8} {a b:Int} {l:List Sim} (hll:l.length≤100000000) (hl : ∀ x∈l,Fin4 x):Fin4 (Sim.mk k n v a b l)
theorem sJ (l:List Sim) (hal:l.length≤100000000) (hok : ∀ x∈l,Fin4 x):Sim4Den l:=by
 have key : ∀ x:Sim,Fin4 x → ∀ q n v a b l',x=Sim.mk q n v a b l'→Sim4Den l':=by
  intro x hx
  induction hx with
  | @mk k n v a c l hll hl ih =>
   intro q n' v' a' b' l' e
   cases e
   exact xV l hll (fun y hy=>ih y hy)
 exact xV l hal (fun x hx=>key x (hok x hx))
abbrev sa4In (l:List Cpx) (i j:Nat):St := { sl:=upd (upd (upd (upd bot 6 (I j)) 5 (I i)) 1 (L (l.map Cpx.enc))) 0 (L (l.map Cpx.enc)),bx:=nobox,nt:=85 }
noncomputable def sa4lp:Code := .loop (au Tryz.f22 9)
set_option maxHeartbeats 8000000 in
theorem A2 (l:List Cpx) (i:Nat) (ps:List Prt) (s:List UInt8) (h1:l[i]? = some ⟨ps,s⟩) (hps:ps.length≤100000000) (hp : ∀ p∈ps,Sim4Den p.l) : ∀ (rest:List Prt) (j:Nat),ps.drop j=rest→j≤ps.length →
  Ends (exL K 22 sa4lp (sa4In l i j)) fun o S=>o = .exit 2∧S.nt=85∧S.sl 0=L (l.map Cpx.enc)∧S.sl 1=L (l.map Cpx.enc)∧S.sl 5=I i
 | [],j,hd,hj=>by
  have hin:j=ps.length:=by
   have:=List.drop_eq_nil_iff.1 hd
   omega
  subst hin
  have g1:(l.map Cpx.enc)[(i:Int).toNat]? = some [.sl (ps.map Prt.enc),.str s]:=by simp[h1,Cpx.enc]
  have hlt:decide ((ps.length:Int)<(ps.length:Int))=false:=decide_eq_false (by omega)
  unfold sa4lp
  conv in au _ _=>whnf
  rw[aD]
  simp only[go_sem,Nat.reduceLT,reduceCtorEq,Nat.reduceEqDiff,Nat.reduceBEq,Nat.reduceAdd,aw ax,ai ay,aV,g1,Int.natCast_nonneg]
 | ⟨k,ls⟩::rest,j,hd,hj=>by
  obtain ⟨g3,g4,g5⟩:=eC hd
  have hs:Sim4Den ls:=hp ⟨k,ls⟩ (List.mem_of_getElem? g3)
  unfold Sim4Den at hs
  have g1:(l.map Cpx.enc)[(i:Int).toNat]? = some [.sl (ps.map Prt.enc),.str s]:=by simp[h1,Cpx.enc]
  have g2:(ps.map Prt.enc)[(j:Int).toNat]? = some [.int .i64 k,.sl (ls.map Sim.enc)]:=by simp[g3,Prt.enc]
  have hlt:decide ((j:Int)<(ps.length:Int))=true:=decide_eq_true (by omega)
  have hnext:=A2 l i ps s h1 hps hp rest (j+1) g4 (by omega)
  unfold sa4lp at hnext ⊢
  conv at hnext in au _ _=>whnf
  conv in au _ _=>whnf
  rw[aD]
  simp only[go_sem,Nat.reduceLT,reduceCtorEq,Nat.reduceEqDiff,Nat.reduceBEq,Nat.reduceAdd,aw ax,ai ay,aw ay,g1,g2,hlt,Int.natCast_nonneg]
  first|rw[o9]|rw[rN]|rw[Av]
  rotate_left
  ·kernel_rfl
  simp only[go_sem,Nat.reduceLT,reduceCtorEq,Nat.reduceEqDiff,Nat.reduceBEq,Nat.reduceAdd,hs,d8 j (by omega),bne_self_eq_false]
  rw[aY]
  simp only[go_sem,reduceCtorEq,Nat.reduceEqDiff]
  exact hnext
abbrev sa4Out (l:List Cpx) (i:Nat):St := { sl:=upd (upd (upd bot 5 (I i)) 1 (L (l.map Cpx.enc))) 0 (L (l.map Cpx.enc)),bx:=nobox,nt:=85 }
noncomputable def sa4op:Code := .loop (au Tryz.f22 4)
set_option maxHeartbeats 8000000 in
theorem yf (l:List Cpx) (hal:l.length≤100000000) (hl : ∀ c∈l,c.parts.length≤100000000 ∧ ∀ p∈c.parts,Sim4Den p.l) : ∀ (rest:List Cpx) (i:Nat),l.drop i=rest→i≤l.length →
  Ends (exL K 22 sa4op (sa4Out l i)) fun o S=>o = .exit 0∧S.nt=85
 | [],i,hd,hi=>by
  have hin:i=l.length:=by
   have:=List.drop_eq_nil_iff.1 hd
   omega
  subst hin
  have hlt:decide ((l.length:Int)<(l.length:Int))=false:=decide_eq_false (by omega)
  unfold sa4op
  conv in au _ _=>whnf
  rw[aD]
  simp only[go_sem,Nat.reduceLT,reduceCtorEq,Nat.reduceEqDiff,Nat.reduceBEq,Nat.reduceAdd,ai ax,aV]
 | ⟨ps,s⟩::rest,i,hd,hi=>by
  obtain ⟨h1,h2,h3⟩:=eC hd
  obtain ⟨hps,hp⟩:=hl ⟨ps,s⟩ (List.mem_of_getElem? h1)
  have g1:(l.map Cpx.enc)[(i:Int).toNat]? = some [.sl (ps.map Prt.enc),.str s]:=by simp[h1,Cpx.enc]
  have hlt:decide ((i:Int)<(l.length:Int))=true:=decide_eq_true (by omega)
  have hin:=A2 l i ps s h1 hps hp ps 0 rfl (Nat.zero_le _)
  unfold sa4lp at hin
  conv at hin in au _ _=>whnf
  have z0:((0:Nat):Int)=0:=rfl
  obtain ⟨o,S',e,rfl,gn,q0,q1,q5⟩:=hin
  simp only[sa4In,z0] at e
  have hnext:=yf l hal hl rest (i+1) h2 (by omega)
  unfold sa4op at hnext ⊢
  conv at hnext in au _ _=>whnf
  conv in au _ _=>whnf
  rw[aD]
  simp only[go_sem,Nat.reduceLT,reduceCtorEq,Nat.reduceEqDiff,Nat.reduceBEq,Nat.reduceAdd,ai ax,aw ax,ai ay,g1,hlt,Int.natCast_nonneg,bne_self_eq_false]
  rw[aY]
  simp only[go_sem,reduceCtorEq,Nat.reduceEqDiff]
  erw [e]
  simp only[go_sem,Nat.reduceLT,Nat.reduceEqDiff,Nat.reduceBEq,Nat.reduceAdd,gn,q5,d8 i (by omega)]
  rw[aY]
  simp only[go_sem,reduceCtorEq,Nat.reduceEqDiff,q0,q1,q5]
  exact hnext
theorem zL (l:List Cpx) (hal:l.length≤100000000) (hl : ∀ c∈l,c.parts.length≤100000000 ∧ ∀ p∈c.parts,Sim4Den p.l):den K 22 [L (l.map Cpx.enc),L (l.map Cpx.enc)] []=some (.ret (B true) []):=by
 have hr:Tryz.f22.results = #[.tmp 4]:=rfl
 have hnext:=yf l hal hl l 0 rfl (Nat.zero_le _)
 unfold sa4op at hnext
 conv at hnext in au _ _=>whnf
 obtain ⟨o,S',e,rfl,hn⟩:=hnext
 refine ab rfl rfl Tryz.func22 rfl Tryz.ntmps22 ⟨by simp,by simp[LK]⟩ ?_
 simp only[go_sem,Nat.reduceLT,reduceCtorEq,Nat.reduceEqDiff,Nat.reduceBEq,Nat.reduceAdd,ai ax,bne_self_eq_false]
 rw[aY]
 simp only[go_sem,reduceCtorEq,Nat.reduceEqDiff]
 erw [e]
 simp only[go_sem,Nat.reduceLT,Nat.reduceBEq,hr,hn]
end Go.Abs
namespace Go.Abs
open Go
theorem gh (k:Int) (n v:List UInt8) (a b:Int):Fin4 (.mk k n v a b []) := .mk (by simp) fun x hx=>by cases hx
theorem Bx {l:List Val} {x:Sim} (h:Sl.attr l=some x):Fin4 x:=by
 unfold Sl.attr at h
 split at h
 ·split at h
  ·cases h;exact gh ..
  ·cases h
 ·split at h
  ·cases h;exact gh ..
  ·cases h
 ·cases h
theorem qk {s:List UInt8} {x:Sim} (h:Sl.dQ s=some x):Fin4 x:=by
 unfold Sl.dQ at h
 repeat' split at h
 all_goals first|(cases h;done)|(cases h;exact gh ..)
theorem AG {g:List Val→Option (Sim×List Val)} (hg : ∀ m x r,g m=some (x,r)→Fin4 x) {l r:List Val} {x:Sim} (h:Sl.colon g l=some (x,r)):Fin4 x:=by
 unfold Sl.colon at h
 split at h
 ·split at h
  ·rw[Option.map_eq_some_iff] at h
   obtain ⟨y,_,e⟩:=h
   cases e
   exact gh ..
  ·split at h
   ·split at h
    ·rename_i y hy
     split at h
     ·cases h
     ·cases h
      exact .mk (by simp) fun z hz=>by
       obtain rfl:=List.mem_singleton.1 hz
       exact hg _ _ _ hy
    ·cases h
   ·cases h
 ·split at h
  ·rw[Option.map_eq_some_iff] at h
   obtain ⟨y,hy,e⟩:=h
   cases e
   exact qk hy
  ·cases h
theorem oU : ∀ (f:Nat) (first:Bool) (l:List Val) (x:Sim) (r:List Val),Sl.simple f first l=some (x,r)→Fin4 x
 | 0,_,_,_,_,h=>by cases h
 | f+1,first,l,x,r,h=>by
  rw[Sl.simple] at h
  split at h
  ·cases h;exact gh ..
  split at h
  ·cases h;exact gh ..
  split at h
  ·cases h;exact gh ..
  split at h
  ·rw[Option.map_eq_some_iff] at h
   obtain ⟨y,_,e⟩:=h
   cases e
   exact gh ..
  split at h
  ·exact AG (fun m x r hm=>oU f true m x r hm) h
  split at h
  ·rw[Option.map_eq_some_iff] at h
   obtain ⟨y,hy,e⟩:=h
   cases e
   exact Bx hy
  ·cases h
theorem uo : ∀ (f:Nat) (first:Bool) (l:List Val) (ps:List Sim) (r:List Val),Sl.part f first l=some (ps,r) → ∀ x∈ps,Fin4 x
 | 0,_,_,_,_,h=>by cases h
 | f+1,first,l,ps,r,h=>by
  rw[Sl.part] at h
  split at h
  ·cases h;intro x hx;cases hx
  ·split at h
   ·cases h
   ·rename_i y m hs
    rw[Option.map_eq_some_iff] at h
    obtain ⟨⟨qs,r'⟩,hp,e⟩:=h
    cases e
    intro x hx
    rcases List.mem_cons.1 hx with rfl|hx
    ·exact oU _ _ _ _ _ hs
    ·exact uo f false m qs _ hp x hx
theorem vz : ∀ (n:Nat) (c:Int) (l:List Val) (x:Cpx),Sl.cpx n c l=some x→x.parts.length≤n ∧ ∀ p∈x.parts,p.l.length≤8 ∧ ∀ y∈p.l,Fin4 y
 | 0,_,_,_,h=>by cases h
 | n+1,c,l,x,h=>by
  rw[Sl.cpx] at h
  split at h
  ·cases h
  rename_i ps r hp
  have hf:=uo _ _ _ _ _ hp
  split at h
  ·split at h
   ·split at h
    ·rename_i hh
     cases h
     refine ⟨by simp,fun p hp => ?_⟩
     obtain rfl:=List.mem_singleton.1 hp
     exact ⟨hh.2,hf⟩
    ·cases h
   ·cases h
  split at h
  ·cases h
  rename_i h8
  split at h
  ·cases h
   refine ⟨by simp,fun p hp => ?_⟩
   obtain rfl:=List.mem_singleton.1 hp
   exact ⟨by show ps.length≤8;omega,hf⟩
  ·rw[Option.map_eq_some_iff] at h
   obtain ⟨y,hy,e⟩:=h
   cases e
   obtain ⟨h1,h2⟩:=vz n _ _ y hy
   refine ⟨by simp;omega,fun p hp => ?_⟩
   rcases List.mem_cons.1 hp with rfl|hp
   ·exact ⟨by show ps.length≤8;omega,hf⟩
   ·exact h2 p hp
theorem tM : ∀ {ps:List (List Val)} {l:List Cpx},Sl.all_ ps=some l → ∀ x∈l,x.parts.length≤16 ∧ ∀ p∈x.parts,p.l.length≤8 ∧ ∀ y∈p.l,Fin4 y
 | [],l,h=>by rw[Sl.all_nil] at h;cases h;intro x hx;cases hx
 | p::ps,l,h=>by
  rw[Sl.all_cons] at h
  split at h
  ·rename_i c cs hc hcs
   cases h
   intro x hx
   rcases List.mem_cons.1 hx with rfl|hx
   ·exact vz _ _ _ _ hc
   ·exact tM hcs x hx
  ·cases h
theorem wy {v:List Val} {l:List Cpx} (h:Sl.parse v=some l):l.length≤32 ∧ ∀ x∈l,x.parts.length≤16 ∧ ∀ p∈x.parts,p.l.length≤8 ∧ ∀ y∈p.l,Fin4 y:=by
 unfold Sl.parse at h
 split at h
 ·rename_i h32
  have:=Sl.l6 h
  exact ⟨by omega,tM h⟩
 ·cases h
end Go.Abs
namespace Go.Abs
open Go Go.Proofs
set_option maxRecDepth 100000
def x5:List TypeId:=[4,3,9,91,60,93,23,52,48,50,45,47,31]
theorem Ba:oA Tryz.prog x5=true:=by kernel_rfl
end Go.Abs
