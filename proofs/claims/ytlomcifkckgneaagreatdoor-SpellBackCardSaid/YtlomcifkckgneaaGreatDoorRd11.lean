/-
  WHAT THE FUNCTIONS COMPUTE, layer 4, the document's reader of selectors: simple selectors.
  (And 4 texts more.)
-/
import Derived.Test.YtlomcifkckgneaaGreatDoorRd9
import Derived.Test.YtlomcifkckgneaaGreatDoorRd10
set_option maxHeartbeats 16000000
open Nat (reduceEqDiff reduceAdd reduceLT reduceLeDiff reduceSub reduceMul)
set_option linter.unusedSimpArgs false
set_option linter.unusedVariables false
namespace Go.Abs
open Go Go.Proofs
set_option maxRecDepth 10000
attribute [local go_sem] dP bZ de cB cK dL dh du bo ck ce cE dr ci opd avOf cvOf St.degAt St.put okPV fE okAV eL eP eV dM aP if_true Bool.false_eq_true if_false Option.map_some Option.map_none Option.bind_some Option.bind_none fo fw upd List.toList_toArray cM steal bI mvB fj dK db AV.deg CV.deg AV.gv AV.isIter dG dw cJ List.length_nil List.length_cons List.filterMap_cons List.filterMap_nil beq_iff_eq List.getElem?_cons_zero List.getElem?_cons_succ Option.getD_some fM gJ Bool.false_and Bool.and_false Bool.and_self K_P iJ cI dc bL lend back idx dedup AV.ren CV.ren TV.ren AV.ptrs CV.ptrs dE AV.flat CV.flat cQ cz br dD dY gi cL bf cS bV cu cH bU gS CV.pv? content bT ownT bv reps pvs chunks co leave gj cZ eD cm bB TV.deg TV.av LK CV.plain CV.noBld dR gD bound List.map_cons List.map_nil List.all_cons List.all_nil List.any_cons List.any_nil List.contains_cons List.contains_nil List.elem_cons List.elem_nil List.cons_append List.nil_append List.append_nil List.flatMap_cons List.flatMap_nil List.zip_cons_cons List.zip_nil_left List.zip_nil_right List.take_succ_cons List.take_zero List.take_nil List.drop_succ_cons List.drop_zero List.drop_nil List.isEmpty_nil List.isEmpty_cons Bool.and_true Bool.true_and Bool.or_true Bool.true_or Bool.or_false Bool.false_or Bool.not_true Bool.not_false Nat.add_zero Nat.zero_add Option.isNone_none Option.isNone_some Option.getD_none true_and and_true not_true_eq_false not_false_eq_true decide_true decide_false Nat.le_refl and_self Bool.not_eq_true Nat.sub_self or_true true_or Option.some.injEq List.length_map List.nil_eq and_false false_and AV.live CV.live CV.liveIn gk bu Option.orElse_some Option.orElse_none head bJ bG Int.lt_irrefl List.length_append ite_self fx cF dC cf Key.clash Key.sees Key.writes Nat.lt_irrefl gt_iff_lt dt fB false_or or_false beq_self_eq_true Bool.true_beq Bool.false_beq fL ab BE BR dZ iy lH lk gp cy bK iA ee fK dz
def TSh (l:List Val):Prop:=∀ t∈Ne.flat l,t.text.length<1000000000
theorem sU {l m:List Val}(h:TSh l)(hs:∀ v∈m,v∈l):TSh m:=fun t ht=>by
 obtain⟨v,hv,ht⟩:=Sl.oT.1 ht;exact h t (Sl.oT.2 ⟨v,hs v hv,ht⟩)
theorem Su {l:List Val}(h:TSh l)(i:Nat):TSh (l.drop i):=sU h fun v hv=>List.mem_of_mem_drop hv
theorem mq {l:List Val}(h:TSh l):TSh (Sl.trim l):=sU h fun v hv=>Sl.Pw hv
theorem FI {t:Tok}{c l:List Val}(h:TSh (.mk 1 t c::l)):t.text.length<1000000000:=h t (Sl.oT.2 ⟨.mk 1 t c,by simp,by rw[Ne.jv,if_pos rfl];simp⟩)
theorem Uc {l:List Val}{i:Nat}{t:Tok}{c:List Val}(h:TSh l)(hi:l[i]? = some (.mk 5 t c)):TSh c:=by
 have hm:Val.mk 5 t c∈l:=List.mem_of_getElem? hi
 exact fun x hx=>h x (Sl.oT.2 ⟨_,hm,by rw[Ne.jv,if_neg (by decide),if_pos rfl];simp[hx]⟩)
theorem rT {l:List Val}{i:Nat}{k:Int}{t:Tok}{c:List Val}(hi:l[i]? = some (.mk k t c)):Ne.size c<Ne.size l:=nj (List.mem_of_getElem? hi)
theorem nw (a b:List Val):Ne.size (a++b)=Ne.size a+Ne.size b:=by
 induction a with
 | nil=>rw[Ne.size];simp
 | cons v a ih=>rw[List.cons_append,Ne.size,Ne.size,ih];omega
theorem wO (p:Val→Bool)(l:List Val):Ne.size (l.dropWhile p)≤Ne.size l:=by
 have h:l.takeWhile p++l.dropWhile p=l:=List.takeWhile_append_dropWhile
 have:=nw (l.takeWhile p) (l.dropWhile p)
 rw[h] at this
 omega
theorem zn (l:List Val):Ne.size l.reverse=Ne.size l:=by
 induction l with
 | nil=>rfl
 | cons v l ih =>
  rw[List.reverse_cons,nw,ih,Ne.size,Ne.size,Ne.size];omega
theorem jF (l:List Val):Ne.size (Sl.trim l)≤Ne.size l:=by
 unfold Sl.trim;rw[zn];have h1:=wO Sl.ar (l.dropWhile Sl.ar).reverse
 have h2:=wO Sl.ar l
 rw[zn] at h1;omega
def SRes (res:Option (Sim×List Val))(l:List Val)(i:Nat)(dn:Option Res):Prop :=
 match res with
 | some (x,r)=>∃ j:Nat,l.drop j=r∧i<j∧j≤l.length∧dn=some (.ret (.agg (ff x)) [rb0 l j false])
 | none=>∃ (x:Sim) (j:Nat),dn=some (.ret (.agg (ff x)) [rb0 l j true])
def iw (g:List Val→Option (Sim×List Val))(first:Bool)(l:List Val):Option (Sim×List Val) :=
  match (if first then Sl.tokK 1 l else none) with
  | some t=>some (.mk 2 (Sl.low t.text) [] 0 0 [],l.tail)
  | none =>
  match (if first then Sl.sign [42] l else none) with
  | some r=>some (.mk 1 [] [] 0 0 [],r)
  | none =>
  match Sl.tokK 4 l with
  | some t=>some (.mk 3 t.text [] 0 0 [],l.tail)
  | none =>
  match Sl.sign [46] l with
  | some r=>(Sl.name r).map fun x=>(.mk 4 x.1 [] 0 0 [],x.2)
  | none =>
  match Sl.sign [58] l with
  | some r=>Sl.colon g r
  | none =>
  match Sl.eM 3 l with
  | some x=>(Sl.attr x.1.2).map fun y=>(y,x.2)
  | none=>none
theorem rm (f:Nat)(first:Bool)(l:List Val):Sl.simple (f+1) first l=iw (Sl.simple f true) first l:=rfl
def jV (res:Option (Sim×List Val))(first:Bool)(l:List Val)(i:Nat):Prop:=SRes res l i (den K 95 [P0,B first] [rb0 l i false])
def nc (g:List Val→Option (Sim×List Val))(l:List Val)(i:Nat):Prop:=SRes (Sl.colon g (l.drop i)) l i (den K 143 [P0] [rb0 l i false])
def notG (g:List Val→Option (Sim×List Val))(c:List Val):Option Sim :=
 match g (Sl.trim c) with
 | some (x,[])=>if x.kind=11 then none else some (.mk 11 [] [] 0 0 [x])
 | _=>none
def tN (g:List Val→Option (Sim×List Val))(c:List Val):Prop :=
 ∃ (y:Sim) (ok:Bool),den K 173 [L (encL c)] []=some (.ret (.tup [.agg (ff y),.c (.pv (.bool ok))]) [])∧(match notG g c with|some x=>y=x∧ok=true|none=>ok=false)
theorem cO (k:Int)(n v:List UInt8)(a b:Int)(x:Sim)(l:List Sim):ff (.mk k n v a b (x::l))=[.pv (.int .i64 k),.pv (.str n),.pv (.str v),.pv (.int .i64 a),.pv (.int .i64 b),.pv (.sl (Sim.encL (x::l)))]:=rfl
theorem po (x:Sim):Sim.encL [x]=[x.enc]:=rfl
theorem ru (k:Int)(n v:List UInt8)(a b:Int):(Sim.mk k n v a b []).enc=[.int .i64 k,.str n,.str v,.int .i64 a,.int .i64 b,.sl []]:=rfl
theorem pH (k:Int)(n v:List UInt8)(a b:Int)(x:Sim)(l:List Sim):(Sim.mk k n v a b (x::l)).enc=[.int .i64 k,.str n,.str v,.int .i64 a,.int .i64 b,.sl (Sim.encL (x::l))]:=rfl
theorem Iw (g:List Val→Option (Sim×List Val))(c:List Val)(hc:c.length≤100000000)(h:jV (g (Sl.trim c)) true (Sl.trim c) 0):tN g c:=by
 have hr:Tryz.f173.results=#[.cell 2 52,.tmp 3]:=rfl
 have htrim:=pC c hc
 unfold tN notG;generalize Sl.trim c=R at h htrim;unfold jV SRes at h;have z0:((0:Nat):Int)=0:=rfl
 cases hg:g R with
 | none =>
  rw[hg] at h;obtain⟨x,j,h⟩:=h;obtain⟨k,n,v,a,b,xl⟩:=x;refine⟨.mk 11 [] [] 0 0 [.mk k n v a b xl],false,?_,rfl⟩
  cases xl
  all_goals
   simp only[aQ,cO,po,ru,pH,rb0,z0] at h ⊢;refine ai rfl rfl Tryz.func173 rfl Tryz.ntmps173 ⟨by simp,by simp[LK]⟩ ?_
   simp only[go_sem,reduceLT,reduceCtorEq,reduceEqDiff,Nat.reduceBEq,reduceAdd,reduceSub,reduceLeDiff,reduceMul,aa aJ aM,ao (len:=1) ae dZ ab ⟨rfl,by decide,by decide⟩,aa ab ah,hr,htrim,h]
 | some y =>
  obtain⟨x,r⟩:=y;rw[hg] at h;obtain⟨j,h1,h2,h3,h⟩:=h;obtain⟨k,n,v,a,b,xl⟩:=x;cases r with
  | nil =>
   have hj:j=R.length:=by
    have:=List.drop_eq_nil_iff.1 h1
    omega
   have ej:((j:Int)==(R.length:Int))=true:=by rw[hj];simp
   have hk:Sim.kind (.mk k n v a b xl)=k:=rfl
   simp only[hk];by_cases h11:k=11
   ·have ek:(k != 11)=false:=by rw[h11];rfl
    rw[if_pos h11];refine⟨.mk 11 [] [] 0 0 [.mk k n v a b xl],false,?_,rfl⟩
    cases xl
    all_goals
     simp only[aQ,cO,po,ru,pH,rb0,z0] at h ⊢;refine ai rfl rfl Tryz.func173 rfl Tryz.ntmps173 ⟨by simp,by simp[LK]⟩ ?_
     simp only[go_sem,reduceLT,reduceCtorEq,reduceEqDiff,Nat.reduceBEq,reduceAdd,reduceSub,reduceLeDiff,reduceMul,aa aJ aM,ao (len:=1) ae dZ ab ⟨rfl,by decide,by decide⟩,aa ab ah,af ak,hr,htrim,h,ej,ek,aA]
   ·have ek:(k != 11)=true:=by rw[bne_iff_ne];exact h11
    rw[if_neg h11];refine⟨.mk 11 [] [] 0 0 [.mk k n v a b xl],true,?_,rfl,rfl⟩
    cases xl
    all_goals
     simp only[aQ,cO,po,ru,pH,rb0,z0] at h ⊢;refine ai rfl rfl Tryz.func173 rfl Tryz.ntmps173 ⟨by simp,by simp[LK]⟩ ?_
     simp only[go_sem,reduceLT,reduceCtorEq,reduceEqDiff,Nat.reduceBEq,reduceAdd,reduceSub,reduceLeDiff,reduceMul,aa aJ aM,ao (len:=1) ae dZ ab ⟨rfl,by decide,by decide⟩,aa ab ah,af ak,hr,htrim,h,ej,ek,aA]
  | cons u r =>
   have hj:j<R.length:=(js h1).2.2
   have ej:((j:Int)==(R.length:Int))=false:=by rw[beq_eq_false_iff_ne];omega
   refine⟨.mk 11 [] [] 0 0 [.mk k n v a b xl],false,?_,rfl⟩
   cases xl
   all_goals
    simp only[aQ,cO,po,ru,pH,rb0,z0] at h ⊢;refine ai rfl rfl Tryz.func173 rfl Tryz.ntmps173 ⟨by simp,by simp[LK]⟩ ?_
    simp only[go_sem,reduceLT,reduceCtorEq,reduceEqDiff,Nat.reduceBEq,reduceAdd,reduceSub,reduceLeDiff,reduceMul,aa aJ aM,ao (len:=1) ae dZ ab ⟨rfl,by decide,by decide⟩,aa ab ah,af ak,hr,htrim,h,ej,aA]
attribute [local go_sem] pL Pz PF vG vt Rq BD bX bg ag bc dW aN cj Ta Tz vl TP vb fR SX
abbrev twoI (x:Int×Int):AV:=.tup [.c (.pv (.int .i64 x.1)),.c (.pv (.int .i64 x.2))]
theorem DK {s:List UInt8}{x:Int×Int}(h:Sl.mU s=some x):den K 72 [T s] []=some (.ret (twoI x) []):=by
 have hr:Tryz.f72.results=#[.tmp 2,.tmp 3]:=rfl
 unfold Sl.mU at h;have hm:=fF
 split at h
 ·rename_i h1;cases h;subst h1;have q0:(([111,100,100]:List UInt8)==[111,100,100])=true:=rfl
  refine ai rfl rfl Tryz.func72 rfl Tryz.ntmps72 ⟨by simp,by simp[LK]⟩ ?_
  simp only[go_sem,reduceLT,reduceCtorEq,reduceEqDiff,Nat.reduceBEq,reduceAdd,hr,q0]
 split at h
 ·rename_i h1;cases h;subst h1;have q0:(([101,118,101,110]:List UInt8)==[111,100,100])=false:=rfl
  have q1:(([101,118,101,110]:List UInt8)==[101,118,101,110])=true:=rfl
  refine ai rfl rfl Tryz.func72 rfl Tryz.ntmps72 ⟨by simp,by simp[LK]⟩ ?_
  simp only[go_sem,reduceLT,reduceCtorEq,reduceEqDiff,Nat.reduceBEq,reduceAdd,hr,q0,q1]
 split at h
 ·rename_i h1;cases h;subst h1;have q0:(([110]:List UInt8)==[111,100,100])=false:=rfl
  have q1:(([110]:List UInt8)==[101,118,101,110])=false:=rfl
  have q2:(([110]:List UInt8)==[110])=true:=rfl
  refine ai rfl rfl Tryz.func72 rfl Tryz.ntmps72 ⟨by simp,by simp[LK]⟩ ?_
  simp only[go_sem,reduceLT,reduceCtorEq,reduceEqDiff,Nat.reduceBEq,reduceAdd,hr,q0,q1,q2,hm]
 ·cases h
theorem Dp {s:List UInt8}(h:Sl.mU s=none):den K 72 [T s] []=some (.pan ey []):=by
 have hr:Tryz.f72.results=#[.tmp 2,.tmp 3]:=rfl
 unfold Sl.mU at h;have hm:=jk
 split at h
 ·cases h
 rename_i h1;split at h
 ·cases h
 rename_i h2;split at h
 ·cases h
 rename_i h3;have q0:(s==[111,100,100])=false:=by rw[beq_eq_false_iff_ne];exact h1
 have q1:(s==[101,118,101,110])=false:=by rw[beq_eq_false_iff_ne];exact h2
 have q2:(s==[110])=false:=by rw[beq_eq_false_iff_ne];exact h3
 refine ai rfl rfl Tryz.func72 rfl Tryz.ntmps72 ⟨by simp,by simp[LK]⟩ ?_
 simp only[go_sem,reduceLT,reduceCtorEq,reduceEqDiff,Nat.reduceBEq,reduceAdd,hr,q0,q1,q2,hm]
theorem Jf (n:Int):den K 41 [I n] []=some (.ret (B (decide (-9999≤n)&&decide (n≤9999))) []):=by
 have hr:Tryz.f41.results=#[.tmp 2]:=rfl
 cases e1:decide (-9999≤n)
 ·refine ai rfl rfl Tryz.func41 rfl Tryz.ntmps41 ⟨by simp,by simp[LK]⟩ ?_
  simp only[go_sem,reduceLT,reduceCtorEq,reduceEqDiff,Nat.reduceBEq,reduceAdd,hr,e1]
 ·refine ai rfl rfl Tryz.func41 rfl Tryz.ntmps41 ⟨by simp,by simp[LK]⟩ ?_
  simp only[go_sem,reduceLT,reduceCtorEq,reduceEqDiff,Nat.reduceBEq,reduceAdd,hr,e1]
theorem Ml (s:List UInt8)(h:s.length≤1000000000):den K 79 [T s,T [48,49,50,51,52,53,54,55,56,57]] []=some (.ret (T (Lib.trimS s Sl.wE)) []) :=
 eX (F:=Er) rfl (by
  unfold Er;simp only;rw[if_pos ⟨by unfold bN;omega,by decide,by decide⟩]
  rfl)
theorem JM {s:List UInt8}{n:Int}(h:s.length≤18)(hn:Lib.atoi s=some n):den K 80 [T s] []=some (.ret (.tup [.c (.pv (.int .i64 n)),.c (.pv .nilifc)]) []) :=
 eX (F:=Eu) rfl (by unfold Eu;simp only;rw[if_pos h,hn])
theorem NI (s:List UInt8)(hs:s.length≤1000000000):den K 160 [T s,T [110,45]] []=some (.ret (B (decide (s.take 2=[110,45]))) []):=by
 have hr:Tryz.f160.results=#[.tmp 4]:=rfl
 by_cases h2:2≤s.length
 ·have e1:decide (((2:Nat):Int)≤(s.length:Int))=true:=decide_eq_true (by omega)
  have hb:((0:Int)≤((2:Nat):Int)∧((2:Nat):Int)≤(s.length:Int))=True:=by rw[eq_iff_iff];simp;omega
  have e2:(s.take 2==[110,45])=decide (s.take 2=[110,45]):=by rw[Bool.eq_iff_iff];simp
  refine ai rfl rfl Tryz.func160 rfl Tryz.ntmps160 ⟨by simp,by simp[LK]⟩ ?_
  simp only[go_sem,reduceLT,reduceCtorEq,reduceEqDiff,Nat.reduceBEq,reduceAdd,aE am,ax am,hr,e1,hb,e2,Int.toNat_natCast]
 ·have e1:decide (((2:Nat):Int)≤(s.length:Int))=false:=decide_eq_false (by omega)
  have e2:decide (s.take 2=[110,45])=false:=decide_eq_false fun h=>by
   have:=congrArg List.length h
   rw[List.length_take] at this
   simp at this
   omega
  rw[e2];refine ai rfl rfl Tryz.func160 rfl Tryz.ntmps160 ⟨by simp,by simp[LK]⟩ ?_
  simp only[go_sem,reduceLT,reduceCtorEq,reduceEqDiff,Nat.reduceBEq,reduceAdd,aE am,hr,e1]
theorem JI (s:List UInt8)(hs:s.length≤1000000000):den K 125 [T s,T [110,45]] []=some (.ret (.tup [.c (.pv (.str (if s.take 2=[110,45] then s.drop 2 else s))),.c (.pv (.bool (decide (s.take 2=[110,45]))))]) []):=by
 have hr:Tryz.f125.results=#[.tmp 4,.tmp 5]:=rfl
 have hp:=NI s hs
 by_cases h:s.take 2=[110,45]
 ·have hlen:2≤s.length:=by
   have:=congrArg List.length h
   rw[List.length_take] at this
   simp at this
   omega
  have e1:decide (s.take 2=[110,45])=true:=decide_eq_true h
  rw[e1] at hp;rw[if_pos h,e1];have hb:((0:Int)≤((2:Nat):Int)∧((2:Nat):Int)≤(s.length:Int))=True:=by rw[eq_iff_iff];simp;omega
  have ht:(s.take s.length).drop 2=s.drop 2:=by rw[List.take_length]
  refine ai rfl rfl Tryz.func125 rfl Tryz.ntmps125 ⟨by simp,by simp[LK]⟩ ?_
  simp only[go_sem,reduceLT,reduceCtorEq,reduceEqDiff,Nat.reduceBEq,reduceAdd,aE am,ax am,hr,hp,hb,ht,Int.toNat_natCast]
 ·have e1:decide (s.take 2=[110,45])=false:=decide_eq_false h
  rw[e1] at hp;rw[if_neg h,e1];refine ai rfl rfl Tryz.func125 rfl Tryz.ntmps125 ⟨by simp,by simp[LK]⟩ ?_
  simp only[go_sem,reduceLT,reduceCtorEq,reduceEqDiff,Nat.reduceBEq,reduceAdd,hr,hp]
theorem Qs (s:List UInt8)(hs:s.length≤1000000000):den K 75 [T s,T [110,45]] []=some (.ret (.tup [.c (.pv (.str (if s.take 2=[110,45] then s.drop 2 else s))),.c (.pv (.bool (decide (s.take 2=[110,45]))))]) []):=by
 have hr:Tryz.f75.results=#[.tmp 4,.tmp 5]:=rfl
 have hp:=JI s hs
 refine ai rfl rfl Tryz.func75 rfl Tryz.ntmps75 ⟨by simp,by simp[LK]⟩ ?_
 simp only[go_sem,reduceLT,reduceCtorEq,reduceEqDiff,Nat.reduceBEq,reduceAdd,hr,hp,TV.flat]
theorem eO {α:Type}{enc:α→AV}{x:α}{m:List Val}{r:Option Res}(h:jw enc (some (x,m)) r):r=some (.ret (enc x) [rdB m]):=h
theorem gh {α:Type}{enc:α→AV}{r:Option Res}(h:jw enc none r):∃ m,r=some (.pan ey [rdB m]):=h
theorem Ou {n:Int}(h:0≤n∧n≤9999):IntKind.i64.wrap (0 - n) = -n:=by rw[IntWalk.i64_in _ (by omega)];omega
theorem JQ (l:List Val)(hl:l.length≤70000000)(ht:TSh l):jw twoI (Sl.nthP l) (den K 39 [P0] [rdB l]):=by
 have hr:Tryz.f39.results=#[.tmp 2,.tmp 3]:=rfl
 have h1:=dV l 1 (by omega)
 have h5:=dV l 5 (by omega)
 have hmy:=fF
 have hmn:=jk
 unfold Sl.nthP;cases k1:Sl.tokK 1 l with
 | some t =>
  obtain⟨e,c,r,rfl,hk⟩:=lF k1;rw[e] at h1;have hn:=kz (.mk 1 t c::r) (by omega)
  have en:Sl.name (.mk 1 t c::r)=some (t.text,r):=by unfold Sl.name;rw[k1];rfl
  rw[en] at hn;have hn:=eO hn
  simp only[List.tail_cons];cases kn:Sl.mU t.text with
  | some x =>
   have hd:=DK kn
   show den K 39 [P0] [rdB (.mk 1 t c::r)]=some (.ret (twoI x) [rdB r])
   simp only[rdB,twoI] at h1 hn hd ⊢;refine ai rfl rfl Tryz.func39 rfl Tryz.ntmps39 ⟨by simp,by simp[LK]⟩ ?_
   simp only[go_sem,reduceLT,reduceCtorEq,reduceEqDiff,Nat.reduceBEq,reduceAdd,hr,h1,hn,hd,TV.flat]
  | none =>
   have hd:=Dp kn
   refine⟨r,?_⟩
   simp only[rdB] at h1 hn hd ⊢;refine ai rfl rfl Tryz.func39 rfl Tryz.ntmps39 ⟨by simp,by simp[LK]⟩ ?_
   simp only[go_sem,reduceLT,reduceCtorEq,reduceEqDiff,Nat.reduceBEq,reduceAdd,hr,h1,hn,hd]
 | none =>
 rw[eR k1] at h1;cases k5:Sl.tokK 5 l with
 | none =>
  rw[eR k5] at h5;refine⟨l,?_⟩
  simp only[rdB] at h1 h5 ⊢;refine ai rfl rfl Tryz.func39 rfl Tryz.ntmps39 ⟨by simp,by simp[LK]⟩ ?_
  simp only[go_sem,reduceLT,reduceCtorEq,reduceEqDiff,Nat.reduceBEq,reduceAdd,hr,h1,h5,hmn]
 | some t =>
 obtain⟨e,c,r,rfl,hk⟩:=lF k5;rw[e] at h5;have hts:=FI ht
 have hrl:r.length≤70000000:=by rw[List.length_cons] at hl;omega
 have hx:=iM (.mk 1 t c::r) (by omega)
 have htk:=gx 1 t c r (by omega)
 have hcut:=Qs t.text (by omega)
 rw[ii] at hx htk;simp only[List.tail_cons];by_cases s0:t.text=[]
 ·rw[if_pos s0];have e0:(t.text==[])=true:=by rw[s0];rfl
  have hnm:=zt (.mk 1 t c::r) (by omega)
  have en:Sl.numP (.mk 1 t c::r)=some (t.n,r):=by unfold Sl.numP;rw[k5];simp only;rw[if_pos s0];rfl
  rw[en] at hnm;have hnm:=eO hnm
  show den K 39 [P0] [rdB (.mk 1 t c::r)]=some (.ret (twoI (0,t.n)) [rdB r])
  simp only[rdB,twoI] at h1 h5 hx hnm ⊢;refine ai rfl rfl Tryz.func39 rfl Tryz.ntmps39 ⟨by simp,by simp[LK]⟩ ?_
  simp only[go_sem,reduceLT,reduceCtorEq,reduceEqDiff,Nat.reduceBEq,reduceAdd,reduceSub,reduceLeDiff,aE am,hr,h1,h5,hmy,hx,hcut,e0,hnm,TV.flat]
 have e0:(t.text==[])=false:=by rw[beq_eq_false_iff_ne];exact s0
 rw[if_neg s0];by_cases s1:t.text=[110]
 ·rw[if_pos s1];have e1:(t.text==[110])=true:=by rw[s1];rfl
  cases ks:Sl.sign [43] r with
  | none =>
   have hs:=fZ (by omega) ks
   have q0:(([]:List UInt8)==[])=true:=rfl
   show den K 39 [P0] [rdB (.mk 1 t c::r)]=some (.ret (twoI (t.n,0)) [rdB r])
   simp only[rdB,twoI] at h1 h5 hx htk hs ⊢;refine ai rfl rfl Tryz.func39 rfl Tryz.ntmps39 ⟨by simp,by simp[LK]⟩ ?_
   simp only[go_sem,reduceLT,reduceCtorEq,reduceEqDiff,Nat.reduceBEq,reduceAdd,reduceSub,reduceLeDiff,reduceMul,ao (len:=1) aK aN aH ⟨rfl,by decide,by decide⟩,aE am,hr,h1,h5,hmy,hx,hcut,e0,e1,htk,hs,q0,bne,TV.flat]
  | some r2 =>
   have hs:=jU (by omega) ks
   have q0:(([43]:List UInt8)==[])=false:=rfl
   have hr2:r2.length≤r.length:=by
    obtain⟨v,e,_⟩:=Sl.gK ks;rw[e,List.length_cons];omega
   have hnm:=zt r2 (by omega)
   simp only;cases kn:Sl.numP r2 with
   | none =>
    rw[kn] at hnm;obtain⟨m,hnm⟩:=gh hnm;refine⟨m,?_⟩
    simp only[rdB] at h1 h5 hx htk hs hnm ⊢;refine ai rfl rfl Tryz.func39 rfl Tryz.ntmps39 ⟨by simp,by simp[LK]⟩ ?_
    simp only[go_sem,reduceLT,reduceCtorEq,reduceEqDiff,Nat.reduceBEq,reduceAdd,reduceSub,reduceLeDiff,reduceMul,ao (len:=1) aK aN aH ⟨rfl,by decide,by decide⟩,aE am,hr,h1,h5,hmy,hx,hcut,e0,e1,htk,hs,q0,bne,hnm,TV.flat]
   | some y =>
    obtain⟨b,m⟩:=y;rw[kn] at hnm;have hnm:=eO hnm
    simp only;by_cases hb:0≤b
    ·have eb:decide (0≤b)=true:=decide_eq_true hb
     rw[if_pos hb]
     show den K 39 [P0] [rdB (.mk 1 t c::r)]=some (.ret (twoI (t.n,b)) [rdB m])
     simp only[rdB,twoI] at h1 h5 hx htk hs hnm ⊢;refine ai rfl rfl Tryz.func39 rfl Tryz.ntmps39 ⟨by simp,by simp[LK]⟩ ?_
     simp only[go_sem,reduceLT,reduceCtorEq,reduceEqDiff,Nat.reduceBEq,reduceAdd,reduceSub,reduceLeDiff,reduceMul,ao (len:=1) aK aN aH ⟨rfl,by decide,by decide⟩,aE am,hr,h1,h5,hmy,hx,hcut,e0,e1,htk,hs,q0,bne,hnm,eb,TV.flat]
    ·have eb:decide (0≤b)=false:=decide_eq_false hb
     rw[if_neg hb];refine⟨m,?_⟩
     simp only[rdB] at h1 h5 hx htk hs hnm ⊢;refine ai rfl rfl Tryz.func39 rfl Tryz.ntmps39 ⟨by simp,by simp[LK]⟩ ?_
     simp only[go_sem,reduceLT,reduceCtorEq,reduceEqDiff,Nat.reduceBEq,reduceAdd,reduceSub,reduceLeDiff,reduceMul,ao (len:=1) aK aN aH ⟨rfl,by decide,by decide⟩,aE am,hr,h1,h5,hmy,hmn,hx,hcut,e0,e1,htk,hs,q0,bne,hnm,eb,TV.flat]
 have e1:(t.text==[110])=false:=by rw[beq_eq_false_iff_ne];exact s1
 rw[if_neg s1];unfold Sl.Ak;by_cases s2:t.text.take 2=[110,45]
 ·have e2:decide (t.text.take 2=[110,45])=true:=decide_eq_true s2
  rw[if_pos s2,e2] at hcut;have htr:=Ml (t.text.drop 2) (by rw[List.length_drop];omega)
  have hal:=Sl.Cj (t.text.drop 2)
  generalize hD:t.text.drop 2=D at *
  by_cases hd:D.all Tk.digit=true∧1≤D.length∧D.length≤4
  ·have ha:=JM (by omega) (Sl.Ck hd.1 hd.2.1 hd.2.2)
   have h0:=Sl.Ek hd
   have h9:Sl.digits D≤9999:=Sl.HE
   have hw:=Ou ⟨h0,h9⟩
   rw[hd.1] at hal;have e3:decide (0<(D.length:Int))=true:=decide_eq_true (by omega)
   have e4:decide ((D.length:Int)≤4)=true:=decide_eq_true (by omega)
   rw[if_pos ⟨s2,h0⟩]
   show den K 39 [P0] [rdB (.mk 1 t c::r)]=some (.ret (twoI (t.n,-Sl.digits D)) [rdB r])
   simp only[rdB,twoI] at h1 h5 hx htk ⊢;refine ai rfl rfl Tryz.func39 rfl Tryz.ntmps39 ⟨by simp,by simp[LK]⟩ ?_
   simp only[go_sem,reduceLT,reduceCtorEq,reduceEqDiff,Nat.reduceBEq,reduceAdd,reduceSub,reduceLeDiff,reduceMul,ao (len:=1) aK aN aH ⟨rfl,by decide,by decide⟩,aE am,hr,h1,h5,hmy,hx,hcut,e0,e1,e3,e4,htr,hal,ha,hw,htk,TV.flat]
  ·have h0:Sl.digits D = -1:=Sl.DY hd
   rw[if_neg (by rw[h0];rintro ⟨_,h⟩;omega)]
   refine⟨.mk 1 t c::r,?_⟩
   simp only[rdB] at h1 h5 hx htk ⊢;by_cases c1:1≤D.length
   ·have e3:decide (0<(D.length:Int))=true:=decide_eq_true (by omega)
    by_cases c2:D.length≤4
    ·have e4:decide ((D.length:Int)≤4)=true:=decide_eq_true (by omega)
     have c3:D.all Tk.digit=false:=by
      cases h:D.all Tk.digit with
      | false=>rfl
      | true=>exact absurd ⟨h,c1,c2⟩ hd
     rw[c3] at hal;refine ai rfl rfl Tryz.func39 rfl Tryz.ntmps39 ⟨by simp,by simp[LK]⟩ ?_
     simp only[go_sem,reduceLT,reduceCtorEq,reduceEqDiff,Nat.reduceBEq,reduceAdd,reduceSub,reduceLeDiff,aE am,hr,h1,h5,hmy,hmn,hx,hcut,e0,e1,e3,e4,htr,hal,TV.flat]
    ·have e4:decide ((D.length:Int)≤4)=false:=decide_eq_false (by omega)
     refine ai rfl rfl Tryz.func39 rfl Tryz.ntmps39 ⟨by simp,by simp[LK]⟩ ?_
     simp only[go_sem,reduceLT,reduceCtorEq,reduceEqDiff,Nat.reduceBEq,reduceAdd,reduceSub,reduceLeDiff,aE am,hr,h1,h5,hmy,hmn,hx,hcut,e0,e1,e3,e4,TV.flat]
   ·have e3:decide (0<(D.length:Int))=false:=decide_eq_false (by omega)
    refine ai rfl rfl Tryz.func39 rfl Tryz.ntmps39 ⟨by simp,by simp[LK]⟩ ?_
    simp only[go_sem,reduceLT,reduceCtorEq,reduceEqDiff,Nat.reduceBEq,reduceAdd,reduceSub,reduceLeDiff,aE am,hr,h1,h5,hmy,hmn,hx,hcut,e0,e1,e3,TV.flat]
 ·have e2:decide (t.text.take 2=[110,45])=false:=decide_eq_false s2
  rw[if_neg s2,e2] at hcut;rw[if_neg fun h=>s2 h.1]
  refine⟨.mk 1 t c::r,?_⟩
  simp only[rdB] at h1 h5 hx htk ⊢;refine ai rfl rfl Tryz.func39 rfl Tryz.ntmps39 ⟨by simp,by simp[LK]⟩ ?_
  simp only[go_sem,reduceLT,reduceCtorEq,reduceEqDiff,Nat.reduceBEq,reduceAdd,reduceSub,reduceLeDiff,aE am,hr,h1,h5,hmy,hmn,hx,hcut,e0,e1,TV.flat]
attribute [local go_sem] bh dI AP Bx sy eF cX cV vR
theorem Oc (l:List Val)(e:Nat)(acc:List Val):Ends (exL K 145 attlp (sN l l.length e acc)) fun o S=>o=.exit 0∧S.nt=100∧S.sl 4=.c (.loc 9 0)∧S.sl 2=.c (.loc 2 0)∧S.bx 9=some [.own e (encL acc),.pv (.int .i64 0),.pv (.bool false)]∧S.bx 2=some [.pv (.int .i64 0),.pv (.str []),.pv (.str []),.pv (.int .i64 0),.pv (.int .i64 0),.own 0 []]∧S.bx 6=none∧S.bx 7=none:=by
 have hlt:decide ((l.length:Int)<(l.length:Int))=false:=decide_eq_false (by omega)
 unfold attlp
 conv in ap _ _=>whnf
 rw[aq];simp only[go_sem,reduceLT,reduceCtorEq,reduceEqDiff,Nat.reduceBEq,reduceAdd,af ak,aA,aw]
theorem tw (l:List Val)(hl:l.length≤100000000):∀ (rest:List Val) (i e:Nat) (acc:List Val),l.drop i=rest→i≤l.length→(e=93∨acc=[])→acc.length≤i →
  Ends (exL K 145 attlp (sN l i e acc)) fun o S=>o=.exit 0∧S.nt=100∧S.sl 4=.c (.loc 9 0)∧S.sl 2=.c (.loc 2 0)∧(∃ e':Nat,S.bx 9=some [.own e' (encL (acc++noB rest)),.pv (.int .i64 0),.pv (.bool false)])∧S.bx 2=some [.pv (.int .i64 0),.pv (.str []),.pv (.str []),.pv (.int .i64 0),.pv (.int .i64 0),.own 0 []]∧S.bx 6=none∧S.bx 7=none
 | [],i,e,acc,hd,hi,he,ha=>by
  have hin:i=l.length:=by
   have:=List.drop_eq_nil_iff.1 hd
   omega
  subst hin;refine aW (Oc l e acc) fun o S q=>⟨q.1,q.2.1,q.2.2.1,q.2.2.2.1,⟨e,?_⟩,q.2.2.2.2.2⟩
  rw[q.2.2.2.2.1];simp[noB]
 | v::rest,i,e,acc,hd,hi,he,ha=>by
  obtain⟨g1,g2,g3⟩:=js hd;cases hb:Sl.ar v with
  | true =>
   rw[GB l i e acc hl v g1 hb];have hn:noB (v::rest)=noB rest:=by simp[noB,hb]
   rw[hn];exact tw l hl rest (i+1) e acc g2 g3 he (by omega)
  | false =>
   rw[Ll l i e acc hl (by omega) he v g1 hb]
   have hn:acc++noB (v::rest)=(acc++[v])++noB rest:=by simp[noB,hb]
   rw[hn];exact tw l hl rest (i+1) 93 (acc++[v]) g2 g3 (.inl rfl) (by simp;omega)
def wA (R:List Val):Option Sim :=
 match R with
 | [.mk k t _]=>if k=1∧t.kind=1 then some (.mk 5 t.text [] 0 0 []) else none
 | [.mk k t _,e,.mk k' u _]=>if k=1∧t.kind=1∧Sl.aI [61] e=true∧k'=1∧(u.kind=1∨u.kind=6) then some (.mk 6 t.text u.text 0 0 []) else none
 | _=>none
theorem UW (l:List Val):Sl.attr l=wA (noB l):=rfl
theorem QS {R:List Val}(h:Sl.name R=none):wA R=none:=by
 have key:∀ (k:Int) (t:Tok) (c r:List Val),Sl.name (.mk k t c::r)=none→¬(k=1∧t.kind=1):=by
  intro k t c r h hh;unfold Sl.name Sl.tokK at h;simp only[if_pos hh] at h;cases h
 match R with
 | []=>rfl
 | [.mk k t c]=>exact if_neg (key k t c _ h)
 | [.mk _ _ _,.mk _ _ _]=>rfl
 | [.mk k t c,_,.mk k' u c']=>exact if_neg fun hh=>key k t c _ h ⟨hh.1,hh.2.1⟩
 | .mk _ _ _::_::.mk _ _ _::_::_=>rfl
theorem Mb {R:List Val}(h1:R.length≠1)(h3:R.length≠3):wA R=none:=by
 match R with
 | []=>rfl
 | [_]=>exact absurd rfl h1
 | [.mk _ _ _,.mk _ _ _]=>rfl
 | [_,_,_]=>exact absurd rfl h3
 | .mk _ _ _::_::.mk _ _ _::_::_=>rfl
theorem SQ {R r:List Val}{s:List UInt8}(h1:R.length=1)(h:Sl.name R=some (s,r)):wA R=some (.mk 5 s [] 0 0 []):=by
 obtain⟨t,c,e,hk,rfl⟩:=Sl.th h;subst e;have:r=[]:=List.eq_nil_of_length_eq_zero (by simpa using h1)
 subst this;exact if_pos ⟨rfl,hk⟩
theorem Nh {R:List Val}(h3:R.length=3)(hs:Sl.sign [61] (R.drop 1)=none):wA R=none:=by
 match R with
 | [.mk k t c,v,.mk k' u c'] =>
  refine if_neg fun hh => ?_
  have h':(if Sl.aI [61] v=true then some [Val.mk k' u c'] else none)=none:=hs
  rw[if_pos hh.2.2.1] at h';cases h'
theorem QZ {R r r' c:List Val}{s:List UInt8}{k:Int}{u:Tok}(h3:R.length=3)(h:Sl.name R=some (s,r))(hs:Sl.sign [61] (R.drop 1)=some r')(h2:R[2]? = some (.mk k u c)) :
  wA R=if k=1∧(u.kind=1∨u.kind=6) then some (.mk 6 s u.text 0 0 []) else none:=by
 obtain⟨t,c1,e,hk,rfl⟩:=Sl.th h;subst e
 match r with
 | [v,w] =>
  have hw:w=.mk k u c:=by simpa using h2
  subst hw;have hv:Sl.aI [61] v=true:=by
   have h':(if Sl.aI [61] v=true then some [Val.mk k u c] else none)=some r':=hs
   split at h'
   ·assumption
   ·cases h'
  unfold wA;simp only[hk,hv,true_and]
theorem len3 {R:List Val}(h:R.length=3):∃ k u c,R[2]? = some (Val.mk k u c):=by
 match R with
 | [_,_,.mk k u c]=>exact⟨k,u,c,rfl⟩
theorem OX (l:List Val)(hl:l.length≤100000000):∃ (x:Sim) (ok:Bool),den K 145 [L (encL l)] []=some (.ret (.tup [.agg (ff x),.c (.pv (.bool ok))]) [])∧(match Sl.attr l with|some y=>x=y∧ok=true|none=>ok=false):=by
 have hr:Tryz.f145.results=#[.cell 2 52,.tmp 3]:=rfl
 obtain⟨o,S,w,rfl,hn,s4,s2,⟨e,b9⟩,b2,b6,b7⟩:=tw l hl l 0 0 [] rfl (Nat.zero_le _) (.inr rfl) (Nat.zero_le _);have z0:((0:Nat):Int)=0:=rfl
 have z1:((1:Nat):Int)=1:=rfl
 have z2:((2:Nat):Int)=2:=rfl
 have t2:(2:Int).toNat=2:=rfl
 have p2:(0:Int)≤2:=by decide
 unfold attlp at w
 conv at w in ap _ _=>whnf
 simp only[sN,z0] at w
 rw[List.nil_append] at b9
 rw[UW];have hR:(noB l).length≤100000000:=Nat.le_trans (List.length_filter_le _ _) hl
 generalize noB l=R at b9 hR
 cases hnm:Sl.name R with
 | none =>
  have nm:=AQ (some e) R 0 false hR (by rw[List.drop_zero];exact hnm)
  simp only[rb,gF,z0] at nm
  rw[QS hnm];by_cases L1:R.length=1
  ·have e1:((R.length:Int)==1)=true:=by rw[L1];rfl
   refine⟨.mk 5 [] [] 0 0 [],false,?_,rfl⟩
   refine ai rfl rfl Tryz.func145 rfl Tryz.ntmps145 ⟨by simp,by simp[LK]⟩ ?_
   simp only[go_sem,reduceLT,reduceEqDiff,Nat.reduceBEq,reduceAdd,reduceSub,reduceLeDiff,aa aJ aM];rw[au];simp only[go_sem,reduceCtorEq,reduceEqDiff,Nat.reduceBEq,reduceSub,reduceLeDiff];erw [w];simp only[go_sem,reduceLT,reduceEqDiff,Nat.reduceBEq,reduceAdd,reduceLeDiff,af ak,aa ab ah,hr,hn,s4,s2,b9,b2,b6,nm,e1,aA,aQ]
  ·have e1:((R.length:Int)==1)=false:=by rw[beq_eq_false_iff_ne];omega
   by_cases L3:R.length=3
   ·have e3:((R.length:Int) != 3)=false:=by rw[L3];rfl
    cases hs:Sl.sign [61] (R.drop 0) with
    | none =>
     have sg:=om (some e) R 0 true [61] hR hs
     simp only[rb,gF,z0] at sg
     refine⟨.mk 5 [] [] 0 0 [],false,?_,rfl⟩
     refine ai rfl rfl Tryz.func145 rfl Tryz.ntmps145 ⟨by simp,by simp[LK]⟩ ?_
     simp only[go_sem,reduceLT,reduceEqDiff,Nat.reduceBEq,reduceAdd,reduceSub,reduceLeDiff,aa aJ aM];rw[au];simp only[go_sem,reduceCtorEq,reduceEqDiff,Nat.reduceBEq,reduceSub,reduceLeDiff];erw [w];simp only[go_sem,reduceLT,reduceEqDiff,Nat.reduceBEq,reduceAdd,reduceLeDiff,af ak,aa ab ah,hr,hn,s4,s2,b9,b2,b6,nm,e1,e3,sg,aA,aQ]
    | some r =>
     have sg:=(wu (some e) R 0 true [61] hR r hs).1
     simp only[rb,gF,z0,Nat.zero_add,z1] at sg
     obtain⟨k,u,c,h2⟩:=len3 L3;have hget:=gR R 2 k u c h2
     have n2:((2:Nat):Int).toNat=2:=rfl
     simp only[n2] at hget;refine⟨.mk 6 [] u.text 0 0 [],false,?_,rfl⟩
     refine ai rfl rfl Tryz.func145 rfl Tryz.ntmps145 ⟨by simp,by simp[LK]⟩ ?_
     simp only[go_sem,reduceLT,reduceEqDiff,Nat.reduceBEq,reduceAdd,reduceSub,reduceLeDiff,aa aJ aM];rw[au];simp only[go_sem,reduceCtorEq,reduceEqDiff,Nat.reduceBEq,reduceSub,reduceLeDiff];erw [w];simp only[go_sem,reduceLT,reduceEqDiff,Nat.reduceBEq,reduceAdd,reduceLeDiff,af ak,aj ak,aa ab ah,hr,hn,s4,s2,b9,b2,b6,b7,nm,e1,e3,sg,hget,t2,p2,aA,aQ]
   ·have e3:((R.length:Int) != 3)=true:=by rw[bne_iff_ne];omega
    refine⟨.mk 5 [] [] 0 0 [],false,?_,rfl⟩
    refine ai rfl rfl Tryz.func145 rfl Tryz.ntmps145 ⟨by simp,by simp[LK]⟩ ?_
    simp only[go_sem,reduceLT,reduceEqDiff,Nat.reduceBEq,reduceAdd,reduceSub,reduceLeDiff,aa aJ aM];rw[au];simp only[go_sem,reduceCtorEq,reduceEqDiff,Nat.reduceBEq,reduceSub,reduceLeDiff];erw [w];simp only[go_sem,reduceLT,reduceEqDiff,Nat.reduceBEq,reduceAdd,reduceLeDiff,af ak,aa ab ah,hr,hn,s4,s2,b9,b2,b6,nm,e1,e3,aA,aQ]
 | some y =>
  obtain⟨s,r⟩:=y;have nm:=(EN (some e) R 0 false hR s r (by rw[List.drop_zero];exact hnm)).1
  simp only[rb,gF,z0,Nat.zero_add,z1] at nm
  by_cases L1:R.length=1
  ·have e1:((R.length:Int)==1)=true:=by rw[L1];rfl
   rw[SQ L1 hnm];refine⟨.mk 5 s [] 0 0 [],true,?_,rfl,rfl⟩
   refine ai rfl rfl Tryz.func145 rfl Tryz.ntmps145 ⟨by simp,by simp[LK]⟩ ?_
   simp only[go_sem,reduceLT,reduceEqDiff,Nat.reduceBEq,reduceAdd,reduceSub,reduceLeDiff,aa aJ aM];rw[au];simp only[go_sem,reduceCtorEq,reduceEqDiff,Nat.reduceBEq,reduceSub,reduceLeDiff];erw [w];simp only[go_sem,reduceLT,reduceEqDiff,Nat.reduceBEq,reduceAdd,reduceLeDiff,af ak,aa ab ah,hr,hn,s4,s2,b9,b2,b6,nm,e1,aA,aQ]
  ·have e1:((R.length:Int)==1)=false:=by rw[beq_eq_false_iff_ne];omega
   by_cases L3:R.length=3
   ·have e3:((R.length:Int) != 3)=false:=by rw[L3];rfl
    cases hs:Sl.sign [61] (R.drop 1) with
    | none =>
     have sg:=om (some e) R 1 false [61] hR hs
     simp only[rb,gF,z1] at sg
     rw[Nh L3 hs];refine⟨.mk 5 s [] 0 0 [],false,?_,rfl⟩
     refine ai rfl rfl Tryz.func145 rfl Tryz.ntmps145 ⟨by simp,by simp[LK]⟩ ?_
     simp only[go_sem,reduceLT,reduceEqDiff,Nat.reduceBEq,reduceAdd,reduceSub,reduceLeDiff,aa aJ aM];rw[au];simp only[go_sem,reduceCtorEq,reduceEqDiff,Nat.reduceBEq,reduceSub,reduceLeDiff];erw [w];simp only[go_sem,reduceLT,reduceEqDiff,Nat.reduceBEq,reduceAdd,reduceLeDiff,af ak,aa ab ah,hr,hn,s4,s2,b9,b2,b6,nm,e1,e3,sg,aA,aQ]
    | some r' =>
     have sg:=(wu (some e) R 1 false [61] hR r' hs).1
     simp only[rb,gF,z1,reduceAdd,z2] at sg
     obtain⟨k,u,c,h2⟩:=len3 L3;have hget:=gR R 2 k u c h2
     have n2:((2:Nat):Int).toNat=2:=rfl
     simp only[n2] at hget;rw[QZ L3 hnm hs h2];cases ek:(k==1)
     ·rw[if_neg (fun h=>by rw[h.1] at ek;cases ek)]
      refine⟨.mk 6 s u.text 0 0 [],false,?_,rfl⟩
      refine ai rfl rfl Tryz.func145 rfl Tryz.ntmps145 ⟨by simp,by simp[LK]⟩ ?_
      simp only[go_sem,reduceLT,reduceEqDiff,Nat.reduceBEq,reduceAdd,reduceSub,reduceLeDiff,aa aJ aM];rw[au];simp only[go_sem,reduceCtorEq,reduceEqDiff,Nat.reduceBEq,reduceSub,reduceLeDiff];erw [w];simp only[go_sem,reduceLT,reduceEqDiff,Nat.reduceBEq,reduceAdd,reduceLeDiff,af ak,aj ak,aa ab ah,hr,hn,s4,s2,b9,b2,b6,b7,nm,e1,e3,sg,hget,t2,p2,ek,aA,aQ]
     ·have hk:k=1:=by simpa using ek
      cases eu:(u.kind==1)
      ·cases ev:(u.kind==6)
       ·rw[if_neg (fun h=>by
         rcases h.2 with h|h
         ·rw[h] at eu;cases eu
         ·rw[h] at ev;cases ev)]
        refine⟨.mk 6 s u.text 0 0 [],false,?_,rfl⟩
        refine ai rfl rfl Tryz.func145 rfl Tryz.ntmps145 ⟨by simp,by simp[LK]⟩ ?_
        simp only[go_sem,reduceLT,reduceEqDiff,Nat.reduceBEq,reduceAdd,reduceSub,reduceLeDiff,aa aJ aM];rw[au];simp only[go_sem,reduceCtorEq,reduceEqDiff,Nat.reduceBEq,reduceSub,reduceLeDiff];erw [w];simp only[go_sem,reduceLT,reduceEqDiff,Nat.reduceBEq,reduceAdd,reduceLeDiff,af ak,aj ak,aa ab ah,hr,hn,s4,s2,b9,b2,b6,b7,nm,e1,e3,sg,hget,t2,p2,ek,eu,ev,aA,aQ]
       ·rw[if_pos ⟨hk,.inr (by simpa using ev)⟩]
        refine⟨.mk 6 s u.text 0 0 [],true,?_,rfl,rfl⟩
        refine ai rfl rfl Tryz.func145 rfl Tryz.ntmps145 ⟨by simp,by simp[LK]⟩ ?_
        simp only[go_sem,reduceLT,reduceEqDiff,Nat.reduceBEq,reduceAdd,reduceSub,reduceLeDiff,aa aJ aM];rw[au];simp only[go_sem,reduceCtorEq,reduceEqDiff,Nat.reduceBEq,reduceSub,reduceLeDiff];erw [w];simp only[go_sem,reduceLT,reduceEqDiff,Nat.reduceBEq,reduceAdd,reduceLeDiff,af ak,aj ak,aa ab ah,hr,hn,s4,s2,b9,b2,b6,b7,nm,e1,e3,sg,hget,t2,p2,ek,eu,ev,aA,aQ]
      ·rw[if_pos ⟨hk,.inl (by simpa using eu)⟩]
       refine⟨.mk 6 s u.text 0 0 [],true,?_,rfl,rfl⟩
       refine ai rfl rfl Tryz.func145 rfl Tryz.ntmps145 ⟨by simp,by simp[LK]⟩ ?_
       simp only[go_sem,reduceLT,reduceEqDiff,Nat.reduceBEq,reduceAdd,reduceSub,reduceLeDiff,aa aJ aM];rw[au];simp only[go_sem,reduceCtorEq,reduceEqDiff,Nat.reduceBEq,reduceSub,reduceLeDiff];erw [w];simp only[go_sem,reduceLT,reduceEqDiff,Nat.reduceBEq,reduceAdd,reduceLeDiff,af ak,aj ak,aa ab ah,hr,hn,s4,s2,b9,b2,b6,b7,nm,e1,e3,sg,hget,t2,p2,ek,eu,aA,aQ]
   ·have e3:((R.length:Int) != 3)=true:=by rw[bne_iff_ne];omega
    rw[Mb L1 L3];refine⟨.mk 5 s [] 0 0 [],false,?_,rfl⟩
    refine ai rfl rfl Tryz.func145 rfl Tryz.ntmps145 ⟨by simp,by simp[LK]⟩ ?_
    simp only[go_sem,reduceLT,reduceEqDiff,Nat.reduceBEq,reduceAdd,reduceSub,reduceLeDiff,aa aJ aM];rw[au];simp only[go_sem,reduceCtorEq,reduceEqDiff,Nat.reduceBEq,reduceSub,reduceLeDiff];erw [w];simp only[go_sem,reduceLT,reduceEqDiff,Nat.reduceBEq,reduceAdd,reduceLeDiff,af ak,aa ab ah,hr,hn,s4,s2,b9,b2,b6,nm,e1,e3,aA,aQ]
theorem Lv:∃ x:Sim,den K 145 [.c .nils] []=some (.ret (.tup [.agg (ff x),.c (.pv (.bool false))]) []):=by
 have hr:Tryz.f145.results=#[.cell 2 52,.tmp 3]:=rfl
 have nm:=AQ (some 0) [] 0 false (by decide) rfl
 have z0:((0:Nat):Int)=0:=rfl
 have en:encL []=[]:=rfl
 have hz:decide ((0:Int)<0)=false:=rfl
 have e01:((0:Int)==1)=false:=rfl
 have e03:((0:Int) != 3)=true:=rfl
 simp only[rb,gF,z0,en] at nm
 refine⟨.mk 5 [] [] 0 0 [],?_⟩
 refine ai rfl rfl Tryz.func145 rfl Tryz.ntmps145 ⟨by simp,by simp[LK]⟩ ?_
 simp only[go_sem,reduceLT,reduceEqDiff,Nat.reduceBEq,reduceAdd,reduceSub,reduceLeDiff,aa aJ aM];rw[au];simp only[go_sem,reduceCtorEq,reduceEqDiff,Nat.reduceBEq,reduceSub,reduceLeDiff];rw[aq];simp only[go_sem,reduceLT,reduceCtorEq,reduceEqDiff,Nat.reduceBEq,reduceAdd,reduceLeDiff,af ak,aa ab ah,hr,nm,z0,e01,e03,aQ]
attribute [local go_sem] MD cP lC aO kD Tl iR Be fV ib fI IB oG fT kw jb fU ja nR Ik MV fy kh aZ Tw Rx
def Prt.enc (p:Prt):List PV:=[.int .i64 p.comb,.sl (p.l.map Sim.enc)]
def Cpx.enc (c:Cpx):List PV:=[.sl (c.parts.map Prt.enc),.str c.pseudo]
theorem Cpx.enc_mk (l:List Prt)(s:List UInt8):(Cpx.mk l s).enc=[.sl (l.map Prt.enc),.str s]:=rfl
structure Prt.Ok (p:Prt):Prop where
 len:p.l.length≤reachBytes
 all:∀ x∈p.l,x.Ok
structure Cpx.Ok (c:Cpx):Prop where
 len:c.parts.length≤reachBytes
 all:∀ p∈c.parts,p.Ok
 pse:c.pseudo.length≤reachBytes
def prtB (b:BS)(p:Prt):BS:=zL (.wr (b.text++lZ p.comb)) p.l
theorem yP (b:BS)(p:Prt):(prtB b p).text=b.text++prtS p:=by
 unfold prtB prtS;rw[qG,sk,List.append_assoc]
theorem Aw (b:BS)(p:Prt):(prtB b p).live'=prtB b p:=by
 unfold prtB zL;have:∀ (l:List Sim) (b:BS),b.live'=b→(l.foldl simB b).live'=l.foldl simB b:=by
  intro l
  induction l with
  | nil=>intro b h;exact h
  | cons x l ih=>intro b h;exact ih _ (sY b x h)
 exact this _ _ rfl
theorem yS:∀ (l:List Prt) (b:BS),(l.foldl prtB b).text=b.text++l.flatMap prtS
 | [],b=>by simp
 | p::l,b=>by rw[List.foldl_cons,yS l,yP,List.flatMap_cons,List.append_assoc]
theorem nn {n:Nat}(h:n≤reachBytes):n<9000000000000000000:=by simp[reachBytes] at h;omega
abbrev cpxH (b:BS)(c:Cpx)(i:Nat):St :=
  { sl:=upd (upd (upd (upd (upd bot 9 (I i)) 8 (I c.parts.length)) 7 (L (c.parts.map Prt.enc))) 3 (.c (.loc 3 0))) 1 (.c (.loc 1 0)),bx:=upd (upd nobox 3 (some (b.cells 3))) 1 (some [.pv (.sl (c.parts.map Prt.enc)),.pv (.str c.pseudo)]),nt:=34 }
theorem rY (c:Cpx)(hal:c.parts.length≤reachBytes):∀ (rest:List Prt) (i:Nat) (b:BS),c.parts.drop i=rest→(∀ p∈rest,p.Ok)→(b.text++rest.flatMap prtS).length<eK→b.live'=b→i≤c.parts.length →
  exL K 31 (.loop (ap Tryz.f31 3)) (cpxH b c i) =
   some (.exit 0, { sl:=upd (upd (upd (upd (upd (upd bot 9 (I c.parts.length)) 8 (I c.parts.length)) 7 (L (c.parts.map Prt.enc))) 3 (.c (.loc 3 0))) 1 (.c (.loc 1 0))) 10 (B false),bx:=upd (upd nobox 3 (some ((rest.foldl prtB b).cells 3))) 1 (some [.pv (.sl (c.parts.map Prt.enc)),.pv (.str c.pseudo)]),nt:=34 })
 | [],i,b,hd,hok,hlen,hb,hi=>by
  have hin:i=c.parts.length:=by
   have:=List.drop_eq_nil_iff.1 hd
   omega
  subst hin
  conv in ap _ _=>whnf
  rw[aq];simp only[go_sem,reduceLT,reduceEqDiff,Nat.reduceBEq,fe,hb,List.foldl_nil]
 | ⟨k,l⟩::rest,i,b,hd,hok,hlen,hb,hi=>by
  obtain⟨h1,h2,h3⟩:=bH hd;have hp:=hok ⟨k,l⟩ (by simp)
  have hp1:=hp.len
  simp only at hp1;have hnext:=rY c hal rest (i+1) (prtB b ⟨k,l⟩) h2 (fun y hy=>hok y (by simp[hy])) (by rw[yP];simpa using hlen) (Aw b _) (by omega)
  rw[List.foldl_cons]
  conv at hnext in ap _ _=>whnf
  conv in ap _ _=>whnf
  rw[aq];have hget:(c.parts.map Prt.enc)[(i:Int).toNat]? = some [.int .i64 k,.sl (l.map Sim.enc)]:=by simp[h1,Prt.enc]
  have hlt:decide ((i:Int)<(c.parts.length:Int))=true:=kQ (by omega)
  have hcomb:=Qk k
  have hlen':(b.text++lZ k++eY l).length<eK:=by simp[prtS] at hlen ⊢;omega
  have w1:=er [.s (lZ k)] b (by simp[Wd.ok]) (by simp[dp,Wd.text] at hlen' ⊢;omega) (by simp)
  have w2:=un l (.wr (b.text++lZ k)) (nn hp1) (fun x hx=>RU x (hp.all x hx)) (by rw[sk];exact hlen')
  simp only[Wd.enc,fW,dp,List.map_cons,List.map_nil,List.flatMap_cons,List.flatMap_nil,Wd.text,List.append_nil] at w1
  have hi2:i+1<9223372036854775807:=by have:=nn hal;omega
  simp only[go_sem,reduceLT,reduceEqDiff,Nat.reduceBEq,reduceAdd,reduceMul,aj ay,ao (len:=1) bO cW bM ⟨rfl,by decide,by decide⟩,fe,dQ,dX,hb,hlt,hget,Int.natCast_nonneg,hcomb,w1,w2,aX i (by omega)]
  rw[au];have hpl:=Aw b ⟨k,l⟩
  unfold prtB at hpl hnext;simp only[go_sem,reduceEqDiff,Nat.reduceBEq,fe] at hpl hnext ⊢;simp only[hpl];exact hnext
theorem zd (b:BS)(h:b.text.length<eK):∃ cs,den K 36 [P0] [b.cells 100000]=some (.ret (T b.text) [cs]):=⟨_,mm b h⟩
theorem CZ (c:Cpx)(hc:c.Ok)(hlen:(cpxS c).length<eK):den K 31 [.agg (c.enc.map CV.pv)] []=some (.ret (T (cpxS c)) []):=by
 obtain⟨ps,s⟩:=c;have hl1:(ps.flatMap prtS).length<eK:=by rw[cpxS,List.length_append] at hlen;exact Nat.lt_of_le_of_lt (Nat.le_add_right _ _) hlen
 have hnext:=rY ⟨ps,s⟩ hc.len ps 0 .live rfl hc.all (by simpa[BS.text] using hl1) rfl (by omega)
 have ht:=yS ps .live
 simp only[ML,List.nil_append] at ht;rw[Cpx.enc_mk];refine ai rfl rfl Tryz.func31 rfl Tryz.ntmps31 ⟨by simp,by simp[LK]⟩ ?_
 have hr:Tryz.f31.results=#[.tmp 2]:=rfl
 conv at hnext in ap _ _=>whnf
 simp only[go_sem,reduceLT,reduceEqDiff,Nat.reduceBEq,reduceAdd,reduceSub,reduceLeDiff,af ay];rw[au];simp only[go_sem,reduceEqDiff,Nat.reduceBEq,reduceSub,reduceLeDiff];have hf:[CV.bld,CV.own 0 []]=BS.cells 3 .live:=rfl
 rw[hf];erw [hnext];have hpse:cpxS ⟨ps,s⟩=ps.flatMap prtS++pseS s:=rfl
 rw[hpse] at hlen ⊢;by_cases hs:s=[]
 ·subst hs;obtain⟨cs,hst⟩:=zd (ps.foldl prtB .live) (by rw[ht];exact hl1)
  simp[go_sem,reduceLT,reduceEqDiff,Nat.reduceBEq,reduceAdd,dQ,hst,ht,pseS]
 ·have e:(s != [])=true:=by simp[hs]
  have w:=er [.s [58,58],.s s] (ps.foldl prtB .live) (by simp[Wd.ok]) (by rw[ht];simpa[dp,Wd.text,pseS,hs] using hlen) (by simp)
  simp only[Wd.enc,fW,dp,List.map_cons,List.map_nil,List.flatMap_cons,List.flatMap_nil,Wd.text,List.append_nil,List.nil_append,List.cons_append,ht] at w
  obtain⟨cs,hst⟩:=zd (.wr (ps.flatMap prtS++58::58::s)) (by rw[sk];simpa[pseS,hs] using hlen)
  rw[sk] at hst;simp[go_sem,reduceLT,reduceEqDiff,Nat.reduceBEq,reduceAdd,reduceLeDiff,ao (len:=2) bO cW bM ⟨rfl,by decide,by decide⟩,dQ,dX,hst,w,pseS,hs,e]
def mn (l:List Cpx):List UInt8:=Lib.join (l.map cpxS) [44]
abbrev strC (l:List (List UInt8)):List (List PV):=l.map fun s=>[.str s]
abbrev Ug (w:List Cpx)(e:TypeId)(l:List Cpx)(i:Nat):St :=
  { sl:=upd (upd (upd (upd bot 8 (I i)) 7 (I l.length)) 6 (L (l.map Cpx.enc))) 3 (.c (.own e (strC (w.map cpxS)))),bx:=nobox,nt:=20 }
theorem Qt (l:List (List UInt8)):lens 1 (strC l)=true:=by simp[lens]
theorem PW (s:List UInt8):lens 1 [[PV.str s]]=true:=rfl
theorem Ao (l:List Cpx)(hal:l.length<1000000):∀ (rest:List Cpx) (i:Nat) (w:List Cpx) (e:TypeId),l.drop i=rest→(∀ c∈rest,c.Ok∧(cpxS c).length<eK)→(w=[]∨e=9)→w.length=i→i≤l.length →
  ∃ e',exL K 29 (.loop (ap Tryz.f29 3)) (Ug w e l i) =
   some (.exit 0, { sl:=upd (upd (upd (upd (upd bot 8 (I l.length)) 7 (I l.length)) 6 (L (l.map Cpx.enc))) 3 (.c (.own e' (strC ((w++rest).map cpxS))))) 9 (B false),bx:=nobox,nt:=20 })
 | [],i,w,e,hd,hok,he,hw,hi=>by
  have hin:i=l.length:=by
   have:=List.drop_eq_nil_iff.1 hd
   omega
  subst hin;refine⟨e,?_⟩
  conv in ap _ _=>whnf
  rw[aq];simp only[go_sem,reduceLT,reduceEqDiff,Nat.reduceBEq]
 | ⟨ps,s⟩::rest,i,w,e,hd,hok,he,hw,hi=>by
  obtain⟨h1,h2,h3⟩:=bH hd;obtain⟨hp,hcl⟩:=hok ⟨ps,s⟩ (by simp)
  obtain⟨e',hnext⟩:=Ao l hal rest (i+1) (w++[⟨ps,s⟩]) 9 h2 (fun y hy=>hok y (by simp[hy])) (.inr rfl) (by simp[hw]) (by omega)
  refine⟨e',?_⟩
  conv at hnext in ap _ _=>whnf
  conv in ap _ _=>whnf
  rw[aq];have hget:(l.map Cpx.enc)[(i:Int).toNat]? = some [.sl (ps.map Prt.enc),.str s]:=by simp[h1,Cpx.enc]
  have hlt:decide ((i:Int)<(l.length:Int))=true:=kQ (by omega)
  have hc:=CZ _ hp hcl
  rw[Cpx.enc_mk] at hc;simp only[List.map_cons,List.map_nil] at hc;have hlim:w.length+1<bS:=by simp[bS];omega
  have hown:(e=9∨(strC (w.map cpxS)).isEmpty=true)=True:=by
   rcases he with h|h
   ·subst h;simp
   ·subst h;simp
  simp only[go_sem,reduceLT,reduceCtorEq,reduceEqDiff,Nat.reduceBEq,reduceAdd,reduceMul,aj aL,ao (len:=1) aK aN aH ⟨rfl,by decide,by decide⟩,bq yq,aU aK,hlt,hget,Int.natCast_nonneg,hc,hlim,Qt,PW,hown,aX i (by omega)]
  rw[au];simp only[go_sem,reduceEqDiff];have e1:strC ((w++[(⟨ps,s⟩:Cpx)]).map cpxS)=strC (w.map cpxS)++[[PV.str (cpxS ⟨ps,s⟩)]]:=by simp
  have e2:w++[(⟨ps,s⟩:Cpx)]++rest=w++⟨ps,s⟩::rest:=by simp
  unfold Ug at hnext;rw[e1,e2] at hnext;exact hnext
theorem um:∀ l:List (List UInt8),pD (strC l)=some l
 | []=>rfl
 | s::l=>by
  show pD ([PV.str s]::strC l)=_
  unfold pD;rw[um l];rfl
theorem EM (l:List Cpx)(hal:l.length<1000000)(hok:∀ c∈l,c.Ok∧(cpxS c).length<eK)(hlen:(mn l).length<eK):den K 29 [L (l.map Cpx.enc)] []=some (.ret (T (mn l)) []):=by
 obtain⟨e',hnext⟩:=Ao l hal l 0 [] 0 rfl hok (.inl rfl) rfl (by omega)
 refine ai rfl rfl Tryz.func29 rfl Tryz.ntmps29 ⟨by simp,by simp[LK]⟩ ?_
 have hr:Tryz.f29.results=#[.tmp 2]:=rfl
 conv at hnext in ap _ _=>whnf
 have hj:den K 60 [L (strC (l.map cpxS)),T [44]] []=some (.ret (T (mn l)) []):=by
  refine eX (F:=EY) rfl ?_
  have h1:(strC (l.map cpxS)).length≤pP∧(Lib.join (l.map cpxS) [44]).length≤pP:=⟨by simp[pP];omega,by
   have:(mn l).length<4294967296:=hlen
   unfold mn at this
   simp only[pP];omega⟩
  simp only[EY,um];rw[if_pos h1];rfl
 simp only[go_sem,reduceLT,reduceCtorEq,reduceEqDiff,Nat.reduceBEq,reduceAdd,af aL];rw[au];simp only[go_sem,reduceEqDiff];erw [hnext];simp only[go_sem,reduceLT,reduceEqDiff,Nat.reduceBEq,reduceAdd,hr,hj]
attribute [local go_sem] Hh wG FC Cw Cu
def FS (i:Nat)(c:UInt8)(r:List UInt8):Int:=match Tk.inner c r with|some n=>((i+1+n:Nat):Int)|none => -1
abbrev inH (s:List UInt8)(i k:Nat):St := { sl:=upd (upd (upd bot 5 (I k)) 1 (I i)) 0 (T s),bx:=nobox,nt:=38 }
theorem Ry (s:List UInt8)(hs:s.length<4000000000)(i:Nat)(c:UInt8)(hi:s[i]? = some c):∀ (rest:List UInt8) (k:Nat),s.drop k=rest→k≤s.length →
  Ends (exL K 117 (.loop (ap Tryz.f117 2)) (inH s i k)) fun o S=>(∃ n,Tk.inner c rest=some n∧o=.ret∧S.sl 4=I (k+n:Nat))∨(Tk.inner c rest=none∧(o=.ret∧S.sl 4=I (-1)∨o=.exit 0∧S.nt=38)):=by
 intro rest
 induction rest with
 | nil =>
  intro k hd hk;have hin:k=s.length:=by
   have:=List.drop_eq_nil_iff.1 hd
   omega
  subst hin;have hv:Tk.inner c []=none:=rfl
  conv in ap _ _=>whnf
  rw[aq];simp only[go_sem,reduceLT,reduceCtorEq,reduceEqDiff,Nat.reduceBEq,reduceAdd,aE am,aw,hv]
 | cons d rest ih =>
  intro k hd hk;obtain⟨g1,g2,g3⟩:=bH hd;have hlt:decide ((k:Int)<(s.length:Int))=true:=decide_eq_true (by omega)
  have edc:((d.toNat:Int)==(c.toNat:Int))=(d==c):=fA d c
  have e10:((d.toNat:Int)==10)=(d==10):=fA d 10
  have e12:((d.toNat:Int)==12)=(d==12):=fA d 12
  have e13:((d.toNat:Int)==13)=(d==13):=fA d 13
  have ih':=ih (k+1) g2 (by omega)
  conv at ih' in ap _ _=>whnf
  conv in ap _ _=>whnf
  rw[aq];cases q:(d==c)
  ·rw[q] at edc
   have hdc:d≠c:=by simpa using q
   cases q10:(d==10)
   ·rw[q10] at e10
    cases q12:(d==12)
    ·rw[q12] at e12
     cases q13:(d==13)
     ·rw[q13] at e13
      have he:Tk.ending d=false:=by unfold Tk.ending;rw[q10,q12,q13];rfl
      have hv:Tk.inner c (d::rest)=(Tk.inner c rest).map (· + 1):=by rw[Tk.inner,if_neg hdc,if_neg (by simp[he])]
      rw[hv];have fin:∀ {r:Option (Out×St)},Ends r (fun o S=>(∃ n,Tk.inner c rest=some n∧o=.ret∧S.sl 4=I (k+1+n:Nat))∨(Tk.inner c rest=none∧(o=.ret∧S.sl 4=I (-1)∨o=.exit 0∧S.nt=38)))→Ends r (fun o S=>(∃ n,(Tk.inner c rest).map (· + 1)=some n∧o=.ret∧S.sl 4=I (k+n:Nat))∨((Tk.inner c rest).map (· + 1)=none∧(o=.ret∧S.sl 4=I (-1)∨o=.exit 0∧S.nt=38))):=by
       rintro r ⟨o,S,e,h⟩
       refine⟨o,S,e,?_⟩
       rcases h with⟨n,h1,h2,h3⟩|⟨h1,h2⟩
       ·left;exact⟨n+1,by rw[h1];rfl,h2,by rw[h3,show k+1+n=k+(n+1) by omega]⟩
       ·right;exact⟨by rw[h1];rfl,h2⟩
      refine fin ?_
      simp only[go_sem,reduceLT,reduceCtorEq,reduceEqDiff,Nat.reduceBEq,reduceAdd,aE am,bd am,hlt,g1,hi,edc,e10,e12,e13,Int.natCast_nonneg,Int.toNat_natCast,aX k (by omega)]
      rw[au];simp only[go_sem,reduceCtorEq,reduceEqDiff];exact ih'
     ·rw[q13] at e13
      have he:Tk.ending d=true:=by unfold Tk.ending;rw[q13,Bool.or_true]
      have hv:Tk.inner c (d::rest)=none:=by rw[Tk.inner,if_neg hdc,if_pos he]
      simp only[go_sem,reduceLT,reduceCtorEq,reduceEqDiff,Nat.reduceBEq,reduceAdd,aE am,bd am,aw,hlt,g1,hi,edc,e10,e12,e13,Int.natCast_nonneg,Int.toNat_natCast,hv]
    ·rw[q12] at e12
     have he:Tk.ending d=true:=by unfold Tk.ending;rw[q12,Bool.or_true,Bool.true_or]
     have hv:Tk.inner c (d::rest)=none:=by rw[Tk.inner,if_neg hdc,if_pos he]
     simp only[go_sem,reduceLT,reduceCtorEq,reduceEqDiff,Nat.reduceBEq,reduceAdd,aE am,bd am,aw,hlt,g1,hi,edc,e10,e12,Int.natCast_nonneg,Int.toNat_natCast,hv]
   ·rw[q10] at e10
    have he:Tk.ending d=true:=by unfold Tk.ending;rw[q10,Bool.true_or,Bool.true_or]
    have hv:Tk.inner c (d::rest)=none:=by rw[Tk.inner,if_neg hdc,if_pos he]
    simp only[go_sem,reduceLT,reduceCtorEq,reduceEqDiff,Nat.reduceBEq,reduceAdd,aE am,bd am,aw,hlt,g1,hi,edc,e10,Int.natCast_nonneg,Int.toNat_natCast,hv]
  ·rw[q] at edc
   have hv:Tk.inner c (d::rest)=some 0:=by rw[Tk.inner,if_pos (by simpa using q)]
   simp only[go_sem,reduceLT,reduceCtorEq,reduceEqDiff,Nat.reduceBEq,reduceAdd,aE am,bd am,aw,hlt,g1,hi,edc,Int.natCast_nonneg,Int.toNat_natCast,hv];simp
theorem GJ (s:List UInt8)(i:Nat)(c:UInt8)(r:List UInt8)(hs:s.length<4000000000)(hd:s.drop i=c::r):den K 117 [T s,I i] []=some (.ret (I (FS i c r)) []):=by
 obtain⟨g1,g2,g3⟩:=bH hd;refine ai rfl rfl Tryz.func117 rfl Tryz.ntmps117 ⟨by simp,by simp[LK]⟩ ?_
 have hr:Tryz.f117.results=#[.tmp 4]:=rfl
 have hl:=Ry s hs i c g1 r (i+1) g2 (by omega)
 conv at hl in ap _ _=>whnf
 obtain⟨o,S',w,h⟩:=hl;simp only[go_sem,reduceLT,reduceEqDiff,Nat.reduceBEq,reduceAdd,aX i (by omega)]
 rw[au];simp only[go_sem,reduceCtorEq,reduceEqDiff];erw [w];unfold FS;rcases h with⟨n,h1,rfl,h2⟩|⟨h1,⟨rfl,h2⟩|⟨rfl,h2⟩⟩
 ·rw[h1];simp only[go_sem,hr,h2]
 ·rw[h1];simp only[go_sem,hr,h2]
 ·rw[h1];simp only[go_sem,reduceLT,Nat.reduceBEq,hr,h2]
abbrev nmH (s:List UInt8)(i:Nat)(n:Int)(k:Nat):St := { sl:=upd (upd (upd (upd (upd bot 7 (I k)) 6 (I n)) 4 (.c (.loc 4 0))) 1 (I i)) 0 (T s),bx:=upd nobox 4 (some [.pv (.int .i64 0),.pv (.str []),.pv (.int .i64 0)]),nt:=63 }
theorem RD (s:List UInt8)(hs:s.length<4000000000)(i:Nat):∀ (rest:List UInt8) (k:Nat) (n:Int),s.drop k=rest→k≤s.length→0≤n→n≤999999999 →
  Ends (exL K 120 (.loop (ap Tryz.f120 4)) (nmH s i n k)) fun o S=>o=.exit 0∧S.nt=63∧S.sl 0=T s∧S.sl 1=I i∧S.sl 4=.c (.loc 4 0)∧S.sl 6=I (Tk.num n rest)∧S.sl 7=I (k+Tk.run Tk.digit rest:Nat)∧S.bx=upd nobox 4 (some [.pv (.int .i64 0),.pv (.str []),.pv (.int .i64 0)]):=by
 intro rest
 induction rest with
 | nil =>
  intro k n hd hk h0 h1;have d1:=je s k hs
  rw[hd] at d1
  have v0:atC [] = -1:=rfl
  rw[v0] at d1
  have e0:((-1:Int)==2)=false:=by decide
  conv in ap _ _=>whnf
  rw[aq];simp only[go_sem,reduceLT,reduceCtorEq,reduceEqDiff,Nat.reduceBEq,reduceAdd,aw,d1,e0,Tk.vv,Tk.num]
 | cons c rest ih =>
  intro k n hd hk h0 h1;obtain⟨g1,g2,g3⟩:=bH hd;have d1:=je s k hs
  rw[hd] at d1
  have v0:atC (c::rest)=fY c:=rfl
  rw[v0] at d1
  obtain⟨_,f,_,_,_⟩:=kT c
  conv in ap _ _=>whnf
  rw[aq];cases b:(fY c==2)
  ·rw[b] at f
   have hv:Tk.run Tk.digit (c::rest)=0:=by rw[Tk.run,←f];rfl
   have hv2:Tk.num n (c::rest)=n:=by rw[Tk.num,←f];rfl
   simp only[go_sem,reduceLT,reduceCtorEq,reduceEqDiff,Nat.reduceBEq,reduceAdd,aw,d1,b,hv,hv2]
  ·rw[b] at f
   have hc:=f.symm
   have hcn:48≤c.toNat∧c.toNat≤57:=by simpa[Tk.digit] using hc
   have hv:k+1+Tk.run Tk.digit rest=k+Tk.run Tk.digit (c::rest):=by rw[Tk.run,if_pos hc];omega
   have hv2:Tk.num n (c::rest)=Tk.num (min (10*n+((c.toNat:Int) - 48)) 999999999) rest:=by rw[Tk.num,if_pos hc]
   have w1:IntKind.i64.wrap (10*n)=10*n:=IntWalk.i64_in _ (by omega)
   have w3:IntKind.i64.wrap (c.toNat:Int)=(c.toNat:Int):=IntWalk.i64_in _ (by omega)
   have w4:IntKind.i64.wrap (10*n+(c.toNat:Int))=10*n+(c.toNat:Int):=IntWalk.i64_in _ (by omega)
   have w5:IntKind.i64.wrap (10*n+(c.toNat:Int) - 48)=10*n+((c.toNat:Int) - 48):=by rw[IntWalk.i64_in _ (by omega)];omega
   have ih':=ih (k+1) (min (10*n+((c.toNat:Int) - 48)) 999999999) g2 (by omega) (by omega) (by omega)
   rw[hv,←hv2] at ih'
   conv at ih' in ap _ _=>whnf
   simp only[go_sem,reduceLT,reduceCtorEq,reduceEqDiff,Nat.reduceBEq,reduceAdd,bd am,dS eE cU,d1,b,g1,Int.natCast_nonneg,Int.toNat_natCast,w1,w3,w4,w5,xZ,mD,List.foldl_cons,List.foldl_nil,Ja,aX k (by omega)]
   rw[au];simp only[go_sem,reduceCtorEq,reduceEqDiff];exact ih'
abbrev eZ (t:Tok)(i:Nat):AV:=.tup [.agg t.cells,.c (.pv (.int .i64 (i:Nat)))]
theorem uI (s:List UInt8)(i:Nat)(c:UInt8)(r:List UInt8)(neg:Bool)(l:List UInt8)(hs:s.length<4000000000)(hd:s.drop i=c::r)(hneg:(c==45)=neg)(hl:l=if neg then r else c::r) :
  den K 120 [T s,I i] []=some (.ret (eZ (Tk.number neg l).1 (i+(if neg then 1 else 0)+(Tk.number neg l).2)) []):=by
 obtain⟨g1,g2,g3⟩:=bH hd;have e45:((c.toNat:Int)==45)=neg:=(fA c 45).trans hneg
 obtain⟨j,hj⟩:∃ j,j=i+(if neg then 1 else 0):=⟨_,rfl⟩
 have hdj:s.drop j=l:=by cases neg<;>simp only[Bool.false_eq_true,if_true,if_false,Nat.add_zero] at hj hl<;>subst hj<;>subst hl<;>assumption
 have hjl:j≤s.length:=by cases neg<;>simp only[Bool.false_eq_true,if_true,if_false] at hj<;>omega
 have hll:l.length=s.length - j:=by rw[←hdj,List.length_drop]
 have hrl:=Tk.run_le (p:=Tk.digit) l
 have hnum:=Tk.pS (l:=l) (n:=0) (by omega) (by omega)
 have hlp:=RD s hs i l j 0 hdj hjl (by omega) (by omega)
 conv at hlp in ap _ _=>whnf
 obtain⟨o,S',w,rfl,fn,f0,f1,f4,f6,f7,fb⟩:=hlp;unfold Tk.number;rw[←hj];generalize hk:Tk.run Tk.digit l=k at hrl f7;simp only;have hde:s.drop (j+k)=l.drop k:=by rw[←List.drop_drop,hdj]
 have dB:=qU s (j+k) hs (by omega)
 have dN:=tM s (j+k) hs (by omega)
 rw[hde] at dB dN
 have hul:=Tk.Bu (l.drop k)
 rw[List.length_drop] at hul;have w3:IntKind.i64.wrap (0 - Tk.num 0 l) = -Tk.num 0 l:=by rw[IntWalk.i64_in _ (by omega)];omega
 have w1:=aX (j+k) (by omega)
 have wi:=aX i (by omega)
 have hunit:(decide (((j+k:Nat):Int)<(s.length:Int))=true∧(∃ d,s[j+k]? = some d∧((d.toNat:Int)==37)=true)∧Tk.unit (l.drop k)=1)∨((decide (((j+k:Nat):Int)<(s.length:Int))=false∨decide (((j+k:Nat):Int)<(s.length:Int))=true∧∃ d,s[j+k]? = some d∧((d.toNat:Int)==37)=false)∧Tk.unit (l.drop k)=if Tk.eS (l.drop k) then Tk.run Tk.within (l.drop k) else 0):=by
  unfold Tk.unit Tk.name;by_cases hlt:j+k<s.length
  ·have hdd:=List.drop_eq_getElem_cons hlt
   rw[hde] at hdd;have hg:s[j+k]? = some (s[j+k]'hlt):=List.getElem?_eq_getElem hlt
   have h0:Tk.at0 (l.drop k)=s[j+k]'hlt:=by rw[hdd];rfl
   rw[h0];generalize s[j+k]'hlt=d at hg;by_cases h37:d=37
   ·left;exact⟨decide_eq_true (by omega),⟨d,hg,by rw[h37];rfl⟩,by rw[if_pos h37]⟩
   ·right;exact⟨.inr ⟨decide_eq_true (by omega),d,hg,(fA d 37).trans (by simpa using h37)⟩,by rw[if_neg h37]⟩
  ·have hnil:l.drop k=[]:=List.drop_eq_nil_of_le (by omega)
   rw[hnil]
   right;exact⟨.inl (decide_eq_false (by omega)),rfl⟩
 generalize Tk.unit (l.drop k)=u at hul hunit;have hsub:(s.take (j+k+u)).drop (j+k)=(l.drop k).take u:=by rw[List.drop_take,hde];congr 1;omega
 have b1:(((j+k+u:Nat):Int)≤(s.length:Int))=True:=eq_true (by omega)
 have b2:(((j+k:Nat):Int)≤((j+k+u:Nat):Int))=True:=eq_true (by omega)
 rw[←Nat.add_assoc];have z01:((0:Int)=1)=False:=by simp
 have hr:Tryz.f120.results=#[.cell 4 91,.tmp 5]:=rfl
 refine ai rfl rfl Tryz.func120 rfl Tryz.ntmps120 ⟨by simp,by simp[LK]⟩ ?_
 cases neg
 ·simp only[Bool.false_eq_true,if_false,Nat.add_zero] at hj ⊢;subst hj;simp only[go_sem,reduceLT,reduceCtorEq,reduceEqDiff,Nat.reduceBEq,reduceAdd,reduceSub,reduceLeDiff,bd am,g1,Int.natCast_nonneg,Int.toNat_natCast,e45];rw[au];simp only[go_sem,reduceCtorEq,reduceEqDiff,reduceSub,reduceLeDiff];erw [w];rcases hunit with⟨u1,⟨d,u2,u3⟩,u4⟩|⟨u1,u4⟩
  ·rw[u4] at b1 b2 hsub ⊢
   simp only[go_sem,reduceLT,reduceCtorEq,reduceEqDiff,Nat.reduceBEq,reduceAdd,reduceLeDiff,bd am,aE am,ax am,aa ag al,hr,fn,f0,f1,f4,f6,f7,fb,g1,Int.natCast_nonneg,Int.toNat_natCast,e45,w1,w3,u1,u2,u3,b1,b2,hsub,Tok.cells,eZ]
  ·cases hnb:Tk.eS (l.drop k)
   ·rw[hnb] at u4 dB
    simp only[Bool.false_eq_true,if_false] at u4
    rw[u4] at b1 b2 hsub ⊢
    simp only[Nat.add_zero] at b1 b2 hsub ⊢
    rcases u1 with u1|⟨u1,d,u2,u3⟩
    ·simp only[go_sem,reduceLT,reduceCtorEq,reduceEqDiff,Nat.reduceBEq,reduceAdd,reduceLeDiff,bd am,aE am,ax am,aa ag al,hr,fn,f0,f1,f4,f6,f7,fb,g1,Int.natCast_nonneg,Int.toNat_natCast,e45,w1,w3,u1,dB,b1,b2,hsub,Tok.cells,eZ]
    ·simp only[go_sem,reduceLT,reduceCtorEq,reduceEqDiff,Nat.reduceBEq,reduceAdd,reduceLeDiff,bd am,aE am,ax am,aa ag al,hr,fn,f0,f1,f4,f6,f7,fb,g1,Int.natCast_nonneg,Int.toNat_natCast,e45,w1,w3,u1,u2,u3,dB,b1,b2,hsub,Tok.cells,eZ]
   ·rw[hnb] at u4 dB
    simp only[if_true] at u4
    rw[←u4] at dN
    rcases u1 with u1|⟨u1,d,u2,u3⟩
    ·simp only[go_sem,reduceLT,reduceCtorEq,reduceEqDiff,Nat.reduceBEq,reduceAdd,reduceLeDiff,bd am,aE am,ax am,aa ag al,hr,fn,f0,f1,f4,f6,f7,fb,g1,Int.natCast_nonneg,Int.toNat_natCast,e45,w1,w3,u1,dB,dN,b1,b2,hsub,Tok.cells,eZ]
    ·simp only[go_sem,reduceLT,reduceCtorEq,reduceEqDiff,Nat.reduceBEq,reduceAdd,reduceLeDiff,bd am,aE am,ax am,aa ag al,hr,fn,f0,f1,f4,f6,f7,fb,g1,Int.natCast_nonneg,Int.toNat_natCast,e45,w1,w3,u1,u2,u3,dB,dN,b1,b2,hsub,Tok.cells,eZ]
 ·simp only[if_true] at hj ⊢;subst hj;simp only[go_sem,reduceLT,reduceCtorEq,reduceEqDiff,Nat.reduceBEq,reduceAdd,reduceSub,reduceLeDiff,bd am,g1,Int.natCast_nonneg,Int.toNat_natCast,e45,wi];rw[au];simp only[go_sem,reduceCtorEq,reduceEqDiff,reduceSub,reduceLeDiff];erw [w];rcases hunit with⟨u1,⟨d,u2,u3⟩,u4⟩|⟨u1,u4⟩
  ·rw[u4] at b1 b2 hsub ⊢
   simp only[go_sem,reduceLT,reduceCtorEq,reduceEqDiff,Nat.reduceBEq,reduceAdd,reduceLeDiff,bd am,aE am,ax am,aa ag al,hr,fn,f0,f1,f4,f6,f7,fb,g1,Int.natCast_nonneg,Int.toNat_natCast,e45,w1,w3,u1,u2,u3,b1,b2,hsub,Tok.cells,eZ]
  ·cases hnb:Tk.eS (l.drop k)
   ·rw[hnb] at u4 dB
    simp only[Bool.false_eq_true,if_false] at u4
    rw[u4] at b1 b2 hsub ⊢
    simp only[Nat.add_zero] at b1 b2 hsub ⊢
    rcases u1 with u1|⟨u1,d,u2,u3⟩
    ·simp only[go_sem,reduceLT,reduceCtorEq,reduceEqDiff,Nat.reduceBEq,reduceAdd,reduceLeDiff,bd am,aE am,ax am,aa ag al,hr,fn,f0,f1,f4,f6,f7,fb,g1,Int.natCast_nonneg,Int.toNat_natCast,e45,w1,w3,u1,dB,b1,b2,hsub,Tok.cells,eZ]
    ·simp only[go_sem,reduceLT,reduceCtorEq,reduceEqDiff,Nat.reduceBEq,reduceAdd,reduceLeDiff,bd am,aE am,ax am,aa ag al,hr,fn,f0,f1,f4,f6,f7,fb,g1,Int.natCast_nonneg,Int.toNat_natCast,e45,w1,w3,u1,u2,u3,dB,b1,b2,hsub,Tok.cells,eZ]
   ·rw[hnb] at u4 dB
    simp only[if_true] at u4
    rw[←u4] at dN
    rcases u1 with u1|⟨u1,d,u2,u3⟩
    ·simp only[go_sem,reduceLT,reduceCtorEq,reduceEqDiff,Nat.reduceBEq,reduceAdd,reduceLeDiff,bd am,aE am,ax am,aa ag al,hr,fn,f0,f1,f4,f6,f7,fb,g1,Int.natCast_nonneg,Int.toNat_natCast,e45,w1,w3,u1,dB,dN,b1,b2,hsub,Tok.cells,eZ]
    ·simp only[go_sem,reduceLT,reduceCtorEq,reduceEqDiff,Nat.reduceBEq,reduceAdd,reduceLeDiff,bd am,aE am,ax am,aa ag al,hr,fn,f0,f1,f4,f6,f7,fb,g1,Int.natCast_nonneg,Int.toNat_natCast,e45,w1,w3,u1,u2,u3,dB,dN,b1,b2,hsub,Tok.cells,eZ]
end Go.Abs
