/-
  WHAT THE FUNCTIONS COMPUTE: the smallest; the builder of texts.
  (And 3 texts more.)
-/
import Derived.Test.YtcfklbkkdipjhaaGreatDoorSm4
set_option linter.unusedSimpArgs false
set_option linter.unusedVariables false
namespace Go.Abs
open Go Go.Proofs
abbrev I (n:Int):AV:=.c (.pv (.int .i64 n))
abbrev T (l:List UInt8):AV:=.c (.pv (.str l))
abbrev B (b:Bool):AV:=.c (.pv (.bool b))
abbrev L (l:List (List PV)):AV:=.c (.pv (.sl l))
abbrev P0:AV:=.c (.loc 100000 0)
theorem ak {f:FuncId} {fn:Func} {x:Code} {nt:Nat} {args:List AV} {bxs:List (List CV)} {r:Res} (hp:prF f=none) (hh:hpF f=none) (hf:Tryz.prog.funcs[f]? = some fn) (hx:fn.body=some x) (hn:fn.ntmps=nt)
  (hl:args.length≤nt∧nt<LK) (h:(exL K f x (aZ nt args bxs)).bind (fun r=>leave K f fn bxs.length (some r))=some r):den K f args bxs=some r:=by
 rw[rH (K:=K) hp hh hf hx,hn,if_pos hl];exact h
theorem fT (f:FuncId) (h:(
 f==132 ||
 f==121 ||
 f==1000000)=false):K.ownRet f=false:=h
theorem eG (f i:Nat):K.hook f i=fh f i:=rfl
theorem K_P:K.P=Tryz.prog:=rfl
theorem dX (f r:Nat):K.keep f r=kq f r:=rfl
theorem ff {f:FuncId} {F:Prim} {args:List AV} {bxs cs:List (List CV)} {v:AV} (h:prF f=some F) (hF:F args bxs=some (v,cs)):den K f args bxs=some (.ret v cs):=by
 rw[pi (K:=K) h,hF];rfl
set_option maxRecDepth 10000
theorem yX (n:Nat):lens n []=true:=rfl
end Go.Abs
namespace Go.Abs
open Go Go.Proofs
theorem bN (f:FuncId) (a:Code) (S:St):exL K f (.loop a) S=exL K f (.loop a) (head (kq f ((ax a).getD 0)) S):=by
 rw[aB,aB (S:=head _ S),dX,lR]
set_option maxRecDepth 10000
attribute [local go_sem] cG bA cj bF bH cF cf ce ay aV aR bw bU bg opd avOf cvOf St.degAt St.put okPV dr okAV cQ cR cP cv aj if_true Bool.false_eq_true if_false Option.map_some Option.map_none Option.bind_some Option.bind_none du dh upd List.toList_toArray bC steal aH mvB cX cw bR AV.deg CV.deg AV.gv AV.isIter co cg bG List.length_nil List.length_cons List.filterMap_cons List.filterMap_nil beq_iff_eq List.getElem?_cons_zero List.getElem?_cons_succ Option.getD_some eG fh Bool.false_and Bool.and_false Bool.and_self K_P fT bv bO aJ lend back idx dedup AV.ren CV.ren TV.ren AV.ptrs CV.ptrs ck AV.flat CV.flat bL bu az bV cz dK bD ar bK aQ bd bt aP dV CV.pv? content aN ownT aD reps pvs chunks aZ leave dT bW cN bf aK TV.deg TV.av LK CV.plain CV.noBld cq dS bound List.map_cons List.map_nil List.all_cons List.all_nil List.any_cons List.any_nil List.contains_cons List.contains_nil List.elem_cons List.elem_nil List.cons_append List.nil_append List.append_nil List.flatMap_cons List.flatMap_nil List.zip_cons_cons List.zip_nil_left List.zip_nil_right List.take_succ_cons List.take_zero List.take_nil List.drop_succ_cons List.drop_zero List.drop_nil List.isEmpty_nil List.isEmpty_cons Bool.and_true Bool.true_and Bool.or_true Bool.true_or Bool.or_false Bool.false_or Bool.not_true Bool.not_false Nat.add_zero Nat.zero_add Option.isNone_none Option.isNone_some Option.getD_none true_and and_true not_true_eq_false not_false_eq_true decide_true decide_false Nat.le_refl and_self Bool.not_eq_true Nat.sub_self or_true true_or Option.some.injEq List.length_map List.nil_eq and_false false_and AV.live CV.live CV.liveIn dX ax Option.orElse_some Option.orElse_none head aI aF Int.lt_irrefl List.length_append ite_self dt br bZ aY Key.clash Key.sees Key.writes Nat.lt_irrefl gt_iff_lt ci dp false_or or_false beq_self_eq_true Bool.true_beq Bool.false_beq
theorem fN (n:Nat) (h:n<9223372036854775807):IntKind.i64.wrap ((n:Int)+1)=((n+1:Nat):Int):=by
 rw[IntWalk.i64_in _ (by omega)];rfl
theorem ij {α:Type} {l rest:List α} {x:α} {i:Nat} (h:l.drop i=x::rest):l[i]? = some x∧l.drop (i+1)=rest∧i<l.length:=by
 have h1:l[i]? = some x:=by
  have:(l.drop i)[0]? = some x:=by rw[h];rfl
  simpa using this
 refine⟨h1,?_,(List.getElem?_eq_some_iff.1 h1).1⟩
 have:(l.drop i).tail=rest:=by rw[h];rfl
 rw[←this,List.tail_drop]
end Go.Abs
namespace Go.Abs
open Go Go.Proofs
set_option maxRecDepth 10000
attribute [local go_sem] cG bA cj bF bH cF cf ce ay aV aR bw bU bg opd avOf cvOf St.degAt St.put okPV dr okAV cQ cR cP cv aj if_true Bool.false_eq_true if_false Option.map_some Option.map_none Option.bind_some Option.bind_none du dh upd List.toList_toArray bC steal aH mvB cX cw bR AV.deg CV.deg AV.gv AV.isIter co cg bG List.length_nil List.length_cons List.filterMap_cons List.filterMap_nil beq_iff_eq List.getElem?_cons_zero List.getElem?_cons_succ Option.getD_some eG fh Bool.false_and Bool.and_false Bool.and_self K_P fT bv bO aJ lend back idx dedup AV.ren CV.ren TV.ren AV.ptrs CV.ptrs ck AV.flat CV.flat bL bu az bV cz dK bD ar bK aQ bd bt aP dV CV.pv? content aN ownT aD reps pvs chunks aZ leave dT bW cN bf aK TV.deg TV.av LK CV.plain CV.noBld cq dS bound List.map_cons List.map_nil List.all_cons List.all_nil List.any_cons List.any_nil List.contains_cons List.contains_nil List.elem_cons List.elem_nil List.cons_append List.nil_append List.append_nil List.flatMap_cons List.flatMap_nil List.zip_cons_cons List.zip_nil_left List.zip_nil_right List.take_succ_cons List.take_zero List.take_nil List.drop_succ_cons List.drop_zero List.drop_nil List.isEmpty_nil List.isEmpty_cons Bool.and_true Bool.true_and Bool.or_true Bool.true_or Bool.or_false Bool.false_or Bool.not_true Bool.not_false Nat.add_zero Nat.zero_add Option.isNone_none Option.isNone_some Option.getD_none true_and and_true not_true_eq_false not_false_eq_true decide_true decide_false Nat.le_refl and_self Bool.not_eq_true Nat.sub_self or_true true_or Option.some.injEq List.length_map List.nil_eq and_false false_and AV.live CV.live CV.liveIn dX ax Option.orElse_some Option.orElse_none head aI aF Int.lt_irrefl List.length_append ite_self dt br bZ aY Key.clash Key.sees Key.writes Nat.lt_irrefl gt_iff_lt ci dp false_or or_false beq_self_eq_true Bool.true_beq Bool.false_beq
theorem zF {n:Int} (h:I64 n):(Lib.itoa n).length≤21:=Lib.itoa_length_le n h.1 h.2
end Go.Abs
namespace Go.Abs.Tk
open Go
inductive Good:Tok→Prop
 | ident (x:List UInt8):cW x→Good ⟨1,x,0⟩
 | func (x:List UInt8):cW x→Good ⟨2,x,0⟩
 | word (x:List UInt8):cW x→Good ⟨3,x,0⟩
 | hash (x:List UInt8):x≠[]→(∀ b∈x,within b=true)→Good ⟨4,x,0⟩
 | num (x:List UInt8) (n:Int) : -999999999≤n→n≤999999999→(x=[]∨x=[37]∨cW x)→Good ⟨5,x,n⟩
 | str (x:List UInt8) (q:UInt8):q=34∨q=39→(∀ b∈x,b≠q∧ending b=false)→Good ⟨6,x,q.toNat⟩
 | delim (c:UInt8):begins c=false→digit c=false→blank c=false→Good ⟨7,[c],0⟩
 | white:Good ⟨8,[10],0⟩
theorem vH (l:List UInt8):unit l≤l.length:=by
 unfold unit;split
 ·rename_i h;cases l with
  | nil=>exact absurd h (by decide)
  | cons c r=>simp
 ·exact kc l
theorem pU (neg:Bool) (l:List UInt8):(number neg l).2≤l.length:=by
 unfold number;have h1:=run_le (p:=digit) l
 have h2:=vH (l.drop (run digit l))
 simp only[List.length_drop] at h2;simp only;omega
theorem ur (neg:Bool) (l:List UInt8) (h:digit (at0 l)=true):1≤(number neg l).2:=by
 unfold number;have:=(jl (y:=l) nI).2 h
 simp only;omega
theorem jz (c:UInt8) (r:List UInt8):1≤(step c r).2:=by
 unfold step;split
 ·have:=sW r.tail;simp only;omega
 split
 ·rename_i h;exact Bn h
 split
 ·rename_i h;obtain⟨n,hn⟩:=Option.isSome_iff_exists.1 h.2;simp only;omega
 split
 ·simp only;omega
 split
 ·simp only;omega
 split
 ·rename_i h;exact ur false (c::r) h
 split
 ·simp only;omega
 split
 ·split<;>simp only<;>omega
 ·exact Nat.le_refl _
theorem uU {r:List UInt8}:comment r≤r.length+2:=by
 unfold comment;split
 ·rename_i n h;have:=nw h;omega
 ·omega
theorem vR (c:UInt8) (r:List UInt8):(step c r).2≤(c::r).length:=by
 unfold step;split
 ·rename_i h;have:=uU (r:=r.tail)
  cases r with
  | nil=>exact absurd h.2 (by decide)
  | cons d r=>simp only[List.tail_cons,List.length_cons] at *;omega
 split
 ·exact run_le _
 split
 ·rename_i h;obtain⟨n,hn⟩:=Option.isSome_iff_exists.1 h.2;have:=oG hn
  rw[hn];simp;omega
 split
 ·have:=run_le (p:=within) r;simp;omega
 split
 ·have:=kc r;simp;omega
 split
 ·exact pU false _
 split
 ·have:=pU true r;simp;omega
 split
 ·rename_i h;split
  ·rename_i h40;have h1:=kc (c::r)
   have:name (c::r)≠(c::r).length:=fun e=>by
    rw[e,List.drop_length] at h40;exact absurd h40 (by decide)
   simp only;omega
  ·exact kc _
 ·simp
theorem Bb:∀ (k j:Nat) (l:List UInt8),l.length≤k→l.length≤j→allN k l=allN j l:=by
 intro k
 induction k with
 | zero =>
  intro j l h _;obtain rfl:l=[]:=List.length_eq_zero_iff.1 (by omega)
  cases j<;>rfl
 | succ k ih =>
  intro j l hk hj;cases l with
  | nil=>cases j<;>rfl
  | cons c r =>
   cases j with
   | zero=>simp at hj
   | succ j =>
    have hp:=jz c r
    have hd:((c::r).drop (step c r).2).length≤r.length:=by rw[List.length_drop];simp;omega
    simp only[List.length_cons] at hk hj;rw[allN,allN,ih j _ (by omega) (by omega)]
theorem all_nil:all []=[]:=rfl
theorem all_cons (c:UInt8) (r:List UInt8):all (c::r)=(step c r).1.toList++all ((c::r).drop (step c r).2):=by
 have hp:=jz c r
 have hd:((c::r).drop (step c r).2).length≤r.length:=by rw[List.length_drop];simp;omega
 rw[all,List.length_cons,allN];rw[Bb r.length _ _ hd (Nat.le_refl _),←all]
theorem wc {Q:List UInt8→Prop} (h0:Q []) (h1:∀ c r,Q ((c::r).drop (step c r).2)→Q (c::r)):∀ l,Q l:=by
 have:∀ (k:Nat) (l:List UInt8),l.length≤k→Q l:=by
  intro k
  induction k with
  | zero=>intro l h;obtain rfl:l=[]:=List.length_eq_zero_iff.1 (by omega);exact h0
  | succ k ih =>
   intro l h;cases l with
   | nil=>exact h0
   | cons c r =>
    have hp:=jz c r
    exact h1 c r (ih _ (by rw[List.length_drop];simp at *;omega))
 exact fun l=>this l.length l (Nat.le_refl _)
theorem gz (c:UInt8) (r:List UInt8):at0 (c::r)=c:=rfl
def sep (t:Tok) (y:List UInt8):Prop :=
 (t.kind=1→within (at0 y)=false∧at0 y≠40) ∧
 (t.kind=3∨t.kind=4→within (at0 y)=false) ∧
 (t.kind=5→(t.text=[]→digit (at0 y)=false∧at0 y≠37∧dJ y=false)∧(cW t.text→within (at0 y)=false)) ∧
 (t.kind=8→blank (at0 y)=false) ∧
 (t.kind=7→(t.text=[47]→at0 y≠42)∧(t.text=[35]→within (at0 y)=false)∧(t.text=[64]→dJ y=false)∧(t.text=[45]→digit (at0 y)=false∧dJ (45::y)=false))
theorem kC {c:UInt8} {y:List UInt8} (h:at0 y=c) (hc:within c=false):dJ y=false:=by
 cases hn:dJ y
 ·rfl
 ·have:=fZ hn;rw[h,hc] at this;cases this
theorem nH {y:List UInt8} (h:begins (at0 y)=false) (h2:at0 y≠45):dJ (45::y)=false:=by
 have e:dJ (45::y)=(begins 45||((45:UInt8)==45&&(begins (at0 y)||at0 y==45))):=rfl
 rw[e,h,beq_eq_false_iff_ne.2 h2];decide
theorem zD {y:List UInt8} {c:UInt8} (h:at0 y=c) (t:Tok) (h1:within c=false) (h2:blank c=false) (h3:c≠40) (h4:c≠37) (h5:c≠42):sep t y:=by
 have hb:begins c=false:=by simp only[within,Bool.or_eq_false_iff] at h1;exact h1.1.1
 have hd:digit c=false:=by simp only[within,Bool.or_eq_false_iff] at h1;exact h1.1.2
 have h45:c≠45:=fun e=>by rw[e] at h1;revert h1;decide
 have hn:=kC h h1
 unfold sep;rw[h];exact⟨fun _=>⟨h1,h3⟩,fun _=>h1,fun _=>⟨fun _=>⟨hd,h4,hn⟩,fun _=>h1⟩,fun _=>h2,fun _=>⟨fun _=>h5,fun _=>h1,fun _=>hn,fun _=>⟨hd,nH (by rw[h];exact hb) (by rw[h];exact h45)⟩⟩⟩
theorem gG {c:UInt8} {r:List UInt8} (h:dJ (c::r)=true):begins c=true∨c=45∧(begins (at0 r)=true∨at0 r=45):=by
 simpa[dJ,at0] using h
theorem qg {c:UInt8} {r:List UInt8} (h:dJ (c::r)=true):step c r =
  if at0 ((c::r).drop (name (c::r)))=40 then(some ⟨2,(c::r).take (name (c::r)),0⟩,name (c::r)+1)
  else(some ⟨1,(c::r).take (name (c::r)),0⟩,name (c::r)):=by
 have hw:within c=true:=fZ h
 have hne:∀ d,within d=false→c≠d:=fun d hd=>pR hw hd
 have hdig:digit c=false:=by
  rcases gG h with hb|⟨rfl,_⟩
  ·exact iW hb
  ·decide
 have h45:¬ (c=45∧digit (at0 r)=true):=by
  rintro ⟨rfl,hd⟩
  rcases gG h with hb|⟨_,hb|hb⟩
  ·exact absurd hb (by decide)
  ·rw[iW hb] at hd;cases hd
  ·rw[hb] at hd;revert hd;decide
 unfold step;rw[if_neg (fun e=>hne 47 (by decide) e.1),if_neg (by simp[lr hw]),if_neg (fun e=>by
  rcases e.1 with e|e
  ·exact hne 34 (by decide) e
  ·exact hne 39 (by decide) e),if_neg (fun e=>hne 35 (by decide) e.1),if_neg (fun e=>hne 64 (by decide) e.1),if_neg (by simp[hdig]),if_neg h45,if_pos (iO.2 h)]
theorem mA {c:UInt8} {r:List UInt8} (h:digit c=true):step c r=(some (number false (c::r)).1,(number false (c::r)).2):=by
 have hne:∀ d,digit d=false→c≠d:=fun d hd=>sG h hd
 unfold step;rw[if_neg (fun e=>hne 47 (by decide) e.1),if_neg (by simp[tM h]),if_neg (fun e=>by
  rcases e.1 with e|e
  ·exact hne 34 (by decide) e
  ·exact hne 39 (by decide) e),if_neg (fun e=>hne 35 (by decide) e.1),if_neg (fun e=>hne 64 (by decide) e.1),if_pos h]
theorem nV {r:List UInt8} (h:digit (at0 r)=true):step 45 r=(some (number true r).1,(number true r).2+1):=by
 unfold step;rw[if_neg (fun e=>absurd e.1 (by decide)),if_neg (by decide),if_neg (by simp),if_neg (by simp),if_neg (by simp),if_neg (by decide),if_pos ⟨rfl,h⟩]
theorem oL (neg:Bool) {u:Nat} (hu:u≤999999999) {z:List UInt8} (hz:digit (at0 z)=false):number neg (Lib.decDigits u++z)=(⟨5,z.take (unit z),if neg then -(u:Int) else u⟩,(Lib.decDigits u).length+unit z):=by
 have hd:=gk u u (Nat.le_refl _)
 unfold number;rw[lx hd hz,List.drop_left,ny hd,Cf u u (Nat.le_refl _) hu,rS hz]
theorem xS {y:List UInt8} (h1:at0 y≠37) (h2:dJ y=false):unit y=0:=by rw[unit,if_neg h1,qy h2]
theorem xk {x y:List UInt8} (h:cW x) (hy:within (at0 y)=false):unit (x++y)=x.length:=by
 have:at0 (x++y)≠37:=by
  rw[np (il h)];exact pR (fZ h.1) (by decide)
 rw[unit,if_neg this,lk h hy]
theorem ry {x:List UInt8} (h:dJ x=true):digit (at0 x)=false:=by
 cases x with
 | nil=>rfl
 | cons c r =>
  rcases gG h with hb|⟨rfl,_⟩
  ·exact iW hb
  ·rw[gz];decide
theorem tI {x y:List UInt8} {n:Int} (hx:x=[]∨x=[37]∨cW x) (hs:sep ⟨5,x,n⟩ y):digit (at0 (x++y))=false∧unit (x++y)=x.length:=by
 obtain⟨_,_,h5,_,_⟩:=hs;obtain⟨h6,h7⟩:=h5 rfl;rcases hx with rfl|rfl|hx
 ·obtain⟨a,b,c⟩:=h6 rfl;exact⟨a,xS b c⟩
 ·exact⟨by show digit 37=false;decide,rfl⟩
 ·exact⟨by rw[np (il hx)];exact ry hx.1,xk hx (h7 hx)⟩
theorem BE (x:List UInt8) (n:Int):oneS ⟨5,x,n⟩=Lib.itoa n++x:=rfl
theorem vJ {x y:List UInt8} {n:Int} (h1 : -999999999≤n) (h2:n≤999999999) (hd:digit (at0 (x++y))=false) (hu:unit (x++y)=x.length):all (Lib.itoa n++(x++y))=⟨5,x,n⟩::all y:=by
 by_cases hn:n<0
 ·have e:Lib.itoa n=45::Lib.decDigits n.natAbs:=by unfold Lib.itoa;rw[if_pos hn]
  have hh:digit (at0 (Lib.decDigits n.natAbs++(x++y)))=true:=by
   rw[np (oW _)];cases hl:Lib.decDigits n.natAbs with
   | nil=>exact absurd hl (oW _)
   | cons c r=>exact gk _ _ (Nat.le_refl _) c (by rw[hl];simp)
  rw[e,List.cons_append,all_cons,nV hh,oL true (by omega) hd,hu]
  simp only[Option.toList_some,List.drop_succ_cons,List.cons_append,List.nil_append,if_true];rw[←List.drop_drop,List.drop_left,List.drop_left,List.take_left];rw[show -((n.natAbs:Nat):Int)=n by omega]
 ·have e:Lib.itoa n=Lib.decDigits n.toNat:=by unfold Lib.itoa;rw[if_neg hn]
  rw[e];cases hl:Lib.decDigits n.toNat with
  | nil=>exact absurd hl (oW _)
  | cons c r =>
   have hc:digit c=true:=gk _ _ (Nat.le_refl _) c (by rw[hl];simp)
   rw[List.cons_append,all_cons,mA hc,←List.cons_append,←hl,oL false (by omega) hd,hu]
   simp only[Option.toList_some,List.cons_append,List.nil_append,Bool.false_eq_true,if_false];rw[←List.drop_drop,List.drop_left,List.drop_left,List.take_left];rw[show ((n.toNat:Nat):Int)=n by omega]
theorem yW (y:List UInt8):all (47::42::10::42::47::y)=all y:=by
 rw[all_cons];rfl
theorem wZ {q:UInt8} (h:q=34∨q=39) (y:List UInt8):all (q::47::42::10::42::47::y)=⟨7,[q],0⟩::all y:=by
 have hi:inner q (47::42::10::42::47::y)=none:=by rcases h with rfl|rfl<;>rfl
 have e:step q (47::42::10::42::47::y)=(some ⟨7,[q],0⟩,1):=by
  unfold step;rcases h with rfl|rfl<;>(rw[hi];rfl)
 rw[all_cons,e];simp only[Option.toList_some,List.drop_succ_cons,List.drop_zero,List.cons_append,List.nil_append,yW]
theorem uR {c:UInt8} {y:List UInt8} (h1:begins c=false) (h2:digit c=false) (h3:blank c=false) (h34:c≠34) (h39:c≠39) (hs:sep ⟨7,[c],0⟩ y):step c y=(some ⟨7,[c],0⟩,1):=by
 obtain⟨_,_,_,_,h7⟩:=hs;obtain⟨a,b,d,e⟩:=h7 rfl;unfold step;rw[if_neg (fun x=>a (by rw[x.1]) x.2),if_neg (by simp[h3]),if_neg (fun x=>by rcases x.1 with x|x<;>contradiction),
  if_neg (fun x=>by have:=(jl mE).1 x.2;rw[b (by rw[x.1])] at this;cases this),
  if_neg (fun x=>by have:=iO.1 x.2;rw[d (by rw[x.1])] at this;cases this),
  if_neg (by simp[h2]),if_neg (fun x=>by have:=(e (by rw[x.1])).1;rw[x.2] at this;cases this),if_neg]
 intro x;have hn:=iO.1 x
 rcases gG hn with hb|⟨rfl,_⟩
 ·rw[h1] at hb;cases hb
 ·rw[(e rfl).2] at hn;cases hn
theorem qn {c:UInt8} (h34:c≠34) (h39:c≠39):oneS ⟨7,[c],0⟩=[c]:=by simp[oneS,h34,h39]
theorem qU {t:Tok} {y:List UInt8} (h:Good t) (hs:sep t y):all (oneS t++y)=t::all y:=by
 cases h with
 | ident x hx =>
  have e1:oneS ⟨1,x,0⟩=x:=rfl
  obtain⟨hw,h40⟩:=hs.1 rfl;have hn:=lk hx hw
  have hb:=md (y:=y) hx.1
  rw[e1];cases x with
  | nil=>exact absurd rfl (il hx)
  | cons c r =>
   rw[List.cons_append] at hn hb ⊢;rw[all_cons,qg hb,hn,←List.cons_append,List.drop_left,List.take_left,if_neg h40];simp only[Option.toList_some,List.cons_append,List.nil_append];rw[←List.cons_append,List.drop_left]
 | func x hx =>
  have e1:oneS ⟨2,x,0⟩=x++[40]:=rfl
  have hn:=lk (y:=40::y) hx (by rw[gz];decide)
  have hb:=md (y:=40::y) hx.1
  rw[e1,List.append_assoc,List.cons_append,List.nil_append];cases x with
  | nil=>exact absurd rfl (il hx)
  | cons c r =>
   rw[List.cons_append] at hn hb ⊢;rw[all_cons,qg hb,hn,←List.cons_append,List.drop_left,List.take_left,if_pos (gz 40 y)];simp only[Option.toList_some,List.cons_append,List.nil_append];rw[←List.cons_append,←List.drop_drop,List.drop_left];rfl
 | word x hx =>
  have e1:oneS ⟨3,x,0⟩=64::x:=rfl
  have hw:=hs.2.1 (.inl rfl)
  have hn:=lk hx hw
  have e:step 64 (x++y)=(some ⟨3,x,0⟩,x.length+1):=by
   unfold step;rw[if_neg (fun e=>absurd e.1 (by decide)),if_neg (by decide),if_neg (by simp),if_neg (by simp),if_pos ⟨rfl,by rw[hn];exact uY hx⟩,hn,List.take_left]
  rw[e1,List.cons_append,all_cons,e];simp only[Option.toList_some,List.drop_succ_cons,List.drop_left,List.cons_append,List.nil_append]
 | hash x hne hx =>
  have e1:oneS ⟨4,x,0⟩=35::x:=rfl
  have hw:=hs.2.1 (.inr rfl)
  have hn:=lx hx hw
  have e:step 35 (x++y)=(some ⟨4,x,0⟩,x.length+1):=by
   unfold step;rw[if_neg (fun e=>absurd e.1 (by decide)),if_neg (by decide),if_neg (by simp),if_pos ⟨rfl,by rw[hn];exact List.length_pos_iff.2 hne⟩,hn,List.take_left]
  rw[e1,List.cons_append,all_cons,e];simp only[Option.toList_some,List.drop_succ_cons,List.drop_left,List.cons_append,List.nil_append]
 | num x n h1 h2 hx =>
  obtain⟨hd,hu⟩:=tI hx hs;rw[BE,List.append_assoc];exact vJ h1 h2 hd hu
 | str x q hq hx =>
  have e1:oneS ⟨6,x,q.toNat⟩=q::(x++[q]):=by rcases hq with rfl|rfl<;>rfl
  have hi:=pK (y:=y) hx
  have e:step q (x++q::y)=(some ⟨6,x,q.toNat⟩,x.length+2):=by
   unfold step;rw[if_neg (fun e=>by rcases hq with rfl|rfl<;>exact absurd e.1 (by decide)),if_neg (by rcases hq with rfl|rfl<;>decide),if_pos ⟨hq,by rw[hi];rfl⟩,hi]
   simp only[Option.getD_some,List.take_left]
  rw[e1,List.cons_append,List.append_assoc,List.cons_append,List.nil_append,all_cons,e];simp only[Option.toList_some,List.drop_succ_cons,List.cons_append,List.nil_append];rw[←List.drop_drop,List.drop_left];rfl
 | delim c h1 h2 h3 =>
  by_cases hq:c=34∨c=39
  ·have e1:oneS ⟨7,[c],0⟩=[c,47,42,10,42,47]:=by rcases hq with rfl|rfl<;>rfl
   rw[e1];exact wZ hq y
  ·rw[not_or] at hq;rw[qn hq.1 hq.2,List.cons_append,List.nil_append,all_cons,uR h1 h2 h3 hq.1 hq.2 hs];simp only[Option.toList_some,List.drop_succ_cons,List.drop_zero,List.cons_append,List.nil_append]
 | white =>
  have hw:=hs.2.2.2.1 rfl
  have e1:oneS ⟨8,[10],0⟩=[10]:=rfl
  have hr:run blank (10::y)=1:=by rw[run,if_pos (by decide),sg hw]
  have e:step 10 y=(some ⟨8,[10],0⟩,1):=by
   unfold step;rw[if_neg (fun e=>absurd e.1 (by decide)),if_pos (by decide),hr]
  rw[e1,List.cons_append,List.nil_append,all_cons,e];simp only[Option.toList_some,List.drop_succ_cons,List.drop_zero,List.cons_append,List.nil_append]
end Go.Abs.Tk
