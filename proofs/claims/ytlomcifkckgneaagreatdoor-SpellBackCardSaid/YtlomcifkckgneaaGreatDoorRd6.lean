/-
  TOKENS, in plain Lean: the texts of tokens are read as these (ToksBack, ToksTwo, ToksBlanks). No program stands here.
  (And 11 texts more.)
-/
import Derived.Test.YtlomcifkckgneaaGreatDoorRows
import Derived.ReadAgain
import Derived.ChangeBears
import Derived.RowKit
import Derived.OpenShut
import Derived.SizedLaws
import Derived.Deep.DeepHandedRow
import Derived.Lib.LaidTab
import Derived.Test.YtlomcifkckgneaaGreatDoorRd5
set_option maxRecDepth 100000
open Nat (reduceEqDiff reduceAdd reduceLT reduceLeDiff)
set_option linter.unusedSimpArgs false
set_option linter.unusedVariables false
namespace Go.Abs.Tk
open Go
theorem EV {w y:List UInt8}(hne:w≠[])(hw:∀ b∈w,blank b=true)(hy:blank (at0 y)=false):all (w++y)=⟨8,[10],0⟩::all y:=by
 cases w with
 | nil=>exact absurd rfl hne
 | cons c r =>
  have hr:=so hw hy
  have hc:=hw c (by simp)
  rw[List.cons_append] at hr ⊢;have e:step c (r++y)=(some ⟨8,[10],0⟩,(c::r).length):=by
   unfold step;rw[if_neg (fun e=>by rw[e.1] at hc;exact absurd hc (by decide)),if_pos hc,hr]
  rw[all_cons,e,←List.cons_append,List.drop_left];rfl
theorem Il (l:List UInt8):(all l).length≤l.length:=by
 refine rM (Q:=fun l=>(all l).length≤l.length) (Nat.le_refl _) (fun c r ih => ?_) l
 rw[all_cons,List.length_append];have h1:=mY c r
 have h2:=BT c r
 have h3:(step c r).1.toList.length≤1:=by cases (step c r).1<;>simp
 rw[List.length_drop] at ih;simp only[List.length_cons] at *
 omega
section both
variable {R R':List UInt8}
end both
end Go.Abs.Tk
namespace Go.Abs
open Go
theorem nj:∀ {l:List Val}{k:Int}{t:Tok}{l':List Val},Val.mk k t l'∈l→Ne.size l'<Ne.size l
 | v::l,k,t,l',h=>by
  rw[Ne.size];rcases List.mem_cons.1 h with rfl|h
  ·rw[Ne.ro];omega
  ·have:=nj h;omega
end Go.Abs
namespace Go.Abs
open Go Go.Proofs
attribute [local go_sem] dP bZ de cB cK dL dh du bo ck ce cE dr ci opd avOf cvOf St.degAt St.put okPV fE okAV eL eP eV dM aP if_true Bool.false_eq_true if_false Option.map_some Option.map_none Option.bind_some Option.bind_none fo fw upd List.toList_toArray cM steal bI mvB fj dK db AV.deg CV.deg AV.gv AV.isIter dG dw cJ List.length_nil List.length_cons List.filterMap_cons List.filterMap_nil beq_iff_eq List.getElem?_cons_zero List.getElem?_cons_succ Option.getD_some fM gJ Bool.false_and Bool.and_false Bool.and_self K_P iJ cI dc bL lend back idx dedup AV.ren CV.ren TV.ren AV.ptrs CV.ptrs dE AV.flat CV.flat cQ cz br dD dY gi cL bf cS bV cu cH bU gS CV.pv? content bT ownT bv reps pvs chunks co leave gj cZ eD cm bB TV.deg TV.av LK CV.plain CV.noBld dR gD bound List.map_cons List.map_nil List.all_cons List.all_nil List.any_cons List.any_nil List.contains_cons List.contains_nil List.elem_cons List.elem_nil List.cons_append List.nil_append List.append_nil List.flatMap_cons List.flatMap_nil List.zip_cons_cons List.zip_nil_left List.zip_nil_right List.take_succ_cons List.take_zero List.take_nil List.drop_succ_cons List.drop_zero List.drop_nil List.isEmpty_nil List.isEmpty_cons Bool.and_true Bool.true_and Bool.or_true Bool.true_or Bool.or_false Bool.false_or Bool.not_true Bool.not_false Nat.add_zero Nat.zero_add Option.isNone_none Option.isNone_some Option.getD_none true_and and_true not_true_eq_false not_false_eq_true decide_true decide_false Nat.le_refl and_self Bool.not_eq_true Nat.sub_self or_true true_or Option.some.injEq List.length_map List.nil_eq and_false false_and AV.live CV.live CV.liveIn gk bu Option.orElse_some Option.orElse_none head bJ bG Int.lt_irrefl List.length_append ite_self fx cF dC cf Key.clash Key.sees Key.writes Nat.lt_irrefl gt_iff_lt dt fB false_or or_false beq_self_eq_true Bool.true_beq Bool.false_beq
theorem qI (k k' n n':Int)(t t':List UInt8):eA Tryz.prog 91 [.int .i64 k,.str t,.int .i64 n] [.int .i64 k',.str t',.int .i64 n']=some ((k==k')&&((t==t')&&((n==n')&&true))):=by kernel_rfl
theorem rA (a b:Tok):((a.kind==b.kind)&&((a.text==b.text)&&((a.n==b.n)&&true)))=decide (a=b):=by
 obtain⟨k,t,n⟩:=a;obtain⟨k',t',n'⟩:=b;rw[Bool.eq_iff_iff,decide_eq_true_eq];simp[Tok.mk.injEq]
theorem gg (l:List Val):lens 5 (encL l)=true:=by
 rw[encL_map];simp only[lens,List.all_map,List.all_eq_true,Function.comp_apply,beq_iff_eq];intro v _;exact BA v
theorem jS (a b c d e:PV):lens 5 [[a,b,c,d,e]]=true:=rfl
theorem gR (l:List Val)(i:Nat)(k:Int)(t:Tok)(l':List Val)(h:l[i]? = some (.mk k t l')):(encL l)[(i:Int).toNat]? = some [.int .i64 k,.int .i64 t.kind,.str t.text,.int .i64 t.n,.sl (encL l')]:=wK l i _ h
end Go.Abs
namespace Go.Abs
open Go Go.Proofs
theorem z64:I64 0:=⟨by decide,by decide⟩
theorem e00:(([]:List UInt8)==[])=true:=rfl
theorem i00:((0:Int)==0)=true:=rfl
theorem mo (acc:List Sim):((acc.length:Int)==0)=acc.isEmpty:=by
 cases acc with
 | nil=>rfl
 | cons x l=>rw[List.length_cons,List.isEmpty_cons,beq_eq_false_iff_ne];omega
end Go.Abs
namespace Go.Abs.Sl
def cut (p:Val→Bool):List Val→List (List Val)
 | []=>[[]]
 | v::l=>if p v then []::cut p l else match cut p l with
  | []=>[[v]]
  | q::qs=>(v::q)::qs
theorem Bn (p:Val→Bool)(l:List Val):∃ q qs,cut p l=q::qs:=by
 cases l with
 | nil=>exact⟨_,_,rfl⟩
 | cons v l =>
  rw[cut];split
  ·exact⟨_,_,rfl⟩
  ·split
   ·exact⟨_,_,rfl⟩
   ·exact⟨_,_,rfl⟩
theorem vF {p:Val→Bool}{v:Val}(h:p v=true)(l:List Val):cut p (v::l)=[]::cut p l:=by rw[cut,if_pos h]
theorem xq {p:Val→Bool}{v:Val}(h:p v=false){l q:List Val}{qs:List (List Val)}(e:cut p l=q::qs):cut p (v::l)=(v::q)::qs:=by
 rw[cut,if_neg (by rw[h];simp),e]
def fulls (ss:List (List Val)):List (List Val):=ss.filter fun s => !s.isEmpty
theorem Aa (ss:List (List Val)):fulls ([]::ss)=fulls ss:=by simp[fulls]
theorem qY (v:Val)(q:List Val)(ss:List (List Val)):fulls ((v::q)::ss)=(v::q)::fulls ss:=by simp[fulls]
def words (l:List Val):List (List Val):=fulls (cut ar l)
theorem wh:∀ l:List Val,(fulls (cut ar l)).flatten=l.filter fun v => !ar v
 | []=>rfl
 | v::l=>by
  cases h:ar v with
  | true=>rw[vF h,Aa,wh l,List.filter_cons,if_neg (by rw[h];simp)]
  | false =>
   obtain⟨q,qs,e⟩:=Bn ar l;have ih:=wh l
   rw[xq h e,qY,List.filter_cons,if_pos (by rw[h];rfl),←ih,e]
   cases q with
   | nil=>rw[Aa];rfl
   | cons x q=>rw[qY];rfl
theorem Gw (l:List Val):(words l).flatten=l.filter fun v => !ar v:=wh l
theorem vk:∀ l:List Val, ∀ q∈cut ar l, ∀ v∈q,ar v=false
 | [],q,hq,v,hv=>by
  rw[cut,List.mem_singleton] at hq;subst hq;cases hv
 | x::l,q,hq,v,hv=>by
  cases h:ar x with
  | true =>
   rw[vF h] at hq;rcases List.mem_cons.1 hq with rfl|hq
   ·cases hv
   ·exact vk l q hq v hv
  | false =>
   obtain⟨r,rs,e⟩:=Bn ar l;rw[xq h e] at hq;rcases List.mem_cons.1 hq with rfl|hq
   ·rcases List.mem_cons.1 hv with rfl|hv
    ·exact h
    ·exact vk l r (by rw[e];simp) v hv
   ·exact vk l q (by rw[e];simp[hq]) v hv
theorem Js:∀ {l:List Val},(∀ v∈l,ar v=false)→cut ar l=[l]
 | [],_=>rfl
 | v::l,h=>xq (h v (by simp)) (Js fun x hx=>h x (by simp[hx]))
theorem JV {l w:List Val}(h:w∈words l):w≠[]∧words w=[w]:=by
 unfold words fulls at h;rw[List.mem_filter] at h;have hne:w≠[]:=by
  intro e;rw[e] at h;simp at h
 refine⟨hne,?_⟩
 unfold words;rw[Js (vk l w h.1)];cases w with
 | nil=>exact absurd rfl hne
 | cons v w=>rw[qY];rfl
theorem qT (p:Val→Bool):∀ l:List Val,(cut p l).length≤l.length+1
 | []=>Nat.le_refl _
 | v::l=>by
  have h:=qT p l
  obtain⟨q,qs,e⟩:=Bn p l;cases hv:p v with
  | true=>rw[vF hv,List.length_cons,List.length_cons];omega
  | false =>
   rw[xq hv e,List.length_cons,List.length_cons];rw[e,List.length_cons] at h;omega
theorem Bv (l:List Val):(words l).length≤l.length+1:=Nat.le_trans (List.length_filter_le _ _) (qT _ l)
theorem tX:∀ l:List Val, ∀ v r,l.dropWhile ar=v::r→ar v=false
 | [],v,r,h=>by cases h
 | x::l,v,r,h=>by
  rw[List.dropWhile_cons] at h;split at h
  ·exact tX l v r h
  ·rename_i hx;cases h
   simpa using hx
theorem LU {l r:List Val}{v:Val}(h:trim l=r++[v]):ar v=false:=by
 unfold trim at h;have h2:=congrArg List.reverse h
 rw[List.reverse_reverse,List.reverse_append,List.reverse_singleton,List.singleton_append] at h2;exact tX _ v _ h2
theorem CU (l:List Val):(trim l).length≤l.length:=by
 unfold trim;rw[List.length_reverse];have h1:=(List.dropWhile_sublist ar (l:=(l.dropWhile ar).reverse)).length_le
 have h2:=(List.dropWhile_sublist ar (l:=l)).length_le
 rw[List.length_reverse] at h1;omega
end Go.Abs.Sl
namespace Go.Abs
namespace Sl
open Tk (cT sep within digit begins at0 all)
inductive Gs:Sim→Prop
 | any:Gs (.mk 1 [] [] 0 0 [])
 | tag (n:List UInt8):cT n→low n=n→Gs (.mk 2 n [] 0 0 [])
 | id (n:List UInt8):n≠[]→(∀ b∈n,within b=true)→Gs (.mk 3 n [] 0 0 [])
 | cls (n:List UInt8):cT n→Gs (.mk 4 n [] 0 0 [])
 | has (n:List UInt8):cT n→Gs (.mk 5 n [] 0 0 [])
 | is (n v:List UInt8):cT n→(∀ b∈v,Tk.ending b=false)→(0≤Lib.indexByte v 34→∀ b∈v,b≠39)→Gs (.mk 6 n v 0 0 [])
 | state (n:List UInt8):jE n→Gs (.mk 7 n [] 0 0 [])
 | nth (a b:Int):few a→few b→Gs (.mk 8 [] [] a b [])
 | root:Gs (.mk 9 [] [] 0 0 [])
 | empty:Gs (.mk 10 [] [] 0 0 [])
 | not (x:Sim):Gs x→x.kind≠11→Gs (.mk 11 [] [] 0 0 [x])
def eI (y:List UInt8):Prop:=∀ t:Tok,t.kind≠8→sep t y
theorem fq {y:List UInt8}{c:UInt8}(h:at0 y=c)(h1:within c=false)(h2:Tk.blank c=false)(h3:c≠40)(h4:c≠37)(h5:c≠42):eI y:=fun t _=>Tk.EU h t h1 h2 h3 h4 h5
theorem FE:eI []:=fun t _=>Tk.Jd t
theorem BQ (y:List UInt8):eI (32::y):=fun t ht=>by
 unfold sep;have h:at0 (32::y)=32:=rfl
 rw[h];have hn:Tk.eS (32::y)=false:=Tk.oz (c:=32) rfl (by decide)
 have h1:begins (at0 (32::y))=false:=by rw[h];decide
 have h2:at0 (32::y)≠45:=by rw[h];decide
 exact⟨fun _=>⟨by decide,by decide⟩,fun _=>by decide,fun _=>⟨fun _=>⟨by decide,by decide,hn⟩,fun _=>by decide⟩,fun e=>absurd e ht,
  fun _=>⟨fun _=>by decide,fun _=>by decide,fun _=>hn,fun _=>⟨by decide,Tk.xp h1 h2⟩⟩⟩
theorem gZ {c:UInt8}(h1:c≠47)(h2:c≠35)(h3:c≠64)(h4:c≠45)(y:List UInt8):sep ⟨7,[c],0⟩ y:=by
 unfold sep;refine⟨fun e=>by simp at e,fun e=>by simp at e,fun e=>by simp at e,fun e=>by simp at e,fun _=>⟨fun e => ?_,fun e => ?_,fun e => ?_,fun e => ?_⟩⟩<;>simp at e
 ·exact absurd e h1
 ·exact absurd e h2
 ·exact absurd e h3
 ·exact absurd e h4
theorem Ro (x y:List UInt8):sep ⟨2,x,0⟩ y:=by
 unfold sep;exact⟨fun e=>by simp at e,fun e=>by simp at e,fun e=>by simp at e,fun e=>by simp at e,fun e=>by simp at e⟩
theorem Th (x y:List UInt8)(n:Int):sep ⟨6,x,n⟩ y:=by
 unfold sep;exact⟨fun e=>by simp at e,fun e=>by simp at e,fun e=>by simp at e,fun e=>by simp at e,fun e=>by simp at e⟩
theorem gU {c:UInt8}{y:List UInt8}(h:Tk.Good ⟨7,[c],0⟩)(h34:c≠34)(h39:c≠39)(hs:sep ⟨7,[c],0⟩ y):all (c::y)=⟨7,[c],0⟩::all y:=by
 have:=Tk.nQ h hs
 rw[Tk.zW h34 h39] at this
 exact this
theorem jN {n y:List UInt8}(h:cT n)(hy:eI y):all (n++y)=⟨1,n,0⟩::all y:=by
 have:=Tk.nQ (y:=y) (.ident n h) (hy _ (by simp))
 exact this
theorem Db {n y:List UInt8}(h:cT n):all (n++40::y)=⟨2,n,0⟩::all y:=by
 have:=Tk.nQ (y:=y) (.func n h) (Ro _ _)
 have e:oneS ⟨2,n,0⟩=n++[40]:=rfl
 rw[e,List.append_assoc] at this
 exact this
theorem gc {c:UInt8}(h1:begins c=false)(h2:digit c=false)(h3:Tk.blank c=false):Tk.Good ⟨7,[c],0⟩:=.delim c h1 h2 h3
theorem a42 (y:List UInt8):all (42::y)=⟨7,[42],0⟩::all y:=gU (gc (by decide) (by decide) (by decide)) (by decide) (by decide) (gZ (by decide) (by decide) (by decide) (by decide) y)
theorem a46 (y:List UInt8):all (46::y)=⟨7,[46],0⟩::all y:=gU (gc (by decide) (by decide) (by decide)) (by decide) (by decide) (gZ (by decide) (by decide) (by decide) (by decide) y)
theorem a58 (y:List UInt8):all (58::y)=⟨7,[58],0⟩::all y:=gU (gc (by decide) (by decide) (by decide)) (by decide) (by decide) (gZ (by decide) (by decide) (by decide) (by decide) y)
theorem a91 (y:List UInt8):all (91::y)=⟨7,[91],0⟩::all y:=gU (gc (by decide) (by decide) (by decide)) (by decide) (by decide) (gZ (by decide) (by decide) (by decide) (by decide) y)
theorem a93 (y:List UInt8):all (93::y)=⟨7,[93],0⟩::all y:=gU (gc (by decide) (by decide) (by decide)) (by decide) (by decide) (gZ (by decide) (by decide) (by decide) (by decide) y)
theorem a61 (y:List UInt8):all (61::y)=⟨7,[61],0⟩::all y:=gU (gc (by decide) (by decide) (by decide)) (by decide) (by decide) (gZ (by decide) (by decide) (by decide) (by decide) y)
theorem a41 (y:List UInt8):all (41::y)=⟨7,[41],0⟩::all y:=gU (gc (by decide) (by decide) (by decide)) (by decide) (by decide) (gZ (by decide) (by decide) (by decide) (by decide) y)
theorem a43 (y:List UInt8):all (43::y)=⟨7,[43],0⟩::all y:=gU (gc (by decide) (by decide) (by decide)) (by decide) (by decide) (gZ (by decide) (by decide) (by decide) (by decide) y)
theorem a44 (y:List UInt8):all (44::y)=⟨7,[44],0⟩::all y:=gU (gc (by decide) (by decide) (by decide)) (by decide) (by decide) (gZ (by decide) (by decide) (by decide) (by decide) y)
theorem a62 (y:List UInt8):all (62::y)=⟨7,[62],0⟩::all y:=gU (gc (by decide) (by decide) (by decide)) (by decide) (by decide) (gZ (by decide) (by decide) (by decide) (by decide) y)
theorem a126 (y:List UInt8):all (126::y)=⟨7,[126],0⟩::all y:=gU (gc (by decide) (by decide) (by decide)) (by decide) (by decide) (gZ (by decide) (by decide) (by decide) (by decide) y)
theorem a32 {y:List UInt8}(h:Tk.blank (at0 y)=false):all (32::y)=⟨8,[10],0⟩::all y:=Tk.EV (w:=[32]) (by simp) (by simp;decide) h
theorem n41 (y:List UInt8):eI (41::y):=fq (c:=41) rfl (by decide) (by decide) (by decide) (by decide) (by decide)
theorem n93 (y:List UInt8):eI (93::y):=fq (c:=93) rfl (by decide) (by decide) (by decide) (by decide) (by decide)
theorem n61 (y:List UInt8):eI (61::y):=fq (c:=61) rfl (by decide) (by decide) (by decide) (by decide) (by decide)
theorem n43 (y:List UInt8):eI (43::y):=fq (c:=43) rfl (by decide) (by decide) (by decide) (by decide) (by decide)
theorem n44 (y:List UInt8):eI (44::y):=fq (c:=44) rfl (by decide) (by decide) (by decide) (by decide) (by decide)
theorem n46 (y:List UInt8):eI (46::y):=fq (c:=46) rfl (by decide) (by decide) (by decide) (by decide) (by decide)
theorem n58 (y:List UInt8):eI (58::y):=fq (c:=58) rfl (by decide) (by decide) (by decide) (by decide) (by decide)
theorem n35 (y:List UInt8):eI (35::y):=fq (c:=35) rfl (by decide) (by decide) (by decide) (by decide) (by decide)
theorem n91 (y:List UInt8):eI (91::y):=fq (c:=91) rfl (by decide) (by decide) (by decide) (by decide) (by decide)
theorem n62 (y:List UInt8):eI (62::y):=fq (c:=62) rfl (by decide) (by decide) (by decide) (by decide) (by decide)
theorem n126 (y:List UInt8):eI (126::y):=fq (c:=126) rfl (by decide) (by decide) (by decide) (by decide) (by decide)
theorem qA:∀ u:Nat, ∀ b∈Lib.decDigits u,digit b=true:=by
 intro u
 induction u using Nat.strongRecOn with
 | _ u ih =>
  intro b hb;unfold Lib.decDigits at hb;split at hb
  ·rename_i h;obtain rfl:b=UInt8.ofNat (48+u):=by simpa using hb
   have key:∀ v:Fin 10,digit (UInt8.ofNat (48+v.1))=true:=by decide
   exact key ⟨u,h⟩
  ·rcases List.mem_append.1 hb with hb|hb
   ·exact ih (u / 10) (by omega) b hb
   ·obtain rfl:b=UInt8.ofNat (48+u % 10):=by simpa using hb
    have key:∀ v:Fin 10,digit (UInt8.ofNat (48+v.1))=true:=by decide
    exact key ⟨u % 10,Nat.mod_lt _ (by decide)⟩
theorem ou {b:UInt8}(h:digit b=true):within b=true:=by unfold Tk.within;rw[h];simp
theorem QL {b:Int}(h:b<0):cT (110::Lib.itoa b):=by
 have e:Lib.itoa b=45::Lib.decDigits b.natAbs:=by unfold Lib.itoa;rw[if_pos h]
 rw[e];refine⟨rfl,fun c hc => ?_⟩
 simp only[List.mem_cons] at hc;rcases hc with rfl|rfl|hc
 ·decide
 ·decide
 ·exact ou (qA _ c hc)
theorem NX : cT [110] := ⟨rfl, fun c hc => by
                                                      obtain rfl:c=110:=by simpa using hc
                                                      decide⟩
theorem pu {x y:List UInt8}{n:Int}(h:few n)(hx:x=[]∨cT x)(hy:eI y):all (Lib.itoa n++(x++y))=⟨5,x,n⟩::all y:=by
 have hg:Tk.Good ⟨5,x,n⟩:=.num x n (by unfold few at h;omega) (by unfold few at h;omega) (by rcases hx with h|h;exact .inl h;exact .inr (.inr h))
 have:=Tk.nQ (y:=y) hg (hy _ (by simp))
 rw[Tk.II,List.append_assoc] at this
 exact this
theorem jX (t:Tok):Ne.jv (tv t)=[t]:=by unfold tv;rw[Ne.jv,if_pos rfl]
theorem OD {a b:Int}(ha:few a)(hb:few b){y:List UInt8}(hy:eI y):all (nthS a b++y)=Ne.flat (nthV a b)++all y:=by
 unfold nthS nthV;by_cases h0:a=0
 ·subst h0;rw[if_pos rfl,if_pos (.inl rfl),if_pos rfl,List.nil_append];have:=pu (x:=[]) hb (.inl rfl) hy
  rw[List.nil_append] at this
  rw[this,Ne.flat,Ne.flat,jX];rfl
 ·rw[if_neg h0,if_neg h0];by_cases hn:b<0
  ·rw[if_pos (.inr hn),if_pos hn,Ne.flat,Ne.flat,jX];have:=pu (x:=110::Lib.itoa b) ha (.inr (QL hn)) hy
   rw[List.append_assoc,List.append_assoc];exact this
  ·rw[if_neg (fun h=>h.elim h0 hn),if_neg hn]
   by_cases hp:0<b
   ·rw[if_pos hp,if_pos hp,Ne.flat,Ne.flat,Ne.flat,Ne.flat,jX,jX];have h1:=pu (x:=[110]) ha (.inr NX) (n43 (Lib.itoa b++y))
    have h2:=pu (x:=[]) hb (.inl rfl) hy
    rw[List.nil_append] at h2;have e:Lib.itoa a++[110]++43::Lib.itoa b++y=Lib.itoa a++([110]++43::(Lib.itoa b++y)):=by simp
    rw[e,h1,a43,h2];unfold dv;rw[jX];rfl
   ·rw[if_neg hp,if_neg hp,Ne.flat,Ne.flat,jX,List.append_nil];have:=pu (x:=[110]) ha (.inr NX) hy
    rw[List.append_assoc];exact this
theorem dl:Ne.flat []=[]:=by rw[Ne.flat]
theorem bW (v:Val)(l:List Val):Ne.flat (v::l)=Ne.jv v++Ne.flat l:=by rw[Ne.flat]
theorem jA:∀ a b:List Val,Ne.flat (a++b)=Ne.flat a++Ne.flat b
 | [],b=>by rw[List.nil_append,dl,List.nil_append]
 | v::a,b=>by rw[List.cons_append,bW,bW,jA a b,List.append_assoc]
theorem jj (c:UInt8):Ne.jv (dv c)=[⟨7,[c],0⟩]:=jX _
theorem mA (s:List UInt8):Ne.jv (iv s)=[⟨1,s,0⟩]:=jX _
theorem FB (l:List Val):Ne.jv (.mk 3 Ne.tok0 l)=⟨7,[91],0⟩::(Ne.flat l++[⟨7,[93],0⟩]):=by
 rw[Ne.jv,if_neg (by decide),if_neg (by decide),if_pos (by decide)];rfl
theorem Fa (t:Tok)(l:List Val):Ne.jv (.mk 5 t l)=t::(Ne.flat l++[⟨7,[41],0⟩]):=by
 rw[Ne.jv,if_neg (by decide),if_pos rfl];rfl
theorem Oz:cT nthT:=⟨rfl,by decide⟩
theorem NV:cT notT:=⟨rfl,by decide⟩
theorem MQ:cT qt:=⟨rfl,by decide⟩
theorem GZ:cT mR:=⟨rfl,by decide⟩
theorem Ea:cT eH:=⟨rfl,by decide⟩
theorem HU:cT fJ:=⟨rfl,by decide⟩
theorem Gf {n:List UInt8}(h:jE n):cT n:=by
 rcases h with rfl|rfl|rfl|rfl<;>exact⟨rfl,by decide⟩
theorem qM:∀ {v:List UInt8}{c:UInt8}, ¬ 0≤Lib.indexByte v c→∀ b∈v,b≠c
 | [],_,_,b,hb=>by cases hb
 | a::v,c,h,b,hb=>by
  unfold Lib.indexByte at h;cases hac:(a==c)
  ·rw[hac] at h;have h':¬ 0≤Lib.indexByte v c:=fun h0=>h (by simp;split<;>omega)
   rcases List.mem_cons.1 hb with rfl|hb
   ·exact beq_eq_false_iff_ne.1 hac
   ·exact qM h' b hb
  ·rw[hac] at h;exact absurd (by simp) h
theorem Rm {v:List UInt8}(h1:∀ b∈v,Tk.ending b=false)(h2:0≤Lib.indexByte v 34→∀ b∈v,b≠39):Tk.Good ⟨6,v,lB v⟩∧oneS ⟨6,v,lB v⟩=ma v:=by
 unfold lB ma;by_cases h:0≤Lib.indexByte v 34
 ·rw[if_pos h,if_pos h];exact⟨.str v 39 (.inr rfl) fun b hb=>⟨h2 h b hb,h1 b hb⟩,rfl⟩
 ·rw[if_neg h,if_neg h];exact⟨.str v 34 (.inl rfl) fun b hb=>⟨qM h b hb,h1 b hb⟩,rfl⟩
theorem KR {v y:List UInt8}(h1:∀ b∈v,Tk.ending b=false)(h2:0≤Lib.indexByte v 34→∀ b∈v,b≠39):all (ma v++y)=⟨6,v,lB v⟩::all y:=by
 obtain⟨hg,ho⟩:=Rm h1 h2;rw[←ho];exact Tk.nQ hg (Th _ _ _)
theorem Dg {x:Sim}(h:Gs x):∀ {y:List UInt8},eI y→all (simS x++y)=Ne.flat (simV x)++all y:=by
 induction h with
 | any=>intro y hy;rw[simS,simV,if_pos rfl,if_pos rfl,bW,dl,jj];exact a42 y
 | tag n hn hl=>intro y hy;rw[simS,simV,if_neg (by decide),if_pos rfl,if_neg (by decide),if_pos rfl,bW,dl,mA];exact jN hn hy
 | id n hn hw =>
  intro y hy;rw[simS,simV];simp only[show ((3:Int)=1)=False by decide,show ((3:Int)=2)=False by decide,if_false,if_true]
  rw[bW,dl,jX];exact Tk.nQ (.hash n hn hw) (hy _ (by simp))
 | cls n hn =>
  intro y hy;rw[simS,simV];simp only[show ((4:Int)=1)=False by decide,show ((4:Int)=2)=False by decide,show ((4:Int)=3)=False by decide,if_false,if_true]
  rw[bW,bW,dl,jj,mA,List.cons_append,a46,jN hn hy];rfl
 | has n hn =>
  intro y hy;rw[simS,simV];simp only[show ((5:Int)=1)=False by decide,show ((5:Int)=2)=False by decide,show ((5:Int)=3)=False by decide,show ((5:Int)=4)=False by decide,if_false,if_true]
  have e:91::(n++[93])++y=91::(n++93::y):=by simp
  rw[bW,dl,FB,bW,dl,mA,e,a91,jN hn (n93 _),a93];rfl
 | is n v hn h1 h2 =>
  intro y hy;rw[simS,simV];simp only[show ((6:Int)=1)=False by decide,show ((6:Int)=2)=False by decide,show ((6:Int)=3)=False by decide,show ((6:Int)=4)=False by decide,show ((6:Int)=5)=False by decide,if_false,if_true]
  rw[bW,dl,FB,bW,bW,bW,dl,mA,jj,jX,List.cons_append,a91,List.append_assoc,List.cons_append,jN hn (n61 _),a61,List.append_assoc,KR h1 h2,List.cons_append,List.nil_append,a93];rfl
 | state n hn =>
  intro y hy;rw[simS,simV];simp only[show ((7:Int)=1)=False by decide,show ((7:Int)=2)=False by decide,show ((7:Int)=3)=False by decide,show ((7:Int)=4)=False by decide,show ((7:Int)=5)=False by decide,show ((7:Int)=6)=False by decide,if_false,if_true]
  rw[bW,bW,dl,jj,mA,List.cons_append,a58,jN (Gf hn) hy];rfl
 | nth a b ha hb =>
  intro y hy;rw[simS,simV];simp only[show ((8:Int)=1)=False by decide,show ((8:Int)=2)=False by decide,show ((8:Int)=3)=False by decide,show ((8:Int)=4)=False by decide,show ((8:Int)=5)=False by decide,show ((8:Int)=6)=False by decide,show ((8:Int)=7)=False by decide,if_false,if_true]
  rw[bW,bW,dl,jj,Fa];have e:([58,110,116,104,45,99,104,105,108,100,40]++(nthS a b++[41])++y:List UInt8)=58::(nthT++40::(nthS a b++41::y)):=by simp[nthT]
  rw[e,a58,Db Oz,OD ha hb (n41 _),a41];simp
 | root =>
  intro y hy;rw[simS,simV];simp only[show ((9:Int)=1)=False by decide,show ((9:Int)=2)=False by decide,show ((9:Int)=3)=False by decide,show ((9:Int)=4)=False by decide,show ((9:Int)=5)=False by decide,show ((9:Int)=6)=False by decide,show ((9:Int)=7)=False by decide,show ((9:Int)=8)=False by decide,if_false,if_true]
  rw[bW,bW,dl,jj,mA];have e:([58,114,111,111,116]++y:List UInt8)=58::(qt++y):=rfl
  rw[e,a58,jN MQ hy];rfl
 | empty =>
  intro y hy;rw[simS,simV];simp only[show ((10:Int)=1)=False by decide,show ((10:Int)=2)=False by decide,show ((10:Int)=3)=False by decide,show ((10:Int)=4)=False by decide,show ((10:Int)=5)=False by decide,show ((10:Int)=6)=False by decide,show ((10:Int)=7)=False by decide,show ((10:Int)=8)=False by decide,show ((10:Int)=9)=False by decide,if_false,if_true]
  rw[bW,bW,dl,jj,mA];have e:([58,101,109,112,116,121]++y:List UInt8)=58::(mR++y):=rfl
  rw[e,a58,jN GZ hy];rfl
 | not x hx hk ih =>
  intro y hy;rw[simS,simV];simp only[show ((11:Int)=1)=False by decide,show ((11:Int)=2)=False by decide,show ((11:Int)=3)=False by decide,show ((11:Int)=4)=False by decide,show ((11:Int)=5)=False by decide,show ((11:Int)=6)=False by decide,show ((11:Int)=7)=False by decide,show ((11:Int)=8)=False by decide,show ((11:Int)=9)=False by decide,show ((11:Int)=10)=False by decide,if_false,if_true]
  rw[bW,bW,dl,jj,Fa,eY,eY,dq,dq,List.append_nil,List.append_nil];have e:([58,110,111,116,40]++(simS x++[41])++y:List UInt8)=58::(notT++40::(simS x++41::y)):=by simp[notT]
  rw[e,a58,Db NV,ih (n41 y),a41];simp
end Sl
end Go.Abs
namespace Go.Abs
open Go
theorem lw {α:Type}:(#[]:Array α).isEmpty=true:=rfl
def encT (l:List (List UInt8)):List (List PV):=l.map fun s=>[.str s]
theorem DN (l:List (List UInt8)):(encT l).length=l.length:=List.length_map ..
theorem UO (l:List (List UInt8))(i:Nat)(x:List UInt8)(h:l[i]? = some x):(encT l)[(i:Int).toNat]? = some [.str x]:=by
 rw[Int.toNat_natCast,encT,List.getElem?_map,h];rfl
def ixI (o:Option Nat):Int:=match o with|some j=>j|none => -1
theorem UA {α:Type}{p:α→Bool}{l:List α}:decide (0≤ixI (l.findIdx? p))=l.any p:=by
 cases h:l.findIdx? p with
 | none =>
  rw[List.findIdx?_eq_none_iff] at h
  have:l.any p=false:=by
   rw[List.any_eq_false];intro x hx;rw[h x hx];simp
  rw[this];decide
 | some j =>
  obtain⟨hj,hp,_⟩:=List.findIdx?_eq_some_iff_getElem.1 h
  have:l.any p=true:=by
   rw[List.any_eq_true];exact⟨_,List.getElem_mem hj,hp⟩
  rw[this]
  show decide ((0:Int)≤(j:Int))=true
  exact decide_eq_true (by omega)
end Go.Abs
namespace Go.Abs
open Go Go.Proofs
attribute [local go_sem] dP bZ de cB cK dL dh du bo ck ce cE dr ci opd avOf cvOf St.degAt St.put okPV fE okAV eL eP eV dM aP if_true Bool.false_eq_true if_false Option.map_some Option.map_none Option.bind_some Option.bind_none fo fw upd List.toList_toArray cM steal bI mvB fj dK db AV.deg CV.deg AV.gv AV.isIter dG dw cJ List.length_nil List.length_cons List.filterMap_cons List.filterMap_nil beq_iff_eq List.getElem?_cons_zero List.getElem?_cons_succ Option.getD_some fM gJ Bool.false_and Bool.and_false Bool.and_self K_P iJ cI dc bL lend back idx dedup AV.ren CV.ren TV.ren AV.ptrs CV.ptrs dE AV.flat CV.flat cQ cz br dD dY gi cL bf cS bV cu cH bU gS CV.pv? content bT ownT bv reps pvs chunks co leave gj cZ eD cm bB TV.deg TV.av LK CV.plain CV.noBld dR gD bound List.map_cons List.map_nil List.all_cons List.all_nil List.any_cons List.any_nil List.contains_cons List.contains_nil List.elem_cons List.elem_nil List.cons_append List.nil_append List.append_nil List.flatMap_cons List.flatMap_nil List.zip_cons_cons List.zip_nil_left List.zip_nil_right List.take_succ_cons List.take_zero List.take_nil List.drop_succ_cons List.drop_zero List.drop_nil List.isEmpty_nil List.isEmpty_cons Bool.and_true Bool.true_and Bool.or_true Bool.true_or Bool.or_false Bool.false_or Bool.not_true Bool.not_false Nat.add_zero Nat.zero_add Option.isNone_none Option.isNone_some Option.getD_none true_and and_true not_true_eq_false not_false_eq_true decide_true decide_false Nat.le_refl and_self Bool.not_eq_true Nat.sub_self or_true true_or Option.some.injEq List.length_map List.nil_eq and_false false_and AV.live CV.live CV.liveIn gk bu Option.orElse_some Option.orElse_none head bJ bG Int.lt_irrefl List.length_append ite_self fx cF dC cf Key.clash Key.sees Key.writes Nat.lt_irrefl gt_iff_lt dt fB false_or or_false beq_self_eq_true Bool.true_beq Bool.false_beq LZ dZ fL ab RY dz cy bK iR Be fc aN cj eF Om fQ fS Sz gO ib fI IB
mutual
def Sim.enc:Sim→List PV
 | .mk k n v a b l=>[.int .i64 k,.str n,.str v,.int .i64 a,.int .i64 b,.sl (Sim.encL l)]
def Sim.encL:List Sim→List (List PV)
 | []=>[]
 | x::l=>x.enc::Sim.encL l
end
theorem Sim.encL_map (l:List Sim):Sim.encL l=l.map Sim.enc:=by
 induction l with
 | nil=>rfl
 | cons x l ih=>simp only[Sim.encL,List.map_cons,ih]
theorem Sim.enc_mk (k:Int)(n v:List UInt8)(a b:Int)(l:List Sim):(Sim.mk k n v a b l).enc=[.int .i64 k,.str n,.str v,.int .i64 a,.int .i64 b,.sl (l.map Sim.enc)]:=by
 rw[Sim.enc,Sim.encL_map]
inductive Sim.Ok:Sim→Prop
 | mk {k:Int} {n v:List UInt8} {a b:Int} {l:List Sim} (ha:I64 a) (hb:I64 b) (hn:n.length≤reachBytes) (hv:v.length≤reachBytes) (hll:l.length≤reachBytes) (hl:∀ x∈l,x.Ok):(Sim.mk k n v a b l).Ok
def simB (b:BS)(x:Sim):BS:=if 1≤x.kind∧x.kind≤11 then .wr (b.text++simS x) else b
def zL (b:BS)(l:List Sim):BS:=l.foldl simB b.live'
theorem Ar (b:BS)(x:Sim):(simB b x).text=b.text++simS x:=by
 unfold simB;split
 ·rfl
 ·rename_i h;cases x with
  | mk k n v a c l =>
   simp only[Sim.kind] at h;unfold simS;rw[if_neg (by omega),if_neg (by omega),if_neg (by omega),if_neg (by omega),if_neg (by omega),if_neg (by omega),if_neg (by omega),if_neg (by omega),if_neg (by omega),if_neg (by omega),if_neg (by omega)]
   simp
theorem sY (b:BS)(x:Sim)(h:b.live'=b):(simB b x).live'=simB b x:=by
 unfold simB;split
 ·rfl
 ·exact h
theorem xW:∀ (l:List Sim) (b:BS),(l.foldl simB b).text=b.text++eY l
 | [],b=>by simp[eY]
 | x::l,b=>by rw[List.foldl_cons,xW l,Ar,eY,List.append_assoc]
theorem qG (b:BS)(l:List Sim):(zL b l).text=b.text++eY l:=by
 unfold zL;rw[xW,BS.live_text]
abbrev VC (b:BS)(l:List Sim)(i:Nat):St :=
  { sl:=upd (upd (upd (upd bot 8 (I i)) 7 (I l.length)) 6 (L (l.map Sim.enc))) 0 P0,bx:=upd nobox 100000 (some (b.cells 100000)),nt:=16 }
def FK (x:Sim):Prop:=∀ b:BS,(b.text++simS x).length<eK→den K 61 [P0,.agg (x.enc.map CV.pv)] [b.cells 100000]=some (.ret (.tup []) [(simB b x).cells 100000])
theorem sc (all:List Sim)(hal:all.length<9000000000000000000):∀ (rest:List Sim) (i:Nat) (b:BS),all.drop i=rest→(∀ x∈rest,FK x)→(b.text++eY rest).length<eK→b.live'=b→i≤all.length →
  exL K 63 (.loop (ap Tryz.f63 1)) (VC b all i) =
   some (.exit 0, { sl:=upd (upd (upd (upd (upd bot 8 (I all.length)) 7 (I all.length)) 6 (L (all.map Sim.enc))) 0 P0) 9 (B false),bx:=upd nobox 100000 (some ((rest.foldl simB b).cells 100000)),nt:=16 })
 | [],i,b,hd,hok,hlen,hb,hi=>by
  have hin:i=all.length:=by
   have:=List.drop_eq_nil_iff.1 hd
   omega
  subst hin
  conv in ap _ _=>whnf
  rw[aq];simp only[go_sem,reduceLT,reduceCtorEq,reduceEqDiff,Nat.reduceBEq,fe,hb,List.foldl_nil]
 | x::rest,i,b,hd,hok,hlen,hb,hi=>by
  obtain⟨h1,h2,h3⟩:=bH hd;have hl0:(b.text++simS x).length<eK:=by simp[eY] at hlen ⊢;omega
  have hx:=hok x (by simp) b hl0
  have hnext:=sc all hal rest (i+1) (simB b x) h2 (fun y hy=>hok y (by simp[hy])) (by rw[Ar];simpa[eY] using hlen) (sY b x hb) (by omega)
  rw[List.foldl_cons]
  conv at hnext in ap _ _=>whnf
  conv in ap _ _=>whnf
  rw[aq];have hget:(all.map Sim.enc)[(i:Int).toNat]? = some x.enc:=by simp[h1]
  have hlt:decide ((i:Int)<(all.length:Int))=true:=kQ (by omega)
  cases x with
  | mk k n v a c l =>
   rw[Sim.enc_mk] at hget hx;simp only[List.map_cons,List.map_nil] at hx;simp only[go_sem,reduceLT,reduceCtorEq,reduceEqDiff,Nat.reduceBEq,reduceAdd,aj ae,fe,dQ,dX,hb,hlt,hget,Int.natCast_nonneg,hx,aX i (by omega)]
   rw[au];simp only[go_sem,reduceCtorEq,reduceEqDiff,fe,sY _ _ hb];exact hnext
theorem un (l:List Sim)(b:BS)(hal:l.length<9000000000000000000)(hok:∀ x∈l,FK x)(hlen:(b.text++eY l).length<eK) :
  den K 63 [P0,L (l.map Sim.enc)] [b.cells 100000]=some (.ret (.tup []) [(zL b l).cells 100000]):=by
 refine ai rfl rfl Tryz.func63 rfl Tryz.ntmps63 ⟨by simp,by simp[LK]⟩ ?_
 have hr:Tryz.f63.results=#[]:=rfl
 have hnext:=sc l hal l 0 b.live' rfl hok (by rw[BS.live_text];exact hlen) (by cases b<;>rfl) (by omega)
 conv at hnext in ap _ _=>whnf
 simp only[go_sem,reduceLT,Nat.reduceBEq,reduceAdd,af ae];rw[au];simp only[go_sem,reduceCtorEq,reduceEqDiff,fe];erw [hnext];simp only[go_sem,eN,hr];rfl
set_option maxHeartbeats 4000000 in
theorem RU (x:Sim)(hx:x.Ok):FK x:=by
 induction hx with
 | @mk k n v a c l ha hc hn hv hll hl ih =>
 intro b hlen;rw[Sim.enc_mk];refine ai rfl rfl Tryz.func61 rfl Tryz.ntmps61 ⟨by simp,by simp[LK]⟩ ?_
 have hr:Tryz.f61.results=#[]:=rfl
 have hk:k=1∨k=2∨k=3∨k=4∨k=5∨k=6∨k=7∨k=8∨k=9∨k=10∨k=11∨(k≠1∧k≠2∧k≠3∧k≠4∧k≠5∧k≠6∧k≠7∧k≠8∧k≠9∧k≠10∧k≠11∧¬ (1≤k∧k≤11)):=by omega
 rcases hk with rfl|rfl|rfl|rfl|rfl|rfl|rfl|rfl|rfl|rfl|rfl|⟨h1,h2,h3,h4,h5,h6,h7,h8,h9,h10,h11,h12⟩
 ·have w:=er [.s [42]] b (by simp[Wd.ok]) (by simpa[dp,Wd.text,simS] using hlen) (by simp)
  simp only[Wd.enc,fW,dp,List.map_cons,List.map_nil,List.flatMap_cons,List.flatMap_nil,Wd.text,List.append_nil] at w
  simp[go_sem,reduceLT,reduceCtorEq,reduceEqDiff,Nat.reduceBEq,reduceAdd,reduceLeDiff,ao (len:=1) bO cW bM ⟨rfl,by decide,by decide⟩,w,dQ,dX,eN,simB,Sim.kind,simS]
 ·have w:=er [.s n] b (by simp[Wd.ok]) (by simpa[dp,Wd.text,simS] using hlen) (by simp)
  simp only[Wd.enc,fW,dp,List.map_cons,List.map_nil,List.flatMap_cons,List.flatMap_nil,Wd.text,List.append_nil] at w
  simp[go_sem,reduceLT,reduceCtorEq,reduceEqDiff,Nat.reduceBEq,reduceAdd,reduceLeDiff,ao (len:=1) bO cW bM ⟨rfl,by decide,by decide⟩,w,dQ,dX,eN,simB,Sim.kind,simS]
 ·have w:=er [.s [35],.s n] b (by simp[Wd.ok]) (by simpa[dp,Wd.text,simS] using hlen) (by simp)
  simp only[Wd.enc,fW,dp,List.map_cons,List.map_nil,List.flatMap_cons,List.flatMap_nil,Wd.text,List.append_nil,List.nil_append,List.cons_append] at w
  simp[go_sem,reduceLT,reduceCtorEq,reduceEqDiff,Nat.reduceBEq,reduceAdd,reduceLeDiff,ao (len:=2) bO cW bM ⟨rfl,by decide,by decide⟩,w,dQ,dX,eN,simB,Sim.kind,simS]
 ·have w:=er [.s [46],.s n] b (by simp[Wd.ok]) (by simpa[dp,Wd.text,simS] using hlen) (by simp)
  simp only[Wd.enc,fW,dp,List.map_cons,List.map_nil,List.flatMap_cons,List.flatMap_nil,Wd.text,List.append_nil,List.nil_append,List.cons_append] at w
  simp[go_sem,reduceLT,reduceCtorEq,reduceEqDiff,Nat.reduceBEq,reduceAdd,reduceLeDiff,ao (len:=2) bO cW bM ⟨rfl,by decide,by decide⟩,w,dQ,dX,eN,simB,Sim.kind,simS]
 ·have w:=er [.s [91],.s n,.s [93]] b (by simp[Wd.ok]) (by simpa[dp,Wd.text,simS] using hlen) (by simp)
  simp only[Wd.enc,fW,dp,List.map_cons,List.map_nil,List.flatMap_cons,List.flatMap_nil,Wd.text,List.append_nil,List.nil_append,List.cons_append] at w
  simp[go_sem,reduceLT,reduceCtorEq,reduceEqDiff,Nat.reduceBEq,reduceAdd,reduceLeDiff,ao (len:=3) bO cW bM ⟨rfl,by decide,by decide⟩,w,dQ,dX,eN,simB,Sim.kind,simS]
 ·have w:=er [.s [91],.s n,.s [61],.s (ma v),.s [93]] b (by simp[Wd.ok]) (by simpa[dp,Wd.text,simS] using hlen) (by simp)
  simp only[Wd.enc,fW,dp,List.map_cons,List.map_nil,List.flatMap_cons,List.flatMap_nil,Wd.text,List.append_nil,List.nil_append,List.cons_append] at w
  have hvl:v.length<1000000000000:=by
   have:v.length≤(ma v).length:=by unfold ma;split<;>simp<;>omega
   simp[simS,eK] at hlen;omega
  have hval:=Ka v hvl
  simp[go_sem,reduceLT,reduceCtorEq,reduceEqDiff,Nat.reduceBEq,reduceAdd,reduceLeDiff,ao (len:=5) bO cW bM ⟨rfl,by decide,by decide⟩,w,hval,dQ,dX,eN,simB,Sim.kind,simS]
 ·have w:=er [.s [58],.s n] b (by simp[Wd.ok]) (by simpa[dp,Wd.text,simS] using hlen) (by simp)
  simp only[Wd.enc,fW,dp,List.map_cons,List.map_nil,List.flatMap_cons,List.flatMap_nil,Wd.text,List.append_nil,List.nil_append,List.cons_append] at w
  simp[go_sem,reduceLT,reduceCtorEq,reduceEqDiff,Nat.reduceBEq,reduceAdd,reduceLeDiff,ao (len:=2) bO cW bM ⟨rfl,by decide,by decide⟩,w,dQ,dX,eN,simB,Sim.kind,simS]
 ·have w:=er [.s [58,110,116,104,45,99,104,105,108,100,40],.s (nthS a c),.s [41]] b (by simp[Wd.ok]) (by simpa[dp,Wd.text,simS] using hlen) (by simp)
  simp only[Wd.enc,fW,dp,List.map_cons,List.map_nil,List.flatMap_cons,List.flatMap_nil,Wd.text,List.append_nil,List.nil_append,List.cons_append] at w
  have hnth:=Tu a c ha hc
  simp[go_sem,reduceLT,reduceCtorEq,reduceEqDiff,Nat.reduceBEq,reduceAdd,reduceLeDiff,ao (len:=3) bO cW bM ⟨rfl,by decide,by decide⟩,w,hnth,dQ,dX,eN,simB,Sim.kind,simS]
 ·have w:=er [.s [58,114,111,111,116]] b (by simp[Wd.ok]) (by simpa[dp,Wd.text,simS] using hlen) (by simp)
  simp only[Wd.enc,fW,dp,List.map_cons,List.map_nil,List.flatMap_cons,List.flatMap_nil,Wd.text,List.append_nil] at w
  simp[go_sem,reduceLT,reduceCtorEq,reduceEqDiff,Nat.reduceBEq,reduceAdd,reduceLeDiff,ao (len:=1) bO cW bM ⟨rfl,by decide,by decide⟩,w,dQ,dX,eN,simB,Sim.kind,simS]
 ·have w:=er [.s [58,101,109,112,116,121]] b (by simp[Wd.ok]) (by simpa[dp,Wd.text,simS] using hlen) (by simp)
  simp only[Wd.enc,fW,dp,List.map_cons,List.map_nil,List.flatMap_cons,List.flatMap_nil,Wd.text,List.append_nil] at w
  simp[go_sem,reduceLT,reduceCtorEq,reduceEqDiff,Nat.reduceBEq,reduceAdd,reduceLeDiff,ao (len:=1) bO cW bM ⟨rfl,by decide,by decide⟩,w,dQ,dX,eN,simB,Sim.kind,simS]
 ·have hlen':(b.text++[58,110,111,116,40]++eY l++[41]).length<eK:=by simpa[simS] using hlen
  have w1:=er [.s [58,110,111,116,40]] b (by simp[Wd.ok]) (by simp[dp,Wd.text] at hlen' ⊢;omega) (by simp)
  have w2:=un l (.wr (b.text++[58,110,111,116,40])) (by simp[reachBytes] at hll;omega) ih (by simp[BS.text] at hlen' ⊢;omega)
  have w3:=er [.s [41]] (zL (.wr (b.text++[58,110,111,116,40])) l) (by simp[Wd.ok]) (by rw[qG];simp[dp,Wd.text,BS.text] at hlen' ⊢;omega) (by simp)
  simp only[qG,sk,Wd.enc,fW,dp,List.map_cons,List.map_nil,List.flatMap_cons,List.flatMap_nil,Wd.text,List.append_nil] at w1 w2 w3
  simp[go_sem,reduceLT,reduceCtorEq,reduceEqDiff,Nat.reduceBEq,reduceAdd,reduceLeDiff,ao (len:=1) bO cW bM ⟨rfl,by decide,by decide⟩,w1,w2,w3,dQ,dX,eN,simB,Sim.kind,simS]
 ·simp[go_sem,reduceLT,reduceEqDiff,Nat.reduceBEq,reduceAdd,reduceLeDiff,eN,simB,Sim.kind,h1,h2,h3,h4,h5,h6,h7,h8,h9,h10,h11,h12]
end Go.Abs
namespace Go.Abs
open Go Go.Proofs Go.ChangeShapes Go.WideShapes Go.ChangeAt Go.RowKit
def TyP (P:Program):Nat→TypeId→List PV→Prop
 | 0,_,_=>False
 | n+1,t,ps =>
  match P.underlying t with
  | some .bool=>∃ b,ps=[.bool b]
  | some (.int k)=>∃ z,ps=[.int k z]∧(Lit.int k z).wf=true
  | some .string=>∃ s,ps=[.str s]∧s.length≤reachBytes
  | some (.slice e)=>∃ c,ps=[.sl c]∧c.length≤reachBytes∧∀ el∈c,TyP P n e el
  | some (.struct fs)=>ps.length=P.cellsOf t∧∀ (i:Nat) (f:Field),fs[i]? = some f→TyP P n f.type ((ps.drop f.offset).take (P.cellsOf f.type))
  | _=>False
def vf (P:Program)(L:List TypeId):Bool:=L.all fun t=>decide (t<P.types.size) &&
 match P.underlying t with
 | some .bool|some (.int _)|some .string=>P.cellsOf t==1
 | some (.slice e)=>L.contains e&&decide (0<P.cellsOf e)&&decide (0<P.bytesOf e)&&P.cellsOf t==1
 | some (.struct fs)=>fs.toList.all fun f=>L.contains f.type
 | _=>false
section
variable {H:Type} {enc:TypeId×Value→H} {P:Program} {w:World}
theorem Oe {base n:Nat}{a:Addr}{cs:List Value}(h:w.cells? base a n=some cs):cs.length=n∧∀ (k:Nat) (y:Value),cs[k]? = some y→w.cell? (a.add k)=some y:=by
 unfold World.cells? at h
 split at h
 case isFalse=>cases h
 have hl:cs.length=n:=by simpa using mapM_some_length h
 refine⟨hl,fun k y hk => ?_⟩
 have hlt:k<n:=by have:=(List.getElem?_eq_some_iff.1 hk).1;omega
 have:=mapM_some_get h k k (by simp[hlt])
 rw[this,hk]
theorem Tn (b o m j:Nat):((⟨b,o,none⟩:Addr).add m).add j=⟨b,o+(m+j),none⟩:=by
 simp only[Addr.add];split<;>split<;>simp_all [Nat.add_assoc]
theorem Ls {a:Addr}{y:Value}(h:w.cell? a=some y):a=⟨a.block,a.off,none⟩:=by
 unfold World.cell? at h
 cases a with
 | mk b o s =>
  cases s with
  | none=>rfl
  | some k=>simp at h;split at h<;>simp at h
theorem DF {I:Nat→Nat→Option Value}{n:Nat}:∀ (fs:List Field) (k:Nat) (cs:List Value),(∀ (j:Nat) (f:Field),fs[j]? = some f→f.offset=k+((fs.take j).map fun f=>P.cellsOf f.type).sum) →
  (∀ f∈fs, ∃ ps,TyP P n f.type ps∧All2 (RP I) ps ((cs.drop f.offset).take (P.cellsOf f.type))∧ps.length=P.cellsOf f.type)→cs.length=k+(fs.map fun f=>P.cellsOf f.type).sum →
  ∃ ps,ps.length=(fs.map fun f=>P.cellsOf f.type).sum∧All2 (RP I) ps (cs.drop k)∧∀ (j:Nat) (f:Field),fs[j]? = some f→TyP P n f.type ((ps.drop (f.offset - k)).take (P.cellsOf f.type))
 | [],k,cs,_,_,hl=>⟨[],rfl,by rw[List.drop_eq_nil_of_le (by simp at hl;omega)];exact .nil,fun j f h=>by simp at h⟩
 | f::fs,k,cs,ho,hf,hl=>by
  have ho0:=ho 0 f rfl
  simp at ho0;obtain⟨p0,h1,h2,h3⟩:=hf f (by simp)
  simp only[List.map_cons,List.sum_cons] at hl;obtain⟨ps,h4,h5,h6⟩:=DF fs (k+P.cellsOf f.type) cs (fun j g hg=>by
   have:=ho (j+1) g (by simpa using hg)
   simp only[List.take_succ_cons,List.map_cons,List.sum_cons] at this
   omega) (fun g hg=>hf g (by simp[hg])) (by omega)
  refine⟨p0++ps,by simp[h3,h4],?_,fun j g hg => ?_⟩
  ·rw[ho0] at h2;have:cs.drop k=(cs.drop k).take (P.cellsOf f.type)++cs.drop (k+P.cellsOf f.type):=by
    rw[←List.drop_drop,List.take_append_drop]
   rw[this];exact h2.append h5
  ·cases j with
   | zero =>
    simp at hg;subst hg;rw[ho0,Nat.sub_self,List.drop_zero,List.take_left' h3];exact h1
   | succ j =>
    have hg':fs[j]? = some g:=by simpa using hg
    have:=h6 j g hg'
    have hoj:=ho (j+1) g hg
    simp only[List.take_succ_cons,List.map_cons,List.sum_cons] at hoj;have hle:k+P.cellsOf f.type≤g.offset:=by omega
    rw[List.drop_append,List.drop_eq_nil_of_le (by omega),List.nil_append,h3]
    rw[show g.offset - k - P.cellsOf f.type=g.offset - (k+P.cellsOf f.type) by omega]
    exact this
theorem uN {e:TypeId}:∀ {l:List (DataW H)} {d:DataW H},d∈l→∀ n∈d.weights P e,n∈DataW.weightsAll P e l
 | d'::l,d,h,n,hn=>by
  unfold DataW.weightsAll;rw[List.mem_append];rcases List.mem_cons.1 h with rfl|h
  ·exact .inl hn
  ·exact .inr (uN h n hn)
theorem Bj:∀ {ts:List TypeId}{ds:List (DataW H)}{j:Nat}{t:TypeId}{d:DataW H},ts[j]? = some t→ds[j]? = some d→∀ n∈d.weights P t,n∈DataW.weightsEach P ts ds:=DataW.weights_mem_each
theorem Sd {I:Nat→Nat→Option Value}(hI:∀ b o y,w.cell? ⟨b,o,none⟩=some y→I b o=some y)(K0:Kids P (· < P.types.size)){L:List TypeId}(hL:vf P L=true){base:Nat}{sp:Nat→Bool}{held:Bool} :
  ∀ (n:Nat) (t:TypeId) (cs:List Value) (x:DataW H×List MemPlace),DataW.trod enc P w base sp held n t cs=some x→t∈L→(∀ m∈x.1.weights P t,m≤reachBytes)→∃ ps,TyP P n t ps∧All2 (RP I) ps cs∧ps.length=P.cellsOf t:=by
 intro n
 induction n with
 | zero=>intro t cs x h;simp[DataW.trod] at h
 | succ n ih =>
  intro t cs x h ht hw;have hLt:=List.all_eq_true.1 hL t ht
  simp only[Bool.and_eq_true,decide_eq_true_eq] at hLt;obtain⟨hlt,hLt⟩:=hLt;unfold TyP;split at hLt
  ·rename_i hu;obtain⟨b,rfl,rfl⟩:=DataW.trod_bool hu h;exact⟨[.bool b],⟨b,rfl⟩,.cons (.bool b) .nil,(by simpa using hLt:P.cellsOf t=1).symm⟩
  ·rename_i k hu;obtain⟨z,rfl,rfl,hwf⟩:=DataW.trod_int hu h;exact⟨[.int k z],⟨z,rfl,hwf⟩,.cons (.int k z) .nil,(by simpa using hLt:P.cellsOf t=1).symm⟩
  ·rename_i hu;obtain⟨s,rfl,rfl,hsz⟩:=DataW.trod_string hu h;refine⟨[.str s.data.toList],⟨_,rfl,hw _ (by simp[DataW.weights])⟩,.cons ?_ .nil,(by simpa using hLt:P.cellsOf t=1).symm⟩
   exact .str _
  ·rename_i e hu;simp only[Bool.and_eq_true,decide_eq_true_eq] at hLt;obtain⟨⟨⟨he,hpos⟩,hby⟩,hc1⟩:=hLt;have hc1:P.cellsOf t=1:=by simpa using hc1
   rcases DataW.trod_slice hu h with⟨rfl,rfl⟩|⟨a,len,cap,elems,rest,m,hfuel,rfl,rfl,_,hlc,_,hel,hget,_,_⟩
   ·exact⟨[.sl []],⟨[],rfl,by simp,by simp⟩,.cons (.sl0 none 0) .nil,hc1.symm⟩
   ·have hm:m=n:=by omega
    subst hm;have hwt:∀ m∈(elems.length+rest.length)*P.bytesOf e::(DataW.weightsAll P e (elems.map (·.1))++DataW.weightsAll P e (rest.map (·.1))),m≤reachBytes:=by
     have:DataW.weights P t (DataW.slice (elems.map (·.1)) (rest.map (·.1)))=(elems.length+rest.length)*P.bytesOf e::(DataW.weightsAll P e (elems.map (·.1))++DataW.weightsAll P e (rest.map (·.1))):=by
      simp[DataW.weights,hu]
     rw[←this];exact hw
    have hlenb:len≤reachBytes:=by
     have h1:=hwt _ (List.mem_cons_self ..)
     have h2:(elems.length+rest.length)*1≤(elems.length+rest.length)*P.bytesOf e:=Nat.mul_le_mul_left _ hby
     omega
    have hone:∀ i,i<len→∃ ps,TyP P m e ps∧ps.length=P.cellsOf e∧∀ (j:Nat) (p:PV),ps[j]? = some p→∃ y,w.cell? ((a.add (i*P.cellsOf e)).add j)=some y∧RP I p y:=by
     intro i hi;have hg:=hget i hi
     have hsome:∃ y,elems[i]? = some y:=⟨elems[i]'(by omega),by simp[hel,hi]⟩
     obtain⟨y,hy⟩:=hsome;rw[hy,Option.bind_eq_some_iff] at hg;obtain⟨cs',hcs,htr⟩:=hg;obtain⟨ps,h1,h2,h3⟩:=ih e cs' y htr (by simpa using he) fun q hq=>hwt q (List.mem_cons_of_mem _ (List.mem_append_left _ (uN (List.mem_map.2 ⟨y,List.mem_of_getElem? hy,rfl⟩) q hq)))
     obtain⟨h4,h5⟩:=Oe hcs;refine⟨ps,h1,h3,fun j p hj => ?_⟩
     obtain⟨z,hz,hr⟩:=h2.get hj;exact⟨z,h5 j z hz,hr⟩
    obtain⟨g,hg⟩:∃ g:Nat→List PV, ∀ i,i<len→TyP P m e (g i)∧(g i).length=P.cellsOf e∧∀ (j:Nat) (p:PV),(g i)[j]? = some p→∃ y,w.cell? ((a.add (i*P.cellsOf e)).add j)=some y∧RP I p y:=by
     refine⟨fun i=>if hi:i<len then(hone i hi).choose else [],fun i hi => ?_⟩
     simp only[dif_pos hi];exact(hone i hi).choose_spec
    have hcget:∀ (i:Nat) (el:List PV),((List.range len).map g)[i]? = some el→i<len∧el=g i:=fun i el hi=>by
     have hlt':=(List.getElem?_eq_some_iff.1 hi).1
     simp at hlt';rw[List.getElem?_map,List.getElem?_range hlt'] at hi
     simp at hi;exact⟨hlt',hi.symm⟩
    refine⟨[.sl ((List.range len).map g)],⟨_,rfl,by simpa using hlenb,fun el hel' => ?_⟩,.cons ?_ .nil,hc1.symm⟩
    ·obtain⟨i,hi,rfl⟩:=List.mem_map.1 hel';exact(hg i (by simpa using hi)).1
    ·by_cases h0:len=0
     ·subst h0;exact .sl0 _ _
     ·obtain⟨p0,hp0⟩:∃ p,(g 0)[0]? = some p:=⟨(g 0)[0]'(by rw[(hg 0 (by omega)).2.1];exact hpos),by simp⟩
      obtain⟨y0,hy0,_⟩:=(hg 0 (by omega)).2.2 0 p0 hp0
      have hadd0:(a.add (0*P.cellsOf e)).add 0=a:=by simp[Addr.add]
      rw[hadd0] at hy0;have ha:=Ls hy0
      have:=RP.of_seg (I:=I) (c:=(List.range len).map g) (b:=a.block) (o:=a.off) (cap:=cap) (sz:=P.cellsOf e) (by simpa using hlc) (fun el hel'=>by
       obtain⟨i,hi,rfl⟩:=List.mem_map.1 hel';exact(hg i (by simpa using hi)).2.1) (fun i el j p hi hj=>by
       obtain⟨hlt',rfl⟩:=hcget i el hi;obtain⟨y,h1,h2⟩:=(hg i hlt').2.2 j p hj;refine⟨y,hI _ _ _ ?_,h2⟩
       have hadd:(a.add (i*P.cellsOf e)).add j=⟨a.block,a.off+(i*P.cellsOf e+j),none⟩:=by
        have:=Tn a.block a.off (i*P.cellsOf e) j
        rw[←ha] at this;exact this
       rw[hadd] at h1;exact h1)
      rw[←ha] at this
      simpa using this
  ·rename_i fs hu;obtain⟨xs,m,hfuel,rfl,hcl,hxl,hget⟩:=DataW.trod_struct hu h;have hm:m=n:=by omega
   subst hm;obtain⟨hf1,hf2,hf3⟩:=K0.struct hlt hu;have hwt:∀ m∈DataW.weightsEach P (fs.toList.map (·.type)) (xs.map (·.1)),m≤reachBytes:=by
    have:DataW.weights P t (DataW.agg (xs.map (·.1)))=DataW.weightsEach P (fs.toList.map (·.type)) (xs.map (·.1)):=by
     rw[DataW.weights,hu]
    rw[←this];exact hw
   obtain⟨ps,h1,h2,h3⟩:=DF (P:=P) (I:=I) (n:=m) fs.toList 0 cs (fun j f hj=>by rw[hf3 j f hj];omega) (fun f hf=>by
    obtain⟨i,hi⟩:=List.mem_iff_getElem?.1 hf
    have hi':fs[i]? = some f:=by simpa using hi
    have hg:=hget i f hi'
    have hlt':i<fs.size:=(Array.getElem?_eq_some_iff.1 hi').1
    obtain⟨y,hy⟩:∃ y,xs[i]? = some y:=⟨xs[i]'(by omega),by simp[hxl,hlt']⟩
    rw[hy] at hg;exact ih f.type _ y hg (by simpa using List.all_eq_true.1 hLt f hf) fun q hq=>hwt q (Bj (j:=i) (t:=f.type) (d:=y.1) (by simp[hi']) (by simp[hy]) q hq)) (by rw[hcl,hf2];omega)
   refine⟨ps,⟨by rw[h1,hf2],fun i f hi => ?_⟩,by simpa using h2,by rw[h1,hf2]⟩
   have:=h3 i f (by simpa using hi)
   simpa using this
  ·cases hLt
def rh (P:Program)(t:TypeId)(ps:List PV):AV :=
 match P.underlying t with
 | some (.struct _)=>.agg (ps.map CV.pv)
 | _=>match ps with
  | [p]=>.c (.pv p)
  | _=>.c .top
theorem UX {r:Reach}{base:Nat}{t:TypeId}{v:Value}(h:Value.okWide P w r base t v)(hs:(∀ fs,P.underlying t≠some (.struct fs))∧∀ n e,P.underlying t≠some (.array n e)):v.cells=#[v]:=by
 unfold Value.okWide at h;split at h
 ·exact absurd ‹_› (hs.1 _)
 ·exact absurd ‹_› (hs.2 _ _)
 ·cases v<;>first|rfl|(unfold Cell.okWide Cell.ok at h;split at h<;>simp_all)
theorem DX {f:Func}{s:ChangeSpec}{apart fresh handsOn again:Bool}{W W':World}{args:Array Value}{v:Value}{ds gs:List (DataW H)}{before pa pv:List MemPlace}
  (hW:DataW.Whole enc P f.params.toList s.vars apart W args.toList ds gs before)
  (hres:∀ (b:Nat) (sp:Nat→Bool) (hd:Bool),DataW.TrodAll enc P W' b sp hd f.resultTypes.toList (v.resultList f.resultTypes.size) (s.fn H (ds++gs)).results [])
  (hargs:∀ sp:Nat→Bool,(∀ p∈before,sp p.block=true)→DataW.TrodAll enc P W' 0 sp true f.params.toList args.toList (s.fn H (ds++gs)).args pa)
  (hvars:∀ sp:Nat→Bool,(∀ p∈before,sp p.block=true)→DataW.TrodVars enc P W' sp s.vars (s.fn H (ds++gs)).vars pv)
  (hps:before=pa++pv) (hk:W.keptBut W' (· ∈ before)) (hfz:∀ a:Addr,a.block<W.heap.size→W'.frozen? a=W.frozen? a)
  (hok:∀ (j:Nat) (t:TypeId) (r:Value),f.resultTypes[j]? = some t→(v.resultList f.resultTypes.size)[j]? = some r→Value.okWide P W' .any 0 t r) :
  s.post enc P f apart fresh handsOn again W args v W':=by
 have hold:∀ p∈before,(fun b=>decide (b<W.heap.size)) p.block=true:=fun p hp=>by simpa using hW.lt p hp
 have hlt:=fun p hp=>hW.lt p hp
 refine⟨ds,gs,before,[],pa,pv,hW,hres _ _ _,hargs _ hold,hvars _ hold,World.keptBut_mono (fun p hp=>⟨hp,?_⟩) hk,fun _ => ?_⟩
 ·rw[hps,List.mem_append] at hp;exact Or.inr hp
 ·obtain⟨_,_,_,_,_,hz,hn⟩:=hW;refine⟨hok,_,_,([]++pa)++pv,⟨[]++pa,pv,trodAll_append (hargs _ (fun _ _=>rfl)) (hres _ _ _),hvars _ (fun _ _=>rfl),rfl,?_,?_⟩,?_⟩
  ·intro b off hp;have hp':MemPlace.cell b off∈before:=by rw[hps];simpa using hp
   rw[hfz _ (hlt _ hp')];exact hz b off hp'
  ·intro ha;have:=hn ha
   rw[hps] at this
   simpa using this
  ·intro p hp _;rw[hps]
   simpa using hp
def xo (w:World):Gh := { I:=fun b o=>w.cell? ⟨b,o,none⟩,bb:=fun _=>none,ow:=fun _=>none }
theorem VD (h:TabOK (xo w) w):WI (xo w) w :=
 ⟨fun _ _ _ h=>h,fun b hb=>⟨fun o=>by
  show w.cell? ⟨b,o,none⟩=none
  unfold World.cell?
  have:w.heap[b]? = none:=Array.getElem?_eq_none hb
  simp[this],rfl⟩,fun _ _ h=>(by cases h),fun _ _ h=>(by cases h),h⟩
theorem yb {W W':World}(hos:W'.os=W.os)(hout:W'.output=W.output)(h:∀ b,b<W.heap.size→W'.heap[b]? = W.heap[b]?)(may:MemPlace→Prop):W.keptBut W' may:=by
 refine⟨hos,hout,fun i hi => ?_⟩
 rw[h i hi];split
 ·rename_i h1 h2;rw[h1] at h2;cases h2;exact⟨rfl,rfl,rfl,fun _ _=>rfl⟩
 ·rename_i h1 h2;rw[h1] at h2;cases h2;exact .inr ⟨rfl,rfl⟩
 ·rfl
end
theorem kids:Kids Tryz.prog (· < Tryz.prog.types.size):=kids_rows (by kernel_rfl) (by kernel_rfl)
theorem Fh:∀ t e,t<Tryz.prog.types.size→Tryz.prog.underlying t=some (.slice e)→0<Tryz.prog.cellsOf e:=slices_full_of _ (by kernel_rfl)
theorem Dx {w:World}:∀ {l:List (String×DataW Unit)} {ps:List MemPlace},DataW.LaidVars Tryz.prog w l ps→∀ {n:String} {d:DataW Unit},(n,d)∈l →
  ∃ g t cs fuel p,Tryz.prog.globalNamed n=some g∧(Tryz.prog.globals[g]?).map (·.type)=some t∧w.var? Tryz.prog n=some cs∧DataW.trod (fun _=>()) Tryz.prog w 0 (fun _=>true) false fuel t cs.toList=some (d,p)
 | [],_,_,n,d,hm=>by simp at hm
 | (m,e)::l,ps,h,n,d,hm=>by
  obtain⟨g,t,cs,fuel,p,q,h1,h2,h3,h4,h5,_⟩:=h;rcases List.mem_cons.1 hm with h|h
  ·cases h;exact⟨g,t,cs,fuel,p,h1,h2,h3,h4⟩
  ·exact Dx h5 h
theorem Uo {W : World}{laid : List (String × DataW Unit)}(hL : laidMet Tryz.prog laid W)(hm : ("internal/strconv.uint64pow10", Go.Proofs.YtlomcifkckgneaaGreatDoor.Rows.laid_internal_strconv_uint64pow10) ∈ laid)(hsh : W.ShapedOpen Tryz.prog) : TabOK (xo W) W := by
 refine⟨fun x hx=>⟨rfl,?_⟩,fun b hb=>⟨rfl,?_⟩⟩
 ·simp only[tabs,List.mem_cons,List.not_mem_nil,or_false] at hx;subst hx;obtain⟨ps,hl,_⟩:=hL;obtain⟨g,t,cs,fuel,p,h1,h2,h3,h4⟩:=Dx hl hm;have hg : g = 3 := Option.some.inj (h1.symm.trans (show Tryz.prog.globalNamed "internal/strconv.uint64pow10" = some 3 by kernel_rfl))
  subst hg;have ht:t=230:=Option.some.inj (h2.symm.trans (show (Tryz.prog.globals[3]?).map (·.type)=some 230 by kernel_rfl))
  subst ht;have hcs:=Lib.cells_of_tab (k:=.u64) (zs:=(List.range 20).map fun i=>((10 ^ i:Nat):Int)) (n:=20) (e:=214) (by kernel_rfl) (by kernel_rfl) (by kernel_rfl) (by kernel_rfl) (h:=h4)
  simp only[World.var?,h1,Option.bind_some] at h3
  split at h3
  ·rename_i cs' ty fz hh;cases h3;refine⟨ty,fz,hh.trans ?_⟩
   have:cs=cs.toList.toArray:=by simp
   rw[this,hcs];simp
  ·cases h3
 ·simp only[ints,List.mem_cons,List.not_mem_nil,or_false] at hb;subst hb;obtain⟨cs,hh,hs,hr⟩:=hsh.1 2 #[.int .i64 0] 3 (of_decide_eq_true (by kernel_rfl)) (by kernel_rfl)
  obtain⟨ts,hts,_,hall⟩:=hr (by kernel_rfl)
  have hct:Tryz.prog.cellTypes Tryz.prog.depth 3=some [3]:=by kernel_rfl
  have hts':ts=[3]:=Option.some.inj (hts.symm.trans hct)
  subst hts';have h1:0<cs.size:=by rw[hs];simp
  obtain⟨u,hu',hok⟩:=hall 0 cs[0] (by simp[h1])
  have hu0:u=3:=by simpa using hu'.symm
  subst hu0;unfold Cell.ok at hok;rw[show Tryz.prog.underlying 3=some (.int .i64) by kernel_rfl] at hok
  cases hv:cs[0] with
  | int k m =>
   rw[hv] at hok;obtain⟨rfl,_⟩:=hok;exact⟨m,cs,3,_,hh,by simp[h1,hv]⟩
  | _=>rw[hv] at hok;simp at hok
section
variable {H:Type} {enc:TypeId×Value→H}
theorem Jw {W:World}{base:Nat}{L:List TypeId}(hL:vf Tryz.prog L=true):∀ {ts:List TypeId} {vs:List Value} {ds:List (DataW H)} {ps:List MemPlace},DataW.TrodAll enc Tryz.prog W 0 (fun _=>true) true ts vs ds ps→(∀ t∈ts,t∈L) →
  (∀ (j:Nat) (t:TypeId) (v:Value),ts[j]? = some t→vs[j]? = some v→Value.okWide Tryz.prog W .any base t v)→(∀ m∈DataW.weightsEach Tryz.prog ts ds,m≤reachBytes) →
  ∃ pss:List (List PV),All2 (fun t p=>∃ n,TyP Tryz.prog n t p) ts pss∧All2 (fun v x=>RA (xo W) W .ret v x) (List.zipWith (rh Tryz.prog) ts pss) vs∧∀ v∈List.zipWith (rh Tryz.prog) ts pss,cM v=false
 | [],[],[],_,_,_,_,_=>⟨[],.nil,.nil,by simp⟩
 | t::ts,v::vs,d::ds,ps,h,hts,hval,hw=>by
  obtain⟨p,q,⟨n,h1⟩,h2,_⟩:=h;have hw1:∀ m∈d.weights Tryz.prog t,m≤reachBytes:=fun m hm=>hw m (by unfold DataW.weightsEach;exact List.mem_append_left _ hm)
  have hw2:∀ m∈DataW.weightsEach Tryz.prog ts ds,m≤reachBytes:=fun m hm=>hw m (by unfold DataW.weightsEach;exact List.mem_append_right _ hm)
  have hv2:∀ (j:Nat) (u:TypeId) (x:Value),ts[j]? = some u→vs[j]? = some x→Value.okWide Tryz.prog W .any base u x:=by
   intro j u x hj hx;refine hval (j+1) u x ?_ ?_
   ·rw[List.getElem?_cons_succ];exact hj
   ·rw[List.getElem?_cons_succ];exact hx
  obtain⟨pss,h3,h4,h5⟩:=Jw hL h2 (fun u hu=>hts u (List.mem_cons_of_mem _ hu)) hv2 hw2
  obtain⟨pv,h6,h7,h8⟩:=Sd (w:=W) (I:=(xo W).I) (fun _ _ _ h=>h) kids hL n t _ _ h1 (hts t (by simp)) hw1
  have hok:=hval 0 t v rfl rfl
  have key:RA (xo W) W .ret (rh Tryz.prog t pv) v∧cM (rh Tryz.prog t pv)=false:=by
   unfold rh;split
   ·rename_i fs hu;refine⟨?_,rfl⟩
    unfold Value.okWide at hok;rw[hu] at hok;obtain⟨cs,rfl,_,_⟩:=hok;exact⟨cs.toList,by simp,All2.fX (h7.imp fun _ _ _ h=>h)⟩
   ·rename_i hns;have hnarr:∀ m e,Tryz.prog.underlying t≠some (.array m e):=fun m e hu=>by
     have:=List.all_eq_true.1 hL t (hts t (by simp))
     rw[hu] at this
     simp at this
    rw[UX hok ⟨fun fs=>hns fs,hnarr⟩] at h7
    cases h7 with
    | cons ha hb =>
     cases hb
     exact⟨ha,rfl⟩
  refine⟨pv::pss,.cons ⟨n,h6⟩ h3,.cons key.1 h4,fun x hx => ?_⟩
  simp only[List.zipWith_cons_cons,List.mem_cons] at hx;rcases hx with rfl|hx
  ·exact key.2
  ·exact h5 x hx
theorem uD {W:World}{base:Nat}{sp:Nat→Bool}{held:Bool}:∀ {ts:List TypeId} {vs:List Value} {ds:List (DataW H)} {ps:List MemPlace},DataW.TrodAll enc Tryz.prog W base sp held ts vs ds ps→ds.length=ts.length
 | [],[],[],_,_=>rfl
 | _::_,_::_,_::_,_,⟨_,_,_,h2,_⟩=>by simp[uD h2]
theorem qu {W W':World}{base:Nat}{sp:Nat→Bool}{held:Bool}:∀ {ts:List TypeId} {vs:List Value} {ds:List (DataW H)} {ps:List MemPlace},(∀ p∈ps,W.sameAt W' p)→DataW.TrodAll enc Tryz.prog W base sp held ts vs ds ps→DataW.TrodAll enc Tryz.prog W' base sp held ts vs ds ps
 | [],[],[],_,_,h=>h
 | _::_,_::_,_::_,_,hs,⟨p,q,⟨n,h1⟩,h2,e⟩=>⟨p,q,⟨n,DataW.trod_carry n _ _ _ h1 fun x hx=>hs x (by rw[e];exact List.mem_append_left _ hx)⟩,qu (fun x hx=>hs x (by rw[e];exact List.mem_append_right _ hx)) h2,e⟩
theorem Vm {f:FuncId}{fn:Func}{spec:ChangeSpec}{laid:List (String×DataW Unit)}{L:List TypeId}{W:World}{base:Nat}{args:Array Value}{ds gs:List (DataW H)}{before:List MemPlace}
  (hg:K.good f=true) (hL:vf Tryz.prog L=true) (hts:∀ t∈fn.params.toList,t∈L) (hres:fn.resultTypes=#[4]) (hvars:spec.vars=[]) (hspec:∀ ds:List (DataW H),ds.length=fn.params.size→spec.fn H ds = { results:=[.lit (.bool true)],args:=ds })
  (hmem : ("internal/strconv.uint64pow10", Go.Proofs.YtlomcifkckgneaaGreatDoor.Rows.laid_internal_strconv_uint64pow10) ∈ laid) (hnoh : (laid.filter fun x => x.2.handleName?.isSome) = [])
  (hden:∀ pss:List (List PV),All2 (fun t p=>∃ n,TyP Tryz.prog n t p) fn.params.toList pss→den K f (List.zipWith (rh Tryz.prog) fn.params.toList pss) []=some (.ret (.c (.pv (.bool true))) []))
  (hval:∀ (j:Nat) t v,fn.params[j]? = some t→args[j]? = some v→Value.okWide Tryz.prog W .any base t v)
  (hW:DataW.Whole enc Tryz.prog fn.params.toList spec.vars false W args.toList ds gs before)
  (hwt:(DataW.weightsEach Tryz.prog fn.params.toList ds).all (· ≤ reachBytes)=true)
  (hLaid:laidMetH Tryz.prog laid W) (hsh:W.ShapedOpen Tryz.prog) :
  Calls Tryz.prog f args W fun e W'=>∃ v,e=.returned v∧spec.post enc Tryz.prog fn false true false false W args v W':=by
 have hW':=hW
 obtain⟨p,q,hA,hV,rfl,hfz,hnd⟩:=hW;rw[hvars] at hV;have hgq:gs=[]∧q=[]:=by
  cases gs with
  | nil=>exact⟨rfl,hV⟩
  | cons g gs=>exact hV.elim
 obtain⟨rfl,rfl⟩:=hgq;have hlen:=uD hA
 have hv2:∀ (j:Nat) (u:TypeId) (x:Value),fn.params.toList[j]? = some u→args.toList[j]? = some x→Value.okWide Tryz.prog W .any base u x:=by
  intro j u x hj hx;rw[Array.getElem?_toList] at hj hx
  exact hval j u x hj hx
 obtain⟨pss,h1,h2,h3⟩:=Jw (base:=base) hL hA hts hv2 (fun m hm=>by simpa using List.all_eq_true.1 hwt m hm)
 have hlm:laidMet Tryz.prog laid W:=by
  unfold laidMetH at hLaid;rw[hnoh] at hLaid;exact hLaid
 have hwi:=VD (Uo hlm hmem hsh)
 have hc:=vI Uj hg (hden pss h1) (xo W) W args.toList hwi h2 h3 (fun i l h=>by simp at h) (fun s b h=>by cases h)
 rw[Array.toArray_toList] at hc;refine hc.mono fun e W' ⟨G',hx,hw',v,he,hv,_⟩ => ?_
 subst he;have hv':v=.bool true:=RA.boolv hv
 subst hv';refine⟨_,rfl,?_⟩
 have hold:∀ b,b<W.heap.size→W'.heap[b]? = W.heap[b]? := fun b hb=>(hx.old b hb rfl).2.1
 have hds:spec.fn H (ds++[]) = { results:=[.lit (.bool true)],args:=ds }:=by
  rw[List.append_nil];exact hspec ds (by rw[hlen];simp)
 refine DX (pa:=p) (pv:=[]) hW' (fun b sp hd => ?_) (fun sp hsp => ?_) (fun sp hsp => ?_) rfl (yb hx.os hx.output hold _) (fun a ha => ?_) ?_
 ·rw[hds,hres];exact trodAll_cons_mk (shut_bool (by kernel_rfl) _) trodAll_mk0
 ·rw[hds];have hT:∀ t∈fn.params.toList,t<Tryz.prog.types.size:=fun t ht=>by
   have:=List.all_eq_true.1 hL t (hts t ht)
   simp only[Bool.and_eq_true,decide_eq_true_eq] at this
   exact this.1
  have:=DataW.TrodAll.respare (spare':=sp) kids Fh hT hA (fun y hy=>hsp y (by simpa using hy))
  refine qu (fun y hy => ?_) this
  have hlt:y.block<W.heap.size:=DataW.TrodAll.lt hA y hy
  cases y with
  | cell b off =>
   show W'.cell? ⟨b,off,none⟩=W.cell? ⟨b,off,none⟩
   unfold World.cell?
   rw[hold b hlt]
  | map b=>exact hold b hlt
 ·rw[hds,hvars];rfl
 ·unfold World.frozen?
  rw[hold a.block ha]
 ·rw[hres];intro j t r hj hr;have hj0:j=0:=by
   rcases Nat.eq_zero_or_pos j with h|h
   ·exact h
   ·rw[Array.getElem?_eq_none (by simp;omega)] at hj;cases hj
  subst hj0;simp at hj;subst hj;have hr0:r=.bool true:=by
   have:((Value.bool true).resultList 1)[0]? = some r:=by simpa using hr
   simp[Value.resultList] at this
   exact this.symm
  subst hr0;exact okWide_bool_mk (by kernel_rfl) _
end
end Go.Abs
namespace Go.Abs
open Go Go.Proofs
def oV (P:Program)(t:TypeId):Option (List (TypeId×Nat×Nat)) :=
 match P.underlying t with
 | some (.struct fs)=>some (fs.toList.map fun f=>(f.type,f.offset,P.cellsOf f.type))
 | _=>none
section
variable {P:Program} {t e:TypeId} {n:Nat} {ps:List PV}
theorem vE {k:IntKind}(h:cD P t=some (.int k))(hp:TyP P n t ps):∃ z,ps=[.int k z]∧(Lit.int k z).wf=true:=by
 cases n with
 | zero=>exact hp.elim
 | succ n=>unfold TyP at hp;rw[sD h] at hp;exact hp
theorem BH (h:cD P t=some .str)(hp:TyP P n t ps):∃ s,ps=[.str s]∧s.length≤reachBytes:=by
 cases n with
 | zero=>exact hp.elim
 | succ n=>unfold TyP at hp;rw[lj h] at hp;exact hp
theorem Cb {b:Bool}(h:cD P t=some (.sl e b))(hp:TyP P n t ps):∃ m c,n=m+1∧ps=[.sl c]∧c.length≤reachBytes∧∀ el∈c,TyP P m e el:=by
 cases n with
 | zero=>exact hp.elim
 | succ n =>
  unfold TyP at hp;rw[(lA h).1] at hp;obtain⟨c,h1,h2,h3⟩:=hp;exact⟨n,c,rfl,h1,h2,h3⟩
theorem qN {l:List (TypeId×Nat×Nat)}{sz:Nat}(h:oV P t=some l)(hs:P.cellsOf t=sz)(hp:TyP P n t ps):∃ m,n=m+1∧ps.length=sz∧∀ (i:Nat) (x:TypeId×Nat×Nat),l[i]? = some x→TyP P m x.1 ((ps.drop x.2.1).take x.2.2):=by
 cases n with
 | zero=>exact hp.elim
 | succ n =>
  unfold oV at h;split at h
  case h_2=>cases h
  rename_i fs hu;cases h;unfold TyP at hp;rw[hu] at hp;obtain⟨h1,h2⟩:=hp;refine⟨n,rfl,by rw[h1,hs],fun i x hx => ?_⟩
  rw[List.getElem?_map,Option.map_eq_some_iff] at hx
  obtain⟨f,hf,rfl⟩:=hx;exact h2 i f (by simpa using hf)
theorem rB {α:Type}{f:α→List PV}{Q:α→Prop}:∀ {c:List (List PV)},(∀ el∈c, ∃ x,el=f x∧Q x)→∃ l:List α,c=l.map f∧∀ x∈l,Q x
 | [],_=>⟨[],rfl,by simp⟩
 | el::c,h=>by
  obtain⟨x,rfl,hx⟩:=h el (by simp)
  obtain⟨l,rfl,hl⟩:=rB (c:=c) fun y hy=>h y (by simp[hy])
  exact⟨x::l,rfl,fun y hy=>by
   rcases List.mem_cons.1 hy with rfl|hy
   ·exact hx
   ·exact hl y hy⟩
theorem ND {z:Int}(h:(Lit.int .i64 z).wf=true):I64 z:=by
 simp only[Lit.wf,Bool.and_eq_true,decide_eq_true_eq] at h;exact h
end
theorem len2 {α:Type}{l:List α}(h:l.length=2):∃ a b,l=[a,b]:=by
 match l,h with
 | [a,b],_=>exact⟨a,b,rfl⟩
theorem len6 {α:Type}{l:List α}(h:l.length=6):∃ a b c d e f,l=[a,b,c,d,e,f]:=by
 match l,h with
 | [a,b,c,d,e,f],_=>exact⟨a,b,c,d,e,f,rfl⟩
end Go.Abs
namespace Go.Abs
open Go Go.Proofs
theorem args2 {t u:TypeId}{pss:List (List PV)}{Q:Prop}(h:All2 (fun t p=>∃ n,TyP Tryz.prog n t p) [t,u] pss)(hq:∀ n m p q,TyP Tryz.prog n t p→TyP Tryz.prog m u q→pss=[p,q]→Q):Q:=by
 cases h with
 | cons h1 h =>
 cases h with
 | cons h2 h =>
 cases h
 obtain⟨n,h1⟩:=h1;obtain⟨m,h2⟩:=h2;exact hq n m _ _ h1 h2 rfl
end Go.Abs
