/-
  THE ABSTRACT INTERPRETER: nest.Parse as a primitive: that its answer is what the program does.
  strings.IndexAny of a text of at most eight bytes, as an interpreter runs it that asks strings.IndexRune.
  strings.IndexAny of a text of at most eight bytes, as an interpreter runs it: where the first byte stands that ends a line.
  strings.IndexAny, asked for the three bytes that end a line, of a text of whatever bytes: what it answers, and that it does.
  THE ABSTRACT INTERPRETER: sels.whole walked by hand: it defers a function that recovers, and calls a function that it is handed.
  THE ABSTRACT INTERPRETER: sels.whole as a function that calls others (a Plan); that its answer is what the program does.
  THE ABSTRACT INTERPRETER: the closure of sels.Parse (it appends a selector to a captured list; what it calls may go up, in a region whose order is drawn), as a function that calls another (a Plan).
  THE ABSTRACT INTERPRETER: slices.Concat of values as a primitive: one slice of what lies in some, in cells of its own.
  THE ABSTRACT INTERPRETER: what it is run with over this program.
  TOKENS, in plain Lean: which tokens a text is read as; tokens that may be are read again as they were. No program stands here.
  TOKENS, in plain Lean: tokens that may be are read again as they were (ToksBack, ToksTwo, ToksBlanks). No program stands here.
  TOKENS, in plain Lean: what each token has (ToksParts); two texts, and a comment between (ToksBoth). No program stands here.
  VALUES, plain: how many there are; what is so of each token; what the laws' premises say.
  Layer 3, plain: values trimmed, cut into words, joined: what holds of them, without the program.
  TOKENS, in plain Lean: how long their texts are. No program stands here.
  Layer 3, plain: values that are read from a text: what is so of parts of values; what is read is read again.
  SELECTORS: the text of a selector that may be is read as the tokens of its values.
  SELECTORS: the text of selectors that may be is read as the tokens of their values, and these as the values.
  SELECTORS: what is read as selectors may be.
  Layer 7, plain: declarations of values, values of declarations; what holds of them, without the program.
  SELECTORS, plain: a list is each of its complex selectors; two lists, with a sign between, are both.
  SELECTORS, plain: a simple selector that is read alone is read within a not.
  Layer 4, plain: how a program reads selectors that looks for an end ahead of each simple one; that this is what Sl.parse reads.
  Layer 4, plain: digits, as strings.Trim and strconv.Atoi see them.
  SELECTORS, plain: what is left behind a simple selector is shorter.
  Layer 3, plain: how many values there are in what is cut, trimmed.
  SELECTORS, plain: whether selectors may be, as a truth value.
-/
import Derived.Lib.IndexAny
import Derived.Lib.IndexBytes
import Derived.Laws.RangeAny
import Derived.Laws.Runes
import Derived.KernelRfl
import Derived.Shelf.Spec.SlicesGrow
import Derived.Lib.Atoi
import Derived.Lib.SlTrimSet
import Derived.Test.YtlomcifkckgneaaGreatDoorRc1
import Derived.Test.YtlomcifkckgneaaGreatDoorRc2
import Derived.Test.YtlomcifkckgneaaGreatDoorRc3
set_option linter.unusedSimpArgs false
set_option linter.unusedVariables false
namespace Go.Abs
open Go Go.Proofs Go.RowKit
open NR (vv prN)
def EK (P:Program) (f:Nat):Bool :=
 match P.funcs[f]? with
 | some fn => fn.name != "runtime.NumGoroutine" && (match fn.body with | some c => fl (fun _ => false) c | none => false)
 | none=>false
theorem Cs:vv.all (EK Tryz.prog)=true:=by kernel_rfl
theorem HR:Prog NR.KN:=by
 refine ⟨by kernel_rfl,fun g hg => ?_,fun f F args bxs x _ hF hx => ?_,fun f F args bxs r call _ hF=>by cases hF⟩
 ·have h1:g∈vv:=by simpa[NR.KN] using hg
  have h2:=List.all_eq_true.1 Cs g h1
  unfold EK at h2
  split at h2
  ·rename_i fn hfn
   simp only[Bool.and_eq_true] at h2
   obtain ⟨h3,h4⟩:=h2
   split at h4
   ·rename_i c hc
    exact ⟨fn,c,hfn,by simpa using h3,hc,h4⟩
   ·cases h4
  ·cases h2
 ·have h2:prN f=some F:=hF
  unfold prN at h2
  split at h2
  ·rename_i hf
   cases h2
   obtain rfl:f=227:=by simpa using hf
   exact C3 hx
  ·split at h2
   ·rename_i hf
    cases h2
    obtain rfl:f=207:=by simpa using hf
    exact DC hx
   ·cases h2
def decT:List PV→Option Tok
 | [.int .i64 k,.str s,.int .i64 n]=>some ⟨k,s,n⟩
 | _=>none
def A5:List (List PV)→Option (List Tok)
 | []=>some []
 | c::l=>match decT c,A5 l with
  | some t,some m=>some (t::m)
  | _,_=>none
theorem Fc {c:List PV} {t:Tok} (h:decT c=some t):c=t.enc:=by
 unfold decT at h
 split at h
 ·cases h;rfl
 ·cases h
theorem Bz : ∀ {c:List (List PV)} {l:List Tok},A5 c=some l→c=l.map Tok.enc
 | [],l,h=>by cases h;rfl
 | c::cs,l,h=>by
  unfold A5 at h
  split at h
  ·rename_i t m h1 h2
   cases h
   rw[List.map_cons,←Fc h1,←Bz h2]
  ·cases h
def v8 (deep:Int) (l:List Tok):AV :=
 if deep<1∨60<deep then .tup [.c (.pv (.sl [])),.c (.pv (.int .i64 1))]
 else match Ne.dQ 0 deep.toNat l with
  | some x => .tup [.c (.pv (.sl (encL x.1))),.c (.pv (.int .i64 0))]
  | none => .tup [.c (.pv (.sl [])),.c (.pv (.int .i64 20))]
def Ao:Prim
 | [.c (.pv (.sl c)),.c (.pv (.int .i64 deep))],[]=>(match A5 c with
  | some l=>if l.length≤1000000 then some (v8 deep l,[]) else none
  | none=>none)
 | [.c .nils,.c (.pv (.int .i64 deep))],[]=>some (v8 deep [],[])
 | _,_=>none
section
variable {G G2:Gh} {w w' w'':World}
theorem uS {x:Value} {deep:Int} (hw:WI G w) (hb0 : ∀ s,G.bb s=none) (hx:Ext (G.box LK (w.heap.size+2)) (((w.alloc slV).alloc inE).alloc (rdO x deep)) G2 w') (hw2:WI G2 w')
  (hs:w'.heap.size≤w''.heap.size) (ho:w''.os=w'.os) (hp:w''.output=w'.output) (ht:w''.tape=w'.tape) (hh : ∀ b,b<w'.heap.size→b≠w.heap.size→b≠w.heap.size+1→w''.heap[b]? = w'.heap[b]?) :
  Ext G w { G2 with bb:=G.bb } w''∧WI { G2 with bb:=G.bb } w'':=by
 have hsz:(((w.alloc slV).alloc inE).alloc (rdO x deep)).heap.size=w.heap.size+3:=by rw[bw,bw,bw]
 have hold : ∀ b,b<w.heap.size→(((w.alloc slV).alloc inE).alloc (rdO x deep)).heap[b]? = w.heap[b]? := fun b hb=>by
  rw[cd _ _ _ (by rw[bw,bw];omega),cd _ _ _ (by rw[bw];omega),cd _ _ _ hb]
 have how : ∀ b,b≠w.heap.size+2→(G.box LK (w.heap.size+2)).ow b=G.ow b:=fun b hb=>by
  show upd G.ow (w.heap.size+2) _ b=_
  unfold upd;rw[if_neg hb]
 have hnI : ∀ b,w.heap.size≤b→b<w.heap.size+2 → ∀ o,G2.I b o=none:=fun b h1 h2 o=>by
  have h3:=hx.old b (by rw[hsz];omega) ((how b (by omega)).trans (hw.fresh b h1).2)
  exact (h3.2.2 o).trans ((hw.fresh b h1).1 o)
 have hold2 : ∀ b,b<w.heap.size→G.ow b=none→G2.ow b=none∧w''.heap[b]? = w.heap[b]? ∧ ∀ o,G2.I b o=G.I b o:=fun b hb hn=>by
  have h3:=hx.old b (by rw[hsz];omega) ((how b (by omega)).trans hn)
  have:=hx.size
  rw[hsz] at this
  exact ⟨h3.1,(hh b (by omega) (by omega) (by omega)).trans (h3.2.1.trans (hold b hb)),h3.2.2⟩
 have hsize:=hx.size
 rw[hsz] at hsize
 refine ⟨⟨hx.I,hold2,by omega,ho.trans hx.os,hp.trans hx.output,ht.trans hx.tape,fun _ _=>rfl⟩,⟨fun b o y h => ?_,fun b hb=>hw2.fresh b (by omega),hw2.boxI,fun s b hb=>absurd (show G.bb s=some b from hb) (by rw[hb0];simp),hw.tab.map fun b hb hn=>⟨(hold2 b hb hn).1,(hold2 b hb hn).2.1⟩⟩⟩
 have h1:G2.I b o=some y:=h
 have hlt:=I_lt hw2 h1
 have e:w''.heap[b]? = w'.heap[b]? := hh b hlt (fun e=>by rw[e,hnI _ (Nat.le_refl _) (by omega)] at h1;cases h1) (fun e=>by rw[e,hnI _ (by omega) (by omega)] at h1;cases h1)
 have:=hw2.cell b o y h1
 unfold World.cell? at this ⊢
 rw[e]
 exact this
theorem GI {o:Obj} (hw:WI G w) {k:Nat} (hk:G.bb k=none):WI (G.box k w.heap.size) (w.alloc o):=by
 refine ⟨fun b o y hI => ?_,fun b hb => ?_,fun b s hb o => ?_,fun s b hb => ?_,hw.tab.map fun c hc ho=>⟨?_,cd w _ c hc⟩⟩
 ·rw[fk w _ (I_lt hw hI)];exact hw.cell b o y hI
 ·rw[bw] at hb
  refine ⟨(hw.fresh b (by omega)).1,?_⟩
  show upd G.ow w.heap.size _ b=none
  unfold upd;rw[if_neg (by omega)];exact (hw.fresh b (by omega)).2
 ·have hb':upd G.ow w.heap.size (some (.box k)) b=some (.box s):=hb
  unfold upd at hb'
  split at hb'
  ·rename_i he;subst he;exact (hw.fresh _ (Nat.le_refl _)).1 o
  ·exact hw.boxI b s hb' o
 ·have hb':upd G.bb k (some w.heap.size) s=some b:=hb
  show upd G.ow w.heap.size _ b=_
  unfold upd at hb' ⊢
  split at hb'
  ·rename_i he;subst he;cases hb';rw[if_pos rfl]
  ·have h1:=hw.bbow s b hb'
   have h2:=fM hw h1
   rw[if_neg (by omega)];exact h1
 ·show upd G.ow w.heap.size _ c=none
  unfold upd;rw[if_neg (by omega)];exact ho
end
theorem yD (w:World) (a b:Addr) (v v':Value) (k:Nat) (h1:k≠a.block) (h2:k≠b.block):((w.setCell a v).setCell b v').heap[k]? = w.heap[k]? := by
 rw[ej _ _ _ h2,ej _ _ _ h1]
theorem jq (w:World) (a:Addr) (v:Value):(w.setCell a v).heap.size=w.heap.size:=by
 simp[World.setCell]
theorem xH {l:List Tok} {deep:Int} {v:AV} (hlen:l.length≤1000000) (hv : ∀ {G:Gh} {w:World} {x:Value},RA G w .ret v x→RP G.I (.sl (l.map Tok.enc)) x) :
  Contract Tryz.prog 98 [v,.c (.pv (.int .i64 deep))] [] (.ret (v8 deep l) []):=by
 intro G w cargs hw hargs _ _ hbb
 have hb0 : ∀ s,G.bb s=none:=fun s=>by
  cases e:G.bb s with
  | none=>rfl
  | some b=>obtain ⟨i,hi,_⟩:=hbb s b e;simp at hi
 obtain ⟨x,y,rfl,hx,hy⟩:=fC hargs
 cases hy.intv
 have hxp:RP G.I (.sl (l.map Tok.enc)) x:=hv hx
 obtain ⟨pa,pc,rfl,_,_⟩:=hxp.slice_inv
 unfold v8
 by_cases hd:deep<1∨60<deep
 ·rw[if_pos hd]
  refine (G5 _ deep w hd).mono ?_
  rintro e w' ⟨rfl,rfl⟩
  obtain ⟨g,hw'⟩:=g8 (w':=(w.alloc (.cells #[.slice none 0 0] 23)).alloc (.cells #[.int .i64 1] 24)) hw (((Below.refl _ _).alloc (Nat.le_refl _) _).alloc (by simp) _)
  exact ⟨G,g.ext,hw',_,rfl,⟨[_,_],rfl,.cons (.sl0 _ _) (.cons (.int _ _) .nil)⟩,rfl,fun i l h=>by simp at h⟩
 ·rw[if_neg hd]
  have hd1 : ¬ deep<1:=fun h=>hd (.inl h)
  have hd2 : ¬ 60<deep:=fun h=>hd (.inr h)
  obtain ⟨d,rfl⟩ : ∃ d:Nat,deep=d:=⟨deep.toNat,by omega⟩
  rw[Int.toNat_natCast]
  have hu:=NR.Dj l hlen d (by omega)
  unfold NR.UDen at hu
  obtain ⟨g1,hw1⟩:=g8 (w':=(w.alloc slV).alloc inE) hw (((Below.refl _ _).alloc (Nat.le_refl _) _).alloc (by simp) _)
  have hn1:((w.alloc slV).alloc inE).heap.size=w.heap.size+2:=by rw[bw,bw]
  have hw3:WI (G.box LK (w.heap.size+2)) (((w.alloc slV).alloc inE).alloc (rdO (.slice pa (l.map Tok.enc).length pc) d)):=by
   have:=GI (o:=rdO (.slice pa (l.map Tok.enc).length pc) d) hw1 (hb0 LK)
   rw[hn1] at this
   exact this
  have hnew:(((w.alloc slV).alloc inE).alloc (rdO (.slice pa (l.map Tok.enc).length pc) d)).heap[w.heap.size+2]? = some (rdO (.slice pa (l.map Tok.enc).length pc) d):=by
   have:=heap_alloc_new ((w.alloc slV).alloc inE) (rdO (.slice pa (l.map Tok.enc).length pc) d)
   rw[hn1] at this
   exact this
  have hbbk:(G.box LK (w.heap.size+2)).bb LK=some (w.heap.size+2):=by simp[Gh.box,upd]
  have hcall : ∀ r,den NR.KN 148 [.c (.loc 100000 0),.c .nilp,.c (.pv (.int .i64 0))] [NR.rdr l d]=some r →
    Calls Tryz.prog 148 #[.pointer (some ⟨w.heap.size+2,0,none⟩),.pointer none,.int .i64 0] (((w.alloc slV).alloc inE).alloc (rdO (.slice pa (l.map Tok.enc).length pc) d)) fun e w' =>
     ∃ G2,Ext (G.box LK (w.heap.size+2)) (((w.alloc slV).alloc inE).alloc (rdO (.slice pa (l.map Tok.enc).length pc) d)) G2 w'∧WI G2 w'∧REnd 1 G2 w' e r:=fun r hr=>by
   refine rz HR NR.rk hr _ _ [.pointer (some ⟨w.heap.size+2,0,none⟩),.pointer none,.int .i64 0] hw3 ?_ ?_ ?_ ?_
   ·exact .cons ⟨w.heap.size+2,hbbk,rfl⟩ (.cons rfl (.cons (.int _ _) .nil))
   ·intro v hv
    simp only[List.mem_cons,List.not_mem_nil,or_false] at hv
    rcases hv with rfl|rfl|rfl<;>rfl
   ·intro i b hi
    cases i with
    | succ i=>simp at hi
    | zero =>
     simp only[List.getElem?_cons_zero,Option.some.injEq] at hi
     subst hi
     refine ⟨w.heap.size+2,_,_,hbbk,hnew,⟨rfl,fun e=>by simp at e⟩,fun k v hk => ?_⟩
     match k with
     | 0 =>
      simp only[List.getElem?_cons_zero,Option.some.injEq] at hk
      subst hk
      exact ⟨_,rfl,hxp⟩
     | 1 =>
      simp only[List.getElem?_cons_succ,List.getElem?_cons_zero,Option.some.injEq] at hk
      subst hk
      exact ⟨_,rfl,.int _ _⟩
     | k+2=>simp at hk
   ·intro s b hs
    have hs':upd G.bb LK (some (w.heap.size+2)) s=some b:=hs
    unfold upd at hs'
    split at hs'
    ·rename_i he;exact ⟨0,by simp,by omega⟩
    ·rw[hb0] at hs';cases hs'
  have hheap : ∀ {G2:Gh} {w':World},Ext (G.box LK (w.heap.size+2)) (((w.alloc slV).alloc inE).alloc (rdO (.slice pa (l.map Tok.enc).length pc) d)) G2 w' →
    w'.heap[w.heap.size]? = some slV∧w'.heap[w.heap.size+1]? = some inE:=fun {G2 w'} hx2=>by
   have how : ∀ b,w.heap.size≤b→b≠w.heap.size+2→(G.box LK (w.heap.size+2)).ow b=none:=fun b h1 h2=>by
    show upd G.ow (w.heap.size+2) _ b=_
    unfold upd;rw[if_neg h2];exact (hw.fresh b h1).2
   constructor
   ·rw[(hx2.old w.heap.size (by rw[bw,hn1];omega) (how _ (Nat.le_refl _) (by omega))).2.1,cd _ _ _ (by rw[hn1];omega),cd _ _ _ (by rw[bw];omega)]
    exact heap_alloc_new w _
   ·rw[(hx2.old (w.heap.size+1) (by rw[bw,hn1];omega) (how _ (by omega) (by omega))).2.1,cd _ _ _ (by rw[hn1];omega)]
    have:=heap_alloc_new (w.alloc slV) inE
    rw[bw] at this
    exact this
  cases hv:Ne.dQ 0 d l with
  | some x =>
   rw[hv] at hu
   refine (uq pa _ pc d w hd1 hd2 (fun va vn vc w' => ∃ G2,Ext (G.box LK (w.heap.size+2)) (((w.alloc slV).alloc inE).alloc (rdO (.slice pa (l.map Tok.enc).length pc) d)) G2 w'∧WI G2 w'∧RP G2.I (.sl (encL x.1)) (.slice va vn vc)) (fun _=>False) ?_).mono ?_
   ·refine (hcall _ hu).mono ?_
    rintro e w' ⟨G2,hx2,hw2,v,rfl,hr,_,_⟩
    have hr':RP G2.I (.sl (encL x.1)) v:=hr
    obtain ⟨va,vc,rfl,_,_⟩:=hr'.slice_inv
    exact ⟨(hheap hx2).1,(hheap hx2).2,.inl ⟨va,_,vc,rfl,G2,hx2,hw2,hr'⟩⟩
   ·rintro e w'' (⟨va,vn,vc,w',⟨G2,hx2,hw2,hr⟩,rfl,rfl⟩|⟨w',hf,_⟩)
    ·obtain ⟨k1,k2⟩:=uS (w'':=(w'.setCell ⟨w.heap.size,0,none⟩ (.slice va vn vc)).setCell ⟨w.heap.size+1,0,none⟩ (.int .i64 0)) hw hb0 hx2 hw2 (by rw[jq,jq];exact Nat.le_refl _) rfl rfl rfl (fun b _ h1 h2=>yD w' _ _ _ _ b h1 h2)
     exact ⟨_,k1,k2,_,rfl,⟨[_,_],rfl,.cons hr (.cons (.int _ _) .nil)⟩,rfl,fun i l h=>by simp at h⟩
    ·exact hf.elim
  | none =>
   rw[hv] at hu
   obtain ⟨b1,hu⟩:=hu
   refine (uq pa _ pc d w hd1 hd2 (fun _ _ _ _=>False) (fun w' => ∃ G2,Ext (G.box LK (w.heap.size+2)) (((w.alloc slV).alloc inE).alloc (rdO (.slice pa (l.map Tok.enc).length pc) d)) G2 w'∧WI G2 w') ?_).mono ?_
   ·refine (hcall _ hu).mono ?_
    rintro e w' ⟨G2,hx2,hw2,v,rfl,hr,_,_⟩
    have hr':RP G2.I (.ifa 174 []) v:=hr
    cases hr'
    exact ⟨(hheap hx2).1,(hheap hx2).2,.inr ⟨rfl,G2,hx2,hw2⟩⟩
   ·rintro e w'' (⟨va,vn,vc,w',hf,_⟩|⟨w',⟨G2,hx2,hw2⟩,rfl,rfl⟩)
    ·exact hf.elim
    ·obtain ⟨k1,k2⟩:=uS (w'':=((w'.alloc (.cells #[] 174)).setCell ⟨w.heap.size,0,none⟩ (.slice none 0 0)).setCell ⟨w.heap.size+1,0,none⟩ (.int .i64 20)) hw hb0 hx2 hw2 (by rw[jq,jq,bw];omega) rfl rfl rfl (fun b hb h1 h2=>by rw[yD _ _ _ _ _ b h1 h2,cd _ _ _ hb])
     exact ⟨_,k1,k2,_,rfl,⟨[_,_],rfl,.cons (.sl0 _ _) (.cons (.int _ _) .nil)⟩,rfl,fun i l h=>by simp at h⟩
theorem DN {args:List AV} {bxs:List (List CV)} {x:AV×List (List CV)} (h:Ao args bxs=some x):Contract Tryz.prog 98 args bxs (.ret x.1 x.2):=by
 unfold Ao at h
 split at h
 ·rename_i c deep
  split at h
  case h_2=>cases h
  rename_i l hdec
  split at h
  case isFalse=>cases h
  rename_i hlen
  cases h
  obtain rfl:=Bz hdec
  exact xH hlen (fun hx=>hx)
 ·cases h
  refine xH (l:=[]) (by simp) (fun hx => ?_)
  cases hx
  exact .sl0 _ _
 ·cases h
end Go.Abs
namespace Go.Abs
open Go Go.Proofs
set_option maxRecDepth 10000
attribute [local go_sem] cM ck bJ bH cL cq co aR bU bO ci cN bF opd avOf cvOf St.degAt St.put okPV dA okAV cZ cY cX cG aH if_true Bool.false_eq_true if_false Option.map_some Option.map_none Option.bind_some Option.bind_none dC dr upd List.toList_toArray cA steal bm mvB c8 cF cE AV.deg CV.deg AV.gv AV.isIter cy cj bK List.length_nil List.length_cons List.filterMap_cons List.filterMap_nil beq_iff_eq List.getElem?_cons_zero List.getElem?_cons_succ Option.getD_some Bool.false_and Bool.and_false Bool.and_self bZ cz bh lend back idx dedup AV.ren CV.ren TV.ren AV.ptrs CV.ptrs cH AV.flat CV.flat cf bQ aV cK cQ dM bW aM bX bc bv bR bd d8 CV.pv? content bo ownT aW reps pvs chunks bM leave dU cw cV bG bg TV.deg TV.av LK CV.plain CV.noBld cJ dX bound List.map_cons List.map_nil List.all_cons List.all_nil List.any_cons List.any_nil List.contains_cons List.contains_nil List.elem_cons List.elem_nil List.cons_append List.nil_append List.append_nil List.flatMap_cons List.flatMap_nil List.zip_cons_cons List.zip_nil_left List.zip_nil_right List.take_succ_cons List.take_zero List.take_nil List.drop_succ_cons List.drop_zero List.drop_nil List.isEmpty_nil List.isEmpty_cons Bool.and_true Bool.true_and Bool.or_true Bool.true_or Bool.or_false Bool.false_or Bool.not_true Bool.not_false Nat.add_zero Nat.zero_add Option.isNone_none Option.isNone_some Option.getD_none true_and and_true not_true_eq_false not_false_eq_true decide_true decide_false Nat.le_refl and_self Bool.not_eq_true Nat.sub_self or_true true_or Option.some.injEq List.length_map List.nil_eq and_false false_and AV.live CV.live CV.liveIn aX Option.orElse_some Option.orElse_none head a7 a6 Int.lt_irrefl List.length_append ite_self dz ce cO bu Key.clash Key.sees Key.writes Nat.lt_irrefl gt_iff_lt cg dc false_or or_false beq_self_eq_true Bool.true_beq Bool.false_beq
def keep0 (f r:Nat):List Nat×List Nat:=if f==230&&r==18 then ([1,45],[]) else if f==199&&r==38 then ([175],[]) else if f==199&&r==5 then ([0,7,8,9],[]) else ([],[])
def pr0 (f:Nat):Option Prim:=if f==179 then some gM else none
noncomputable def K0:Cfg := { P:=Tryz.prog,pr:=pr0,keep:=keep0,ownRet:=fun _=>false,good:=[230,235,199,220,179].contains,hook:=fun _ _=>false }
theorem jX (f:FuncId):K0.ownRet f=false:=rfl
theorem Jj (f i:Nat):K0.hook f i=false:=rfl
theorem region0 (f:FuncId) (id:Nat) (ops:Array Oper) (draw:Bool) (S:St):exL K0 f (.region id ops draw) S=aR K0 (den K0) ops.toList draw S:=bt f id ops draw S (Jj f id)
theorem K0_P:K0.P=Tryz.prog:=rfl
theorem mu (f r:Nat):K0.keep f r=keep0 f r:=rfl
theorem pk:keep0 230 18=([1,45],[]):=by decide
theorem sW:keep0 199 5=([0,7,8,9],[]):=by decide
theorem EI:K0.good 235=true:=rfl
theorem x7:K0.good 199=true:=rfl
theorem yZ:K0.good 220=true:=rfl
theorem rL:K0.good 179=true:=rfl
theorem jC:cP Tryz.prog 9=some .str:=by kernel_rfl
theorem Bu:cP Tryz.prog 21=some (.int .i32):=by kernel_rfl
theorem Hq:cP Tryz.prog 5=some (.int .u8):=by kernel_rfl
theorem lJ {f:FuncId} {fn:Func} {x:Code} {nt:Nat} {args:List AV} {bxs:List (List CV)} {r:Res} (hp:pr0 f=none) (hf:Tryz.prog.funcs[f]? = some fn) (hx:fn.body=some x) (hn:fn.ntmps=nt)
  (hl:args.length≤nt∧nt<LK) (h:(exL K0 f x (bM nt args bxs)).bind (fun r=>leave K0 f fn bxs.length (some r))=some r):den K0 f args bxs=some r:=by
 rw[vH (K:=K0) hp rfl hf hx,hn,if_pos hl]
 exact h
theorem Fa (n:Int):den K0 235 [.c (.pv (.int .i64 n))] []=some (.ret (.c (.pv (.bool (decide (8<n))))) []):=by
 refine lJ rfl Tryz.func235 rfl Tryz.ntmps235 ⟨by simp,by simp[LK]⟩ ?_
 have hr:Tryz.f235.results = #[.tmp 2]:=rfl
 simp only[go_sem,Nat.reduceLT,reduceCtorEq,Nat.reduceEqDiff,Nat.reduceAdd,region0,jX,K0_P,hr]
theorem um (s:List UInt8) (c:Int):den K0 179 [.c (.pv (.str s)),.c (.pv (.int .u8 c))] []=some (.ret (.c (.pv (.int .i64 (Lib.indexByte s c.toNat.toUInt8)))) []):=by
 rw[sE (K:=K0) (F:=gM) rfl]
 rfl
theorem Ap (r:Int):den K0 220 [.c (.pv (.int .i32 r))] []=some (.ret (.c (.pv (.bool (Utf8.valid r)))) []):=by
 refine lJ rfl Tryz.func220 rfl Tryz.ntmps220 ⟨by simp,by simp[LK]⟩ ?_
 have hr:Tryz.f220.results = #[.tmp 2]:=rfl
 have e:Utf8.valid r=((decide (0≤r)&&decide (r<55296))||(decide (57343<r)&&decide (r≤1114111))):=by
  unfold Utf8.valid
  have:decide (57344≤r)=decide (57343<r):=decide_eq_decide.2 (by omega)
  rw[←this]
 rw[e]
 cases b1:decide (0≤r)<;>cases b2:decide (r<55296)<;>cases b3:decide (57343<r)<;>cases b4:decide (r≤1114111)<;>simp only[go_sem,Nat.reduceLT,reduceCtorEq,Nat.reduceEqDiff,Nat.reduceAdd,region0,jX,K0_P,hr,b1,b2,b3,b4]
abbrev gA:List UInt8:=[10,12,13]
theorem GG:dW K0 40 199 [.c (.pv (.str gA)),.c (.pv (.int .i32 65533))] []=some (.ret (.c (.pv (.int .i64 (-1)))) []):=by kernel_rfl
theorem ua {c:UInt8} (h:128≤c.toNat) : ∀ l:List UInt8,(∀ b∈l,b.toNat<128)→Lib.indexByte l c = -1
 | [],_=>rfl
 | b::l,hl=>by
  have hb:(b==c)=false:=by
   rw[beq_eq_false_iff_ne];intro e;have:=hl b (by simp);rw[e] at this;omega
  rw[Lib.indexByte,hb,ua h l fun x hx=>hl x (by simp[hx])]
  rfl
set_option maxHeartbeats 4000000 in
set_option maxRecDepth 100000 in
theorem B8 (r:Int) (h:0≤r∧r≤2147483647):den K0 199 [.c (.pv (.str gA)),.c (.pv (.int .i32 r))] []=some (.ret (.c (.pv (.int .i64 (if r<128 then Lib.indexByte gA r.toNat.toUInt8 else -1)))) []):=by
 have hr:Tryz.f199.results = #[.tmp 4]:=rfl
 have h0:decide (0≤r)=true:=decide_eq_true h.1
 by_cases h1:r<128
 ·have d1:decide (r<128)=true:=decide_eq_true h1
  have w1:IntKind.u8.wrap r=r:=IntWalk.u8_in _ (by omega)
  have hb:=um gA r
  refine lJ rfl Tryz.func199 rfl Tryz.ntmps199 ⟨by simp,by simp[LK]⟩ ?_
  simp only[go_sem,Nat.reduceLT,reduceCtorEq,Nat.reduceEqDiff,Nat.reduceAdd,region0,jX,K0_P,hr,h0,h1,w1,hb,rL,dl Bu Hq]
 ·have d1:decide (r<128)=false:=decide_eq_false h1
  rw[if_neg h1]
  by_cases h2:r=65533
  ·subst h2
   exact nH.2 ⟨40,GG⟩
  ·have d2:(r==65533)=false:=by simpa using h2
   have hv:=Ap r
   refine lJ rfl Tryz.func199 rfl Tryz.ntmps199 ⟨by simp,by simp[LK]⟩ ?_
   cases h3:Utf8.valid r
   ·rw[h3] at hv
    simp only[go_sem,Nat.reduceLT,reduceCtorEq,Nat.reduceEqDiff,Nat.reduceAdd,region0,jX,K0_P,hr,h0,d1,d2,hv,yZ]
   ·rw[h3] at hv
    obtain ⟨e2,e4,elast⟩:=encode_facts r h3 (by omega)
    have hsz:(Utf8.encode r).size=(Utf8.encode r).data.toList.length:=Lib.size_eq _
    have hlast : ∃ c:UInt8,(Utf8.encode r).data.toList[(Utf8.encode r).data.toList.length - 1]? = some c∧128≤c.toNat:=by
     have hx:(Utf8.encode r).data.toList.length - 1<(Utf8.encode r).data.toList.length:=by omega
     refine ⟨_,List.getElem?_eq_getElem hx,?_⟩
     have:=elast (by rw[hsz];exact hx)
     have e:(Utf8.encode r)[(Utf8.encode r).size - 1]'(by rw[hsz];exact hx)=(Utf8.encode r).data.toList[(Utf8.encode r).data.toList.length - 1]'hx:=by
      simp only[hsz];rfl
     rw[e] at this
     exact this
    rw[hsz] at e2 e4
    clear elast hsz
    generalize ht:(Utf8.encode r).data.toList=t at e2 e4 hlast
    obtain ⟨c,hl,hc⟩:=hlast
    have hneg:decide ((-1:Int)<0)=true:=by decide
    have hcb:(c.toNat:Int).toNat.toUInt8=c:=by simp
    have hm : ∀ l:List UInt8,(∀ b∈l,b.toNat<128)→Lib.indexByte l c = -1:=fun l=>ua hc l
    have hy : ∀ l:List UInt8,(∀ b∈l,b.toNat<128)→den K0 179 [.c (.pv (.str l)),.c (.pv (.int .u8 c.toNat))] []=some (.ret (.c (.pv (.int .i64 (-1)))) []):=fun l hl=>by
     rw[um,hcb,hm l hl]
    have hne : ∀ b:UInt8,b.toNat<128→((b.toNat:Int) != (c.toNat:Int))=true:=fun b hb=>by rw[bne_iff_ne];omega
    have w1:IntKind.i64.wrap 1=1:=by decide
    have w2:IntKind.i64.wrap 2=2:=by decide
    have w3:IntKind.i64.wrap 3=3:=by decide
    have w4:IntKind.i64.wrap 4=4:=by decide
    have y1:=hy [13] (by decide)
    have y2:=hy [] (by simp)
    have n1:((12:Int)=(c.toNat:Int))=False:=eq_false (by omega)
    have n2:((13:Int)=(c.toNat:Int))=False:=eq_false (by omega)
    simp only[go_sem,Nat.reduceLT,reduceCtorEq,Nat.reduceEqDiff,Nat.reduceAdd,region0,jX,K0_P,hr,h0,d1,d2,hv,yZ,vt Bu jC,ht,aE jC]
    rw[aw]
    rcases t with _|⟨a,_|⟨b,_|⟨d,_|⟨e,_|⟨e',t⟩⟩⟩⟩⟩
    ·exact absurd e2 (by rw[List.length_nil];omega)
    ·exact absurd e2 (by rw[List.length_cons,List.length_nil];omega)
    ·
     obtain rfl:b=c:=by simpa using hl
     simp[go_sem,Nat.reduceLT,reduceCtorEq,Nat.reduceEqDiff,Nat.reduceAdd,region0,jX,mu,sW,K0_P,rL,aE jC,aZ jC,ar jC,w1,w2,y1,n1,reach,gA]
    ·
     obtain rfl:d=c:=by simpa using hl
     simp[go_sem,Nat.reduceLT,reduceCtorEq,Nat.reduceEqDiff,Nat.reduceAdd,region0,jX,mu,sW,K0_P,rL,aE jC,aZ jC,ar jC,w2,w3,y2,n2,reach,gA]
    ·
     obtain rfl:e=c:=by simpa using hl
     simp[go_sem,Nat.reduceLT,reduceCtorEq,Nat.reduceEqDiff,Nat.reduceAdd,region0,mu,sW,K0_P,aE jC,w3,gA]
    ·exact absurd e4 (by simp only[List.length_cons];omega)
theorem vN (s:ByteArray) (pos:Nat) (h:pos<s.size):pos+(Utf8.decode s pos).2≤s.size:=by
 simp only[Utf8.decode]
 repeat' split
 all_goals simp_all
 all_goals omega
theorem vf (s:ByteArray) (pos:Nat) (h:pos<s.size) (ha:128≤(s[pos]'h).toNat) : ∀ j,pos≤j→j<pos+(Utf8.decode s pos).2→128≤(s.get! j).toNat:=by
 have hn : ¬ (s[pos]'h).toNat<128:=by omega
 have h0:128≤(s.get! pos).toNat:=by have:=get_at s pos h;rw[Nat.add_zero] at this;rw[this];exact ha
 intro j h1 h2
 obtain ⟨k,rfl⟩ : ∃ k,j=pos+k:=⟨j - pos,by omega⟩
 have h3:k<(Utf8.decode s pos).2:=by omega
 clear h1 h2
 simp only[Utf8.decode,get_at s pos h,hn,if_false] at h3
 have key:k=0∨k=1∧(s.get! (pos+1)).toNat / 64=2∨k=2∧(s.get! (pos+2)).toNat / 64=2∨k=3∧(s.get! (pos+3)).toNat / 64=2:=by
  revert h3
  repeat' split
  all_goals simp_all
  all_goals omega
 rcases key with rfl|⟨rfl,e⟩|⟨rfl,e⟩|⟨rfl,e⟩
 ·exact h0
 all_goals omega
theorem uk (s:List UInt8) (pos:Nat) (h:pos<s.length) : ∃ (r wd:Nat),Utf8.decode ⟨s.toArray⟩ pos=(r,wd)∧1≤wd∧pos+wd≤s.length∧r≤2147483647 ∧
  ((r<128∧wd=1 ∧ ∃ b,s[pos]? = some b∧b.toNat=r)∨(128≤r ∧ ∀ j b,pos≤j→j<pos+wd→s[j]? = some b→128≤b.toNat)):=by
 have hs:(⟨s.toArray⟩:ByteArray).size=s.length:=by simp[ByteArray.size]
 have hp:pos<(⟨s.toArray⟩:ByteArray).size:=by rw[hs];exact h
 have hb:s[pos]? = some ((⟨s.toArray⟩:ByteArray)[pos]'hp):=by
  rw[List.getElem?_eq_getElem h];rfl
 have hw:=vN ⟨s.toArray⟩ pos hp
 have hle:=decode_le ⟨s.toArray⟩ pos
 rw[hs] at hw
 by_cases hc:((⟨s.toArray⟩:ByteArray)[pos]'hp).toNat<128
 ·have e:=decode_ascii ⟨s.toArray⟩ pos hp hc
  refine ⟨_,_,e,Nat.le_refl _,by omega,by omega,.inl ⟨hc,rfl,_,hb,rfl⟩⟩
 ·have e:=decode_high ⟨s.toArray⟩ pos hp (by omega)
  refine ⟨_,_,rfl,e.2,hw,hle,.inr ⟨e.1,fun j b h1 h2 hj => ?_⟩⟩
  have h3:=vf ⟨s.toArray⟩ pos hp (by omega) j h1 h2
  have h4:(⟨s.toArray⟩:ByteArray).get! j=b:=by
   have hlt:j<s.length:=(List.getElem?_eq_some_iff.1 hj).1
   have:=get_at ⟨s.toArray⟩ j (by rw[hs];exact hlt)
   rw[Nat.add_zero] at this
   rw[this]
   rw[List.getElem?_eq_getElem hlt] at hj
   exact Option.some.inj hj
  rw[h4] at h3
  exact h3
theorem zm {s chars:List UInt8} {i j:Nat} (h:Lib.NoAny s chars i) (h2 : ∀ k b,i≤k→k<j→s[k]? = some b→chars.contains b=false):Lib.NoAny s chars j:=fun k b hk hb=>by
 by_cases hki:k<i
 ·exact h k b hki hb
 ·exact h2 k b (by omega) hk hb
def gV (r:Nat):Code→Option Code
 | .loop a=>bif Nat.beq ((aX a).getD 0) r then some a else gV r a
 | .seq a b=>(gV r a).orElse fun _=>gV r b
 | .cond _ a b=>(gV r a).orElse fun _=>gV r b
 | .block _ a=>gV r a
 | .scope a=>gV r a
 | _=>none
def oD (fn:Func) (r:Nat):Code:=((fn.body.bind (gV r))).getD .skip
abbrev anyH (s:List UInt8) (i:Nat):St := { sl:=upd (upd bot 45 (.c (.iter s i))) 1 (.c (.pv (.str gA))),bx:=nobox,nt:=55 }
theorem D7 {b:UInt8} (h:128≤b.toNat):gA.contains b=false:=by
 cases hc:gA.contains b
 ·rfl
 ·have:b∈gA:=by simpa using hc
  have:b=10∨b=12∨b=13:=by simpa[gA] using this
  rcases this with rfl|rfl|rfl<;>exact absurd h (by decide)
theorem CY (s:List UInt8) (h8:s.length≤8) : ∀ (k i:Nat) (S:St),s.length - i≤k→i≤s.length→head ([1,45],[]) S=anyH s i→Lib.NoAny s gA i →
  Ends (exL K0 230 (.loop (oD Tryz.f230 18)) S) fun o S=>(o = .ret∧S.sl 4 = .c (.pv (.int .i64 (Lib.indexAny s gA)))∨Lib.indexAny s gA = -1∧o = .exit 2)∧S.nt=55:=by
 intro k
 induction k with
 | zero =>
  intro i S hk hi hS hno
  obtain rfl:i=s.length:=by omega
  have e:=Lib.indexAny_none hno
  conv in oD _ _=>whnf
  rw[aw]
  simp only[aX,Option.orElse_some,Option.getD_some,mu,pk,hS]
  simp only[go_sem,Nat.reduceLT,reduceCtorEq,Nat.reduceEqDiff,Nat.reduceBEq,Nat.reduceAdd,region0,ay,e]
 | succ k ih =>
  intro i S hk hi hS hno
  by_cases hlt:i<s.length
  case neg=>exact ih i S (by omega) hi hS hno
  obtain ⟨r,wd,hd,hw1,hw2,hr,hcase⟩:=uk s i hlt
  have hit:iK s i=i+wd:=by unfold iK;rw[hd]
  have hr0:(0:Int)≤(r:Int)∧(r:Int)≤2147483647:=by omega
  have hru:=B8 (r:Int) hr0
  obtain ⟨v,hv⟩ : ∃ v,(if (r:Int)<128 then Lib.indexByte gA (r:Int).toNat.toUInt8 else -1)=v:=⟨_,rfl⟩
  rw[hv] at hru
  have ih':=ih (i+wd)
  conv at ih' in oD _ _=>whnf
  conv in oD _ _=>whnf
  rw[aw]
  simp only[aX,Option.orElse_some,Option.getD_some,mu,pk,hS]
  cases hdec:decide (0≤v)
  ·have hno':Lib.NoAny s gA (i+wd):=by
    refine zm hno fun j b h1 h2 hj => ?_
    rcases hcase with ⟨hr1,rfl,b',hb',hbr⟩|⟨hr1,hall⟩
    ·obtain rfl:j=i:=by omega
     rw[hj] at hb'
     cases hb'
     rw[if_pos (by omega)] at hv
     have hback:((r:Int)).toNat.toUInt8=b:=by rw[←hbr];simp
     rw[hback] at hv
     rw[Lib.contains_iff_indexByte,hv,hdec]
    ·exact D7 (hall j b h1 h2 hj)
   simp only[go_sem,Nat.reduceLT,Nat.reduceEqDiff,Nat.reduceBEq,Nat.reduceAdd,region0,jX,x7,hlt,hd,hit,hru,hdec]
   refine ih' _ (by omega) hw2 ?_ hno'
   rfl
  ·have hgo:Lib.indexAny s gA=(i:Int):=by
    rcases hcase with ⟨hr1,rfl,b',hb',hbr⟩|⟨hr1,hall⟩
    ·rw[if_pos (by omega)] at hv
     have hback:((r:Int)).toNat.toUInt8=b':=by rw[←hbr];simp
     rw[hback] at hv
     exact Lib.indexAny_hit hno hb' (by rw[Lib.contains_iff_indexByte,hv,hdec])
    ·rw[if_neg (by omega)] at hv
     rw[←hv] at hdec
     cases hdec
   simp only[go_sem,Nat.reduceLT,reduceCtorEq,Nat.reduceEqDiff,Nat.reduceBEq,Nat.reduceAdd,region0,jX,x7,hlt,hd,hit,hru,hdec,ay,hgo]
theorem EH (s:List UInt8) (h8:s.length≤8):den K0 230 [.c (.pv (.str s)),.c (.pv (.str gA))] []=some (.ret (.c (.pv (.int .i64 (Lib.indexAny s gA)))) []):=by
 have hr:Tryz.f230.results = #[.tmp 4]:=rfl
 have hu:=Fa (s.length:Int)
 have h8d:decide ((8:Int)<(s.length:Int))=false:=decide_eq_false (by omega)
 rw[h8d] at hu
 have hloop:=CY s h8 s.length 0
 conv at hloop in oD _ _=>whnf
 refine lJ rfl Tryz.func230 rfl Tryz.ntmps230 ⟨by simp,by simp[LK]⟩ ?_
 have e0:(gA==[])=false:=by decide
 have e1:(((3:Nat):Int)==1)=false:=by decide
 simp only[go_sem,Nat.reduceLT,reduceCtorEq,Nat.reduceEqDiff,Nat.reduceBEq,Nat.reduceAdd,region0,jX,K0_P,EI,hr,hu,aE jC,jo jC,e0,e1]
 obtain ⟨o,S',e,hq,hn⟩:=hloop (anyH s 0) (by omega) (Nat.zero_le _) rfl (Lib.NoAny.zero _ _)
 rw[aw] at e ⊢
 simp only[aX,Option.orElse_some,Option.getD_some,mu,pk] at e ⊢
 rw[show head ([1,45],[]) (anyH s 0)=anyH s 0 from rfl] at e
 simp only[head,a7,a6,upd,AV.live,CV.live,reduceIte,Nat.reduceEqDiff]
 erw [e]
 rcases hq with ⟨rfl,hv⟩|⟨hv,rfl⟩
 ·simp only[go_sem,hv]
 ·simp only[go_sem,Nat.reduceLT,region0,hv,hn]
end Go.Abs
namespace Go.Abs
open Go Go.Proofs Go.RowKit
def km:Prim
 | [.c (.pv (.str s)),.c (.pv (.str p))],[]=>if p=[10,12,13]∧s.length<4294967281 then some (.c (.pv (.int .i64 (Lib.indexAny s p))),[]) else none
 | _,_=>none
def Ea (P:Program) (f:Nat):Bool :=
 match P.funcs[f]? with
 | some fn => fn.name != "runtime.NumGoroutine" && (match fn.body with | some c => fl (fun _ => false) c | none => false)
 | none=>false
theorem DE:[230,235,199,220,179].all (Ea Tryz.prog)=true:=by kernel_rfl
theorem Jc:Prog K0:=by
 refine ⟨by kernel_rfl,fun g hg => ?_,fun f F args bxs x _ hF hx => ?_,fun f F args bxs r call _ hF=>by cases hF⟩
 ·have h1:g∈[230,235,199,220,179]:=by simpa[K0] using hg
  have h2:=List.all_eq_true.1 DE g h1
  unfold Ea at h2
  split at h2
  ·rename_i fn hfn
   simp only[Bool.and_eq_true] at h2
   obtain ⟨h3,h4⟩:=h2
   split at h4
   ·rename_i c hc
    exact ⟨fn,c,hfn,by simpa using h3,hc,h4⟩
   ·cases h4
  ·cases h2
 ·have h2:pr0 f=some F:=hF
  unfold pr0 at h2
  split at h2
  ·rename_i hf
   cases h2
   have:f=179:=by simpa using hf
   subst this
   exact mU hx
  ·cases h2
theorem h116:(Tryz.prog.info? 161).map (fun i=>(i.zero,i.size))=some (some (.agg (Array.replicate 256 (.bool false))),256):=by kernel_rfl
theorem vI {args:List AV} {bxs:List (List CV)} {x:AV×List (List CV)} (h:km args bxs=some x):Contract Tryz.prog 230 args bxs (.ret x.1 x.2):=by
 unfold km at h
 split at h
 case h_2=>cases h
 rename_i s p
 split at h
 case isFalse=>cases h
 rename_i hs
 cases h
 obtain ⟨rfl,hs⟩:=hs
 by_cases h8:s.length≤8
 ·exact rz Jc (by rfl) (EH s h8)
 ·refine de fun G w cargs hw hargs => ?_
  obtain ⟨x,y,rfl,hx,hy⟩:=fC hargs
  cases hx.strv
  cases hy.strv
  have hsz:(⟨s.toArray⟩:ByteArray).size=s.length:=by simp[ByteArray.size]
  refine (Tryz.strings_IndexAny_long (zero_of_info h116).1 ⟨s.toArray⟩ ⟨([10,12,13]:List UInt8).toArray⟩ w (by decide) (by rw[hsz];omega) (by rw[hsz];exact hs) (by decide) ?_).mono ?_
  ·intro j b hb
   have:b∈([10,12,13]:List UInt8):=List.mem_of_getElem? hb
   have:b=10∨b=12∨b=13:=by simpa using this
   rcases this with rfl|rfl|rfl<;>decide
  ·rintro e w' ⟨rfl,rfl⟩
   exact ⟨_,rfl,.int _ _,((Below.refl _ _).alloc (Nat.le_refl _) _).alloc (by simp) _⟩
end Go.Abs
namespace Go.Abs
open Go Go.Proofs Go.RowKit
set_option maxRecDepth 100000 in
set_option maxHeartbeats 4000000 in
theorem lu (be:Nat) (older:List PanicEntry) (w:World) (y:Value) (te:TypeId) (h2:w.heap[be]? = some (.cells #[y] te (0,0))) :
  CallsD Tryz.prog 69 #[.pointer (some ⟨be,0,none⟩)] (.panicking ({ v := .iface 115 (.agg #[]),recovered:=false }::older)) w fun e u' w' =>
   e = .returned (.tuple #[])∧u' = .panicking ({ v := .iface 115 (.agg #[]),recovered:=true }::older) ∧
    w'=(w.alloc (.cells #[] 115)).setCell ⟨be,0,none⟩ (.int .i64 40):=by
 have hta : ∀ w:World,(Instr.typeAssert (.iface 115 (.agg #[])) 20 115 true).run Tryz.prog w = .ok (.tuple #[.agg #[],.bool true]) w:=fun _=>by kernel_rfl
 have k2:(w.alloc (.cells #[] 115)).heap[be]? = some (.cells #[y] te (0,0)):=(cd w _ be (Array.getElem?_eq_some_iff.1 h2).1).trans h2
 have c3:(w.alloc (.cells #[] 115)).cell? ⟨be,0,none⟩=some y:=bz k2 0
 have f3:=fq k2 0
 clear k2 h2
 refine callsD_of_wpS Tryz.func69 rfl fun c₀ cs hu => ?_
 apply wpS_seq
 apply wpS_region
 simp[wpOpsS,go_sem,recoverD,hu,Tryz.ntmps69,Exit.thenS]
 refine wpS_of_wp ?_
 go_wp2
 simp[bodyPostS,results,Tryz.results69]
theorem Al (pe:Addr) (w:World) :
  CallsD Tryz.prog 69 #[.pointer (some pe)] .returning w fun e u' w'=>e = .returned (.tuple #[])∧u' = .returning∧w'=w:=by
 refine callsD_of_wpS Tryz.func69 rfl fun c₀ cs hu => ?_
 apply wpS_seq
 apply wpS_region
 simp[wpOpsS,go_sem,recoverD,hu,Tryz.ntmps69,Exit.thenS]
 refine wpS_of_wp ?_
 go_wp2
 cases c₀
 simp_all [bodyPostS,results,Tryz.results69]
abbrev GK:Value := .iface 115 (.agg #[])
theorem uM (b:Bool) (w:World) :
  Calls Tryz.prog 40 #[.bool b] w fun e w'=>w'=w∧e=(if b then .returned (.tuple #[]) else .panicked [{ v:=GK,recovered:=false }]):=by
 go_enter Tryz.func40,Tryz.ntmps40
 cases b
 ·go_wp2
  rw[show (Instr.panic (.iface 115 (.agg #[]))).run Tryz.prog w = .halt (.panic (.iface 115 (.agg #[]))) w from rfl]
  simp only[Result.andThen]
  rw[Oper.upon_panic]
  exact ⟨rfl,by simp⟩
 ·go_wp2
  simp[bodyPost,results,Tryz.results40]
noncomputable def K0W:Cfg := { P:=Tryz.prog,pr:=fun _=>none,keep:=fun _ _=>([],[]),ownRet:=fun _=>false,good:=fun _=>false,hook:=fun _ _=>false }
abbrev rdS (x:Value):Obj := .cells #[x] 118
structure DoOut (b0:Nat) (Ret:Nat→World→World→Prop) (Pan:World→World→Prop) (w1:World) (e:Ending) (w2:World):Prop where
 e0:w2.heap[b0]? = some inE
 out:(∃ v a n c ty,e = .returned v∧w2.heap[w1.heap.size]? = some (.cells #[.slice a n c] ty (0,0))∧Ret n w1 w2)∨(e = .panicked [{ v:=GK,recovered:=false }]∧Pan w1 w2)
set_option maxRecDepth 100000 in
set_option maxHeartbeats 8000000 in
theorem rA (x : Value) (g : FuncId) (fn : Func) (hfn : Tryz.prog.funcs[g]? = some fn) (hnm : fn.name ≠ "runtime.NumGoroutine") (hbd : fn.body.isSome = true) (vs : List Value) (w : World)
  (Tr:Option Addr→Nat→Nat→World→Prop) (Ret:Nat→World→World→Prop) (Pan:World→World→Prop)
  (hT:Calls Tryz.prog 70 #[x] (w.alloc inE) fun e w1=>w1.heap[w.heap.size]? = some inE ∧ ∃ a n c,e = .returned (.slice a n c)∧Tr a n c w1)
  (hD : ∀ a n c w1,Tr a n c w1→w1.heap[w.heap.size]? = some inE→Calls Tryz.prog g (.pointer (some ⟨w1.heap.size,0,none⟩)::vs).toArray (w1.alloc (rdS (.slice a n c))) fun e w2=>DoOut w.heap.size Ret Pan w1 e w2) :
  Calls Tryz.prog 37 #[x,.func (.func g) #[] vs.toArray] w fun e w'' =>
   (∃ w1 w2,Ret 0 w1 w2∧e = .returned (.int .i64 0)∧w''=w2.setCell ⟨w.heap.size,0,none⟩ (.int .i64 0)) ∨
   (∃ n w1 w2,Ret n w1 w2∧n≠0∧e = .returned (.int .i64 40)∧w''=(w2.alloc (.cells #[] 115)).setCell ⟨w.heap.size,0,none⟩ (.int .i64 40)) ∨
   (∃ w1 w2,Pan w1 w2∧e = .returned (.int .i64 40)∧w''=(w2.alloc (.cells #[] 115)).setCell ⟨w.heap.size,0,none⟩ (.int .i64 40)):=by
 have hmf : ∀ (fn:Fn) (first cap:Array Value) (w:World),(Instr.makeFunc fn first cap).run Tryz.prog w = .ok (.func fn first cap) w:=fun _ _ _ _=>rfl
 go_enter_defers Tryz.func37,Tryz.ntmps37
 have hcf : ∀ (args:Array Value) (w:World),(callFunc g args).run Tryz.prog w = .ok (.enter g args) w:=fun args w=>nV (K:=K0W) hfn hnm hbd
 go_wp2_with (go_at_call 70;refine hT.mono ?_)
 rintro e w1 ⟨k0,ya,yn,yc,rfl,hy⟩
 have hDD:=hD ya yn yc w1 hy k0
 go_wp2_with (refine hDD.mono ?_)
 rintro e w2 ⟨e0,⟨v,ra,rn,rc,ty,rfl,hr0,hR⟩|⟨rfl,hP⟩⟩
 ·have c1:w2.cell? ⟨w1.heap.size,0,none⟩=some (.slice ra rn rc):=bz hr0 0
  have c0:w2.cell? ⟨w.heap.size,0,none⟩=some (.int .i64 0):=bz e0 0
  have f0:=fq e0 0
  by_cases hn:rn=0
  ·subst hn
   have hm:=uM true w2
   go_wp2_with (go_at_call 40;refine hm.mono ?_)
   refine leaves_cons (f:=69) (args := #[.pointer (some ⟨w.heap.size,0,none⟩)]) (by simp) (by simp[go_sem]) ?_
   refine (Al _ _).mono ?_
   rintro e u' w'' ⟨rfl,rfl,rfl⟩
   have e2:(w2.setCell ⟨w.heap.size,0,none⟩ (.int .i64 0)).cell? ⟨w.heap.size,0,none⟩=some (.int .i64 0):=World.cell?_setCell_same _ _ _ c0
   refine ⟨.int .i64 0,?_,.inl ⟨w1,w2,hR,rfl,rfl⟩⟩
   simp[results,Tryz.results37,go_sem,e2]
  ·have hne:((rn:Int)==0)=false:=by rw[beq_eq_false_iff_ne];omega
   have hm:=uM false w2
   go_wp2_with (go_at_call 40;refine hm.mono ?_)
   refine leaves_cons (f:=69) (args := #[.pointer (some ⟨w.heap.size,0,none⟩)]) (by simp) (by simp[go_sem]) ?_
   refine (lu _ [] _ _ _ e0).mono ?_
   rintro e u' w'' ⟨rfl,rfl,rfl⟩
   have g2:(w2.alloc (.cells #[] 115)).heap[w.heap.size]? = some inE:=(cd w2 _ _ (Array.getElem?_eq_some_iff.1 e0).1).trans e0
   have d3:(w2.alloc (.cells #[] 115)).cell? ⟨w.heap.size,0,none⟩=some (.int .i64 0):=bz g2 0
   have e2:((w2.alloc (.cells #[] 115)).setCell ⟨w.heap.size,0,none⟩ (.int .i64 40)).cell? ⟨w.heap.size,0,none⟩=some (.int .i64 40):=World.cell?_setCell_same _ _ _ d3
   refine ⟨.int .i64 40,?_,.inr (.inl ⟨rn,w1,w2,hR,hn,rfl,rfl⟩)⟩
   simp[results,Tryz.results37,go_sem,e2]
 ·go_wp2
  refine leaves_cons (f:=69) (args := #[.pointer (some ⟨w.heap.size,0,none⟩)]) (by simp) (by simp[go_sem]) ?_
  refine (lu _ [] _ _ _ e0).mono ?_
  rintro e u' w'' ⟨rfl,rfl,rfl⟩
  have g2:(w2.alloc (.cells #[] 115)).heap[w.heap.size]? = some inE:=(cd w2 _ _ (Array.getElem?_eq_some_iff.1 e0).1).trans e0
  have d3:(w2.alloc (.cells #[] 115)).cell? ⟨w.heap.size,0,none⟩=some (.int .i64 0):=bz g2 0
  have e2:((w2.alloc (.cells #[] 115)).setCell ⟨w.heap.size,0,none⟩ (.int .i64 40)).cell? ⟨w.heap.size,0,none⟩=some (.int .i64 40):=World.cell?_setCell_same _ _ _ d3
  refine ⟨.int .i64 40,?_,.inr (.inr ⟨w1,w2,hP,rfl,rfl⟩)⟩
  simp[results,Tryz.results37,go_sem,e2]
end Go.Abs
namespace Go.Abs
open Go Go.Proofs Go.RowKit
def ik:Nat→List (List CV)→List Nat
 | _,[]=>[]
 | k,_::l=>k::ik (k+1) l
theorem Gq : ∀ {l:List (List CV)} {k i:Nat},i<l.length→(ik k l)[i]? = some (k+i)
 | [],_,_,h=>by simp at h
 | _::l,k,0,_=>by simp[ik]
 | _::l,k,i+1,h=>by
  rw[ik,List.getElem?_cons_succ,Gq (by simpa using h)]
  congr 1
  omega
theorem z6 : ∀ {l:List (List CV)} {k s:Nat},s∈ik k l→k≤s
 | [],_,_,h=>by cases h
 | _::l,k,s,h=>by
  rw[ik] at h
  rcases List.mem_cons.1 h with rfl|h
  ·exact Nat.le_refl _
  ·have:=z6 h;omega
theorem wF : ∀ (l:List (List CV)) (k:Nat),(ik k l).Nodup
 | [],_=>List.nodup_nil
 | _::l,k=>by
  rw[ik]
  exact List.nodup_cons.2 ⟨fun h=>by have:=z6 h;omega,wF l (k+1)⟩
theorem EG : ∀ (l:List (List CV)) (k:Nat),(ik k l).length=l.length
 | [],_=>rfl
 | _::l,k=>by rw[ik,List.length_cons,EG l (k+1),List.length_cons]
theorem w8 {bx:Nat→Option (List CV)} : ∀ (l:List (List CV)) (k:Nat),(∀ i c,l[i]? = some c→bx (k+i)=some c)→bh bx (ik k l)=some l
 | [],_,_=>rfl
 | c::l,k,h=>by
  have h0:=h 0 c rfl
  have h1:=w8 (bx:=bx) l (k+1) fun i d hd=>by
   have:=h (i+1) d (by simpa using hd)
   rw[show k+1+i=k+(i+1) by omega];exact this
  rw[ik,bh,show bx k=some c from h0,h1]
def c9 (bxs:List (List CV)):List Nat:=0::ik LK bxs
def jD (bxs bs:List (List CV)):List (List CV):=bs.map fun b=>(b.map (CV.ren (back (c9 bxs)))).map (CV.ren bg)
def fx (good:FuncId→Bool):List AV→List (List CV)→Plan
 | [.c (.pv (.sl c)),.c (.fn g caps)],bxs =>
  .call 70 [.c (.pv (.sl c))] [] fun r=>match r with
   | .ret (.c (.pv (.sl t))) [] =>
    if good g then
     .call g ((AV.c (.loc 0 0)::caps.map fun x=>AV.c (.loc x.1 x.2)).map fun a=>(a.deg).ren (lend (c9 bxs))) (([.pv (.sl t)]::bxs).map fun b=>b.map (CV.ren (lend (c9 bxs)))) fun r2=>match r2 with
      | .ret _ ([v]::bs)=>(match v.pv? with
       | some (.sl m) => .done (.ret (.c (.pv (.int .i64 (if m.isEmpty then 0 else 40)))) (jD bxs bs))
       | _ => .fail)
      | .pan (.pv (.ifa x [])) (_::bs)=>if x=115 then .done (.ret (.c (.pv (.int .i64 40))) (jD bxs bs)) else .fail
      | _ => .fail
    else .fail
   | _ => .fail
 | _,_ => .fail
section
variable {G G1 G3:Gh} {w w1 w2 w'':World}
theorem Kc {o:Obj} (hw:WI G w) {dd:Nat} (hd:dd<LK) (hbb:G.bb dd=none):Gr (fun _=>False) G w (G.box dd w.heap.size) (w.alloc o):=by
 refine ⟨⟨fun _ _ _ h=>h,fun c hc ho=>⟨?_,cd w _ c hc,fun _=>rfl⟩,by rw[bw];omega,rfl,rfl,rfl,fun k hk => ?_⟩,fun s b hb => ?_,fun b ℓ hb _=>⟨?_,cd w _ b (fM hw hb),fun _=>rfl⟩⟩
 ·show upd G.ow w.heap.size _ c=none
  unfold upd;rw[if_neg (by omega)];exact ho
 ·show upd G.bb dd _ k=_
  unfold upd;rw[if_neg (by omega)]
 ·show upd G.bb dd _ s=_
  unfold upd;rw[if_neg (fun e=>by rw[e,hbb] at hb;cases hb)];exact hb
 ·show upd G.ow w.heap.size _ b=_
  have:=fM hw hb
  unfold upd;rw[if_neg (by omega)];exact hb
structure WFin (G:Gh) (w:World) (bs:List (List CV)) (G3:Gh) (w2:World):Prop where
 ext:Ext G w G3 w2
 wi:WI G3 w2
 ow:G3.ow w.heap.size=none
 no : ∀ o,G3.I w.heap.size o=none
 lt:w.heap.size<w2.heap.size
 box : ∀ (i:Nat) (l:List CV),bs[i]? = some l→BoxR G3 w2 (LK+i) l
theorem Ep {bs:List (List CV)} (hw:WI G w) (hbb : ∀ s b,G.bb s=some b→LK≤s) (h:WFin G w bs G3 w2)
  (hs:w2.heap.size≤w''.heap.size) (ho:w''.os=w2.os) (hp:w''.output=w2.output) (ht:w''.tape=w2.tape) (hh : ∀ b,b<w2.heap.size→b≠w.heap.size→w''.heap[b]? = w2.heap[b]?) :
  Ext G w { G3 with bb:=G.bb } w''∧WI { G3 with bb:=G.bb } w'' ∧ ∀ (i:Nat) (l:List CV),(bs.map fun b=>b.map (CV.ren bg))[i]? = some l→BoxR { G3 with bb:=G.bb } w'' (LK+i) l:=by
 have hlent : ∀ k,LK≤k→G3.bb k=G.bb k:=h.ext.lent
 have hold : ∀ b,b<w.heap.size→G.ow b=none→G3.ow b=none∧w''.heap[b]? = w.heap[b]? ∧ ∀ o,G3.I b o=G.I b o:=fun b hb hn=>by
  have h3:=h.ext.old b hb hn
  have:=h.ext.size
  exact ⟨h3.1,(hh b (by omega) (by omega)).trans h3.2.1,h3.2.2⟩
 have how : ∀ b ℓ,G3.ow b=some ℓ→w''.heap[b]? = w2.heap[b]? := fun b ℓ hb=>by
  refine hh b (fM h.wi hb) fun e => ?_
  rw[e,h.ow] at hb;cases hb
 have hsz:=h.ext.size
 refine ⟨⟨h.ext.I,hold,by omega,ho.trans h.ext.os,hp.trans h.ext.output,ht.trans h.ext.tape,fun _ _=>rfl⟩,⟨fun b o y hI => ?_,fun b hb=>h.wi.fresh b (by omega),h.wi.boxI,fun s b hb => ?_,hw.tab.map fun b hb hn=>⟨(hold b hb hn).1,(hold b hb hn).2.1⟩⟩,fun i l hl => ?_⟩
 ·have h1:G3.I b o=some y:=hI
  have e:w''.heap[b]? = w2.heap[b]? := hh b (I_lt h.wi h1) (fun e=>by rw[e,h.no] at h1;cases h1)
  have:=h.wi.cell b o y h1
  unfold World.cell? at this ⊢
  rw[e]
  exact this
 ·have hb':G.bb s=some b:=hb
  exact h.wi.bbow s b (by rw[hlent s (hbb s b hb')];exact hb')
 ·rw[List.getElem?_map,Option.map_eq_some_iff] at hl
  obtain ⟨l0,hl0,rfl⟩:=hl
  obtain ⟨b,cs,ty,h1,h2,h3,h4⟩:=h.box i l0 hl0
  have hb3:=h.wi.bbow _ b h1
  refine ⟨b,cs,ty,?_,(how b _ hb3).trans h2,⟨by simpa using h3.1,h3.2.map (fun v e=>qJ e)⟩,fun k u hu => ?_⟩
  ·show G.bb (LK+i)=some b
   rw[←hlent (LK+i) (by omega)];exact h1
  ·rw[List.getElem?_map,Option.map_eq_some_iff] at hu
   obtain ⟨u',hu',rfl⟩:=hu
   obtain ⟨y,h5,h6⟩:=h4 k u' hu'
   refine ⟨y,h5,?_⟩
   by_cases hpl:u'.plain=true
   ·refine .of_RN (RN.ren (G:=G3) (G1 := { G3 with bb:=G.bb }) (fun _ _ _ h=>h) (fun s k b hs hb => ?_) (h6.to_RN hpl))
    unfold bg at hs
    split at hs
    ·rename_i hk
     cases hs
     show G.bb s=some b
     rw[←hlent s hk];exact hb
    ·cases hs
   ·cases u'<;>simp[CV.plain] at hpl
    case iter s2 pos=>exact IterAt.one h6
    case cmap es =>
     obtain ⟨b',clock,k1,k2,k3⟩:=(h6:MapAt G3 w2 _ es y)
     exact ⟨b',clock,k1,k2,(how b' _ k2).trans k3⟩
    rename_i e c
    have h7:OwnAt G3 w2 (.cell (LK+i) k) e c y:=h6
    show OwnAt { G3 with bb:=G.bb } w'' (.cell (LK+i) k) e c y
    rcases h7 with ⟨h7,ad,h8,h9⟩|⟨hne,b',cap,cur,sz,k1,k2,k3,k4⟩
    ·exact .inl ⟨h7,ad,h8,h9.map fun b' hb'=>⟨hb',how b' _ hb'⟩⟩
    ·exact .inr ⟨hne,b',cap,cur,sz,k1,k2,(how b' _ k2).trans k3,k4⟩
theorem GY {ℓ:Own} {v:CV} {x:Value} {m:List (List PV)} (h:RC G w ℓ v x) (hv:v.pv? = some (.sl m)) : ∃ a c,x = .slice a m.length c:=by
 cases v<;>simp only[CV.pv?] at hv<;>try cases hv
 ·obtain ⟨a,cap,rfl,_⟩:=RP.slice_inv (show RP G.I (.sl m) x from h)
  exact ⟨a,cap,rfl⟩
 ·obtain ⟨a,cap,rfl,_⟩:=RP.slice_inv (OwnAt.rp (show OwnAt G w ℓ _ m x from h))
  exact ⟨a,cap,rfl⟩
 ·have:x = .slice none 0 0:=h
  exact ⟨none,0,this⟩
 ·obtain ⟨a,cap,rfl,_⟩:=RP.slice_inv (show RP G.I (.sl m) x from h.1)
  exact ⟨a,cap,rfl⟩
theorem JA {g:Nat→Option Nat} {v:CV} {p:PV} (hv:v.pv? = some p):v.ren g=v:=by
 cases v<;>simp only[CV.pv?] at hv<;>first|rfl|cases hv
end
theorem B2 {good:FuncId→Bool} {call:CallF} {args:List AV} {bxs:List (List CV)} {r:Res} (h:(fx good args bxs).run call=some r) :
    ∃ (c:List (List PV)) (g:FuncId) (caps:List (Nat×Nat)) (t:List (List PV)) (r2:Res),args=[.c (.pv (.sl c)),.c (.fn g caps)]∧good g=true ∧
      call 70 [.c (.pv (.sl c))] []=some (.ret (.c (.pv (.sl t))) []) ∧
      call g ((AV.c (.loc 0 0)::caps.map fun x=>AV.c (.loc x.1 x.2)).map fun a=>(a.deg).ren (lend (c9 bxs))) (([.pv (.sl t)]::bxs).map fun b=>b.map (CV.ren (lend (c9 bxs))))=some r2 ∧
      ((∃ u v bs m,r2 = .ret u ([v]::bs)∧v.pv? = some (.sl m)∧r = .ret (.c (.pv (.int .i64 (if m.isEmpty then 0 else 40)))) (jD bxs bs)) ∨
       (∃ b bs,r2 = .pan (.pv (.ifa 115 [])) (b::bs)∧r = .ret (.c (.pv (.int .i64 40))) (jD bxs bs))):=by
  unfold fx at h
  split at h
  case h_2=>simp[Plan.run] at h
  rename_i c g caps
  rw[Plan.run] at h
  split at h
  case h_2=>cases h
  rename_i r1 hr1
  split at h
  case h_2=>simp[Plan.run] at h
  rename_i t
  split at h
  case isFalse=>simp[Plan.run] at h
  rename_i hg
  rw[Plan.run] at h
  split at h
  case h_2=>cases h
  rename_i r2 hr2
  refine ⟨c,g,caps,t,r2,rfl,hg,hr1,hr2,?_⟩
  split at h
  · rename_i u v bs
    split at h
    · rename_i m hm
      simp only[Plan.run,Option.some.injEq] at h
      exact .inl ⟨u,v,bs,m,rfl,hm,h.symm⟩
    · simp[Plan.run] at h
  · rename_i x b bs
    split at h
    · rename_i hx
      subst hx
      simp only[Plan.run,Option.some.injEq] at h
      exact .inr ⟨b,bs,rfl,h.symm⟩
    · simp[Plan.run] at h
  · simp[Plan.run] at h
set_option maxHeartbeats 4000000 in
/-- THE CONTRACT -/
theorem GB {good : FuncId → Bool} (hgd : ∀ g, good g = true → ∃ fn, Tryz.prog.funcs[g]? = some fn ∧ fn.name ≠ "runtime.NumGoroutine" ∧ fn.body.isSome = true) (hT : good 70 = true) {call : CallF}
  (hc : ∀ g args bxs r,good g=true→call g args bxs=some r→Contract Tryz.prog g args bxs r) {args:List AV} {bxs:List (List CV)} {r:Res} (h:(fx good args bxs).run call=some r) :
  Contract Tryz.prog 37 args bxs r:=by
 obtain ⟨c,g,caps,t,r2,rfl,hg,hr1,hr2,hfin⟩:=B2 h
 intro G w cargs hw hargs hno hb hbb
 obtain ⟨x,y,rfl,hx,hy⟩:=fC hargs
 obtain ⟨vs,rfl,hcaps⟩ : ∃ vs:List Value,y = .func (.func g) #[] vs.toArray∧All2 (fun (c:Nat×Nat) (v:Value) => ∃ b,G.bb c.1=some b∧v=Value.pointer (some ⟨b,c.2,none⟩)) caps vs:=hy
 obtain ⟨fn,hfn,hnm,hbd⟩:=hgd g hg
 have hge : ∀ s b,G.bb s=some b→LK≤s:=fun s b e=>by
  obtain ⟨i,_,rfl⟩:=hbb s b e
  omega
 have hn0:G.bb 0=none:=by
  cases e:G.bb 0 with
  | none=>rfl
  | some b=>have:=hge 0 b e;unfold LK at this;omega
 obtain ⟨g0,hw0⟩:=g8 (w':=w.alloc inE) hw ((Below.refl _ _).alloc (Nat.le_refl _) _)
 have hs0:(w.alloc inE).heap.size=w.heap.size+1:=bw w _
 have hE : ∀ {G1:Gh} {w1:World},Ext G (w.alloc inE) G1 w1→w1.heap[w.heap.size]? = some inE∧G1.ow w.heap.size=none∧(∀ o,G1.I w.heap.size o=none)∧w.heap.size<w1.heap.size:=fun {G1 w1} hx=>by
  have h1:=hx.old w.heap.size (by rw[hs0];omega) (hw.fresh _ (Nat.le_refl _)).2
  have h2:=hx.size
  rw[hs0] at h2
  exact ⟨h1.2.1.trans (heap_alloc_new w _),h1.1,fun o=>(h1.2.2 o).trans ((hw.fresh _ (Nat.le_refl _)).1 o),by omega⟩
 let bx0:Nat→Option (List CV):=fun k=>if LK≤k then bxs[k - LK]? else none
 have hbx0 : ∀ s l,bx0 s=some l→LK≤s∧bxs[s - LK]? = some l:=fun s l e=>by
  simp only[bx0] at e
  split at e
  ·rename_i hk;exact ⟨hk,e⟩
  ·cases e
 have hbox0 : ∀ s l,bx0 s=some l→BoxR G w s l:=fun s l e=>by
  obtain ⟨h1,h2⟩:=hbx0 s l e
  have:=hb (s - LK) l h2
  rw[show LK+(s - LK)=s by omega] at this
  exact this
 have hf0:FR G (w.alloc inE) { sl:=bot,bx:=bx0,nt:=0 } { tmps := #[],defers:=[] } :=
  ⟨rfl,fun _=>trivial,fun s l e=>(hbox0 s l e).gr hw g0 (fun h=>h) (fun _ h=>h),fun s e hlt=>by
   cases hq:G.bb s with
   | none=>rfl
   | some b=>have:=hge s b hq;omega⟩
 have hcT:Contract Tryz.prog 70 ([AV.c (.pv (.sl c))].map fun a=>(a.deg).ren (lend [])) (([]:List (List CV)).map fun c=>c.map (CV.ren (lend []))) (.ret (.c (.pv (.sl t))) []):=hc _ _ _ _ hT hr1
 have hTr:=mn (L:=[]) (o := .ret) List.nodup_nil hf0 hw0 (fun s e=>by cases e) rfl (.cons ⟨.ret,RA.gr_plain (ℓ' := .ret) hx g0 rfl⟩ .nil:All2 (fun v x => ∃ ℓ,RA G (w.alloc inE) ℓ v x) [AV.c (.pv (.sl c))] [x]) hcT
 let Tr:Option Addr→Nat→Nat→World→Prop:=fun a n cc w1 => ∃ G1,Gr (o6 []) G (w.alloc inE) G1 w1∧WI G1 w1∧G1.bb=G.bb∧RP G1.I (.sl t) (.slice a n cc)
 have hT':Calls Tryz.prog 70 #[x] (w.alloc inE) fun e w1=>w1.heap[w.heap.size]? = some inE ∧ ∃ a n cc,e = .returned (.slice a n cc)∧Tr a n cc w1:=by
  refine hTr.mono ?_
  rintro e w1 ⟨G1,g1,hw1,hbb1,z,rfl,hz,_⟩
  have hz':RP G1.I (.sl t) z:=hz
  obtain ⟨a,cap,rfl,_⟩:=hz'.slice_inv
  exact ⟨(hE g1.ext).1,a,_,cap,rfl,G1,g1,hw1,hbb1,hz'⟩
 have hD : ∀ a n cc w1,Tr a n cc w1→Calls Tryz.prog g (.pointer (some ⟨w1.heap.size,0,none⟩)::vs).toArray (w1.alloc (rdS (.slice a n cc))) fun e w2 => ∃ G3,Ext G (w.alloc inE) G3 w2∧WI G3 w2∧G3.bb 0=some w1.heap.size ∧
   match r2 with
   | .ret u cs => ∃ z,e = .returned z∧cs.length=(c9 bxs).length ∧ ∀ (i s:Nat) (l:List CV),(c9 bxs)[i]? = some s→cs[i]? = some l→BoxR G3 w2 s (l.map (CV.ren (back (c9 bxs))))
   | .pan u cs => ∃ z,e = .panicked [{ v:=z,recovered:=false }]∧RN G3 (u.ren (back (c9 bxs))) z∧cs.length=(c9 bxs).length ∧ ∀ (i s:Nat) (l:List CV),(c9 bxs)[i]? = some s→cs[i]? = some l→BoxR G3 w2 s (l.map (CV.ren (back (c9 bxs)))):=by
  rintro a n cc w1 ⟨G1,g1,hw1,hbb1,hz⟩
  have hno1:G1.bb 0=none:=by rw[hbb1];exact hn0
  have g2:=Kc (o:=rdS (.slice a n cc)) hw1 (dd:=0) (by unfold LK;omega) hno1
  have hw2:=GI (o:=rdS (.slice a n cc)) hw1 hno1
  have hbb2:(G1.box 0 w1.heap.size).bb 0=some w1.heap.size:=by simp[Gh.box,upd]
  have hbbs : ∀ s,s≠0→(G1.box 0 w1.heap.size).bb s=G.bb s:=fun s hs=>by
   show upd G1.bb 0 _ s=_
   unfold upd
   rw[if_neg hs,hbb1]
  have hf2:FR (G1.box 0 w1.heap.size) (w1.alloc (rdS (.slice a n cc))) { sl:=bot,bx:=upd bx0 0 (some [.pv (.sl t)]),nt:=0 } { tmps := #[],defers:=[] }:=by
   refine ⟨rfl,fun _=>trivial,fun s l e => ?_,fun s e hlt => ?_⟩
   ·have e':upd bx0 0 (some [.pv (.sl t)]) s=some l:=e
    unfold upd at e'
    split at e'
    ·rename_i hs
     subst hs
     cases e'
     refine ⟨w1.heap.size,_,_,hbb2,heap_alloc_new w1 _,⟨rfl,fun e=>by simp at e⟩,fun k v hk => ?_⟩
     match k with
     | 0 =>
      simp only[List.getElem?_cons_zero,Option.some.injEq] at hk
      subst hk
      exact ⟨_,rfl,hz⟩
     | k+1=>simp at hk
    ·have h1:=((hbox0 s l e').gr hw g0 (fun h=>h) (fun _ h=>h)).gr hw0 g1 (fun ⟨_,hm,_⟩=>by cases hm) (fun _ ⟨_,hm,_⟩=>by cases hm)
     exact h1.gr hw1 g2 (fun h=>h) (fun _ h=>h)
   ·have e':upd bx0 0 (some [.pv (.sl t)]) s=none:=e
    unfold upd at e'
    split at e'
    ·cases e'
    ·rename_i hs
     rw[hbbs s hs]
     cases hq:G.bb s with
     | none=>rfl
     | some b=>have:=hge s b hq;omega
  have hnd:(c9 bxs).Nodup:=List.nodup_cons.2 ⟨fun hm=>by have:=z6 hm;unfold LK at this;omega,wF bxs LK⟩
  have hgB:bh (upd bx0 0 (some [.pv (.sl t)])) (c9 bxs)=some ([.pv (.sl t)]::bxs):=by
   unfold c9
   rw[bh,show upd bx0 0 (some [CV.pv (.sl t)]) 0=some [CV.pv (.sl t)] by simp[upd],w8 bxs LK fun i c hi=>by
    show upd bx0 0 _ (LK+i)=_
    unfold upd
    rw[if_neg (by unfold LK;omega)]
    simp only[bx0]
    rw[if_pos (by omega),Nat.add_sub_cancel_left]
    exact hi]
  have hargs2:All2 (fun v x => ∃ ℓ,RA (G1.box 0 w1.heap.size) (w1.alloc (rdS (.slice a n cc))) ℓ v x) (AV.c (.loc 0 0)::caps.map fun x=>AV.c (.loc x.1 x.2)) (.pointer (some ⟨w1.heap.size,0,none⟩)::vs) :=
   .cons ⟨.ret,w1.heap.size,hbb2,rfl⟩ (All2.eT (hcaps.imp fun cp v _ ⟨b,h1,h2⟩=>⟨.ret,b,(hbbs cp.1 (fun e=>by rw[e,hn0] at h1;cases h1)).trans h1,h2⟩))
  refine (mn (o := .ret) hnd hf2 hw2 (fun s e=>by cases e) hgB hargs2 (hc g _ _ r2 hg hr2)).mono ?_
  rintro e w2 ⟨G3,g3,hw3,hbb3,hq⟩
  refine ⟨G3,g1.ext.trans (g2.ext.trans g3.ext),hw3,by rw[hbb3];exact hbb2,?_⟩
  cases r2 with
  | ret u cs =>
   obtain ⟨z,h1,_,h3,h4⟩:=hq
   exact ⟨z,h1,h3,h4⟩
  | pan u cs=>exact hq
 have hlk : ∀ i,i<bxs.length→(c9 bxs)[i+1]? = some (LK+i):=fun i hi=>by
  unfold c9
  rw[List.getElem?_cons_succ,Gq hi]
 have hll:(c9 bxs).length=bxs.length+1:=by unfold c9;rw[List.length_cons,EG]
 have hbs : ∀ {bs:List (List CV)} {G3:Gh} {w2:World},bs.length=bxs.length→Ext G (w.alloc inE) G3 w2→WI G3 w2→(∀ (i:Nat) (l:List CV),i<bxs.length→bs[i]? = some l→BoxR G3 w2 (LK+i) (l.map (CV.ren (back (c9 bxs))))) →
   WFin G w (bs.map fun b=>b.map (CV.ren (back (c9 bxs)))) G3 w2:=fun {bs G3 w2} hln hx hwi hbo=>by
  obtain ⟨_,h2,h3,h4⟩:=hE hx
  refine ⟨g0.ext.trans hx,hwi,h2,h3,h4,fun i l hl => ?_⟩
  rw[List.getElem?_map,Option.map_eq_some_iff] at hl
  obtain ⟨l0,hl0,rfl⟩:=hl
  exact hbo i l0 (by rw[←hln];exact (List.getElem?_eq_some_iff.1 hl0).1) hl0
 have hwB : ∀ bs:List (List CV),jD bxs bs=(bs.map fun b=>b.map (CV.ren (back (c9 bxs)))).map fun b=>b.map (CV.ren bg):=fun bs=>by
  unfold jD
  rw[List.map_map];rfl
 rcases hfin with ⟨u,v,bs,m,rfl,hm,rfl⟩|⟨b,bs,rfl,rfl⟩
 ·let Rt:Nat→World→World→Prop:=fun n _ w2=>n=m.length∧bs.length=bxs.length ∧ ∃ G3,WFin G w (bs.map fun b=>b.map (CV.ren (back (c9 bxs)))) G3 w2
  have hW:=rA x g fn hfn hnm hbd vs w Tr Rt (fun _ _=>False) hT' (fun a n cc w1 hTr1 k0=>by
   refine (hD a n cc w1 hTr1).mono ?_
   rintro e w2 ⟨G3,hx3,hw3,hb3,z,rfl,hln,hbo⟩
   rw[List.length_cons,hll] at hln
   obtain ⟨b',cs,ty,e1,e2,⟨e3,_⟩,e4⟩:=hbo 0 0 [v] rfl rfl
   rw[hb3] at e1
   cases e1
   obtain ⟨zz,e5,e6⟩:=e4 0 (v.ren (back (c9 bxs))) rfl
   rw[JA hm] at e6
   obtain ⟨ra,rc,rfl⟩:=GY e6 hm
   have ecs:cs = #[.slice ra m.length rc]:=by
    have hsz:cs.size=1:=by simpa using e3
    apply Array.ext
    ·simpa using hsz
    ·intro i h1 h2
     have hi:i=0:=by omega
     subst hi
     rw[Array.getElem?_eq_getElem h1] at e5
     simpa using e5
   subst ecs
   exact ⟨(hE hx3).1,.inl ⟨z,ra,m.length,rc,ty,rfl,e2,rfl,by omega,G3,hbs (by omega) hx3 hw3 fun i l hi hl=>hbo (i+1) (LK+i) l (hlk i hi) (by simpa using hl)⟩⟩)
  refine hW.mono ?_
  have fin : ∀ {w2 w'':World} {k:Int},(bs.length=bxs.length ∧ ∃ G3,WFin G w (bs.map fun b=>b.map (CV.ren (back (c9 bxs)))) G3 w2)→w2.heap.size≤w''.heap.size→w''.os=w2.os→w''.output=w2.output→w''.tape=w2.tape →
    (∀ b,b<w2.heap.size→b≠w.heap.size→w''.heap[b]? = w2.heap[b]?) → ∃ G',Ext G w G' w''∧WI G' w''∧REnd bxs.length G' w'' (.returned (.int .i64 k)) (.ret (.c (.pv (.int .i64 k))) (jD bxs bs)):=fun {w2 w'' k} ⟨hln,G3,hF⟩ h1 h2 h3 h4 h5=>by
   obtain ⟨k1,k2,k3⟩:=Ep hw hge hF h1 h2 h3 h4 h5
   refine ⟨_,k1,k2,_,rfl,.int _ _,by rw[hwB];simpa using hln,?_⟩
   rw[hwB]
   exact k3
  rintro e w'' (⟨w1,w2,⟨hn,hR⟩,rfl,rfl⟩|⟨n,w1,w2,⟨hn,hR⟩,hne,rfl,rfl⟩|⟨_,_,hf,_⟩)
  ·have:m.isEmpty=true:=by
    cases m with
    | nil=>rfl
    | cons _ _=>simp at hn
   rw[this,if_pos rfl]
   exact fin hR (by rw[jq];exact Nat.le_refl _) rfl rfl rfl fun b _ h2=>ej _ _ _ (by simpa using h2)
  ·have:m.isEmpty=false:=by
    cases m with
    | nil=>exact absurd hn hne
    | cons _ _=>rfl
   rw[this,if_neg (by simp)]
   exact fin hR (by rw[jq,bw];omega) rfl rfl rfl fun b hb h2=>(ej _ _ _ (by simpa using h2)).trans (cd _ _ _ hb)
  ·exact hf.elim
 ·have hW:=rA x g fn hfn hnm hbd vs w Tr (fun _ _ _=>False) (fun _ w2=>bs.length=bxs.length ∧ ∃ G3,WFin G w (bs.map fun b=>b.map (CV.ren (back (c9 bxs)))) G3 w2) hT' (fun a n cc w1 hTr1 k0=>by
   refine (hD a n cc w1 hTr1).mono ?_
   rintro e w2 ⟨G3,hx3,hw3,hb3,z,rfl,hrn,hln,hbo⟩
   rw[List.length_cons,hll] at hln
   have hz:RP G3.I (.ifa 115 []) z:=hrn
   cases hz
   exact ⟨(hE hx3).1,.inr ⟨rfl,by omega,G3,hbs (by omega) hx3 hw3 fun i l hi hl=>hbo (i+1) (LK+i) l (hlk i hi) (by simpa using hl)⟩⟩)
  refine hW.mono ?_
  rintro e w'' (⟨_,_,hf,_⟩|⟨_,_,_,hf,_⟩|⟨w1,w2,⟨hln,G3,hF⟩,rfl,rfl⟩)
  ·exact hf.elim
  ·exact hf.elim
  ·obtain ⟨k1,k2,k3⟩:=Ep (w'':=(w2.alloc (.cells #[] 115)).setCell ⟨w.heap.size,0,none⟩ (.int .i64 40)) hw hge hF (by rw[jq,bw];omega) rfl rfl rfl fun b hb h2=>(ej _ _ _ (by simpa using h2)).trans (cd _ _ _ hb)
   refine ⟨_,k1,k2,_,rfl,.int _ _,by rw[hwB];simpa using hln,?_⟩
   rw[hwB]
   exact k3
end Go.Abs
namespace Go.Abs
open Go Go.Proofs Go.RowKit
set_option maxRecDepth 10000
def parse1P:List AV→List (List CV)→Plan
 | [.c (.loc s 0),.c (.loc t 0)],[[.pv (.sl m)],[.own e c]] =>
  if s=100000∧t=100001 then
   .call 47 [.c (.loc 100000 0)] [[.pv (.sl m)]] fun r=>match r with
    | .pan (.pv p) [[.pv (.sl m2)]] => .done (.pan (.pv p) [[.pv (.sl m2)],[.top]])
    | .ret (.agg [.pv (.sl q),.pv (.str z)]) [[.pv (.sl m2)]] =>
     if (e=47∨c.isEmpty=true)∧lens 2 c=true∧c.length+1<cD then .done (.ret (.tup []) [[.pv (.sl m2)],[.own 47 (c++[[.sl q,.str z]])]]) else .fail
    | _ => .fail
  else .fail
 | _,_ => .fail
noncomputable def K1 (good:FuncId→Bool):Cfg := { P:=Tryz.prog,pr:=fun _=>none,keep:=fun _ _=>([],[]),ownRet:=fun _=>false,good:=good,hook:=fun _ _=>false }
def p1A : Oper := { dst := some 3, op := Op.load 31 (Operand.tmp 1), type := 31, pos := "sels.go:301", after := #[], guard := none }
def p1B : Oper := { dst := some 4, op := Op.move (Operand.tmp 0), type := 72, pos := "sels.go:301", after := #[], guard := none }
def p1C : Oper := { dst := some 5, op := Op.call { callee := Callee.value (Operand.func 47), args := #[Operand.tmp 4], argTypes := #[72] }, type := 47, pos := "sels.go:301", after := #[{ on := 1, ground := Ground.data }], guard := none }
def p1D:List Oper:=[
  { dst := some 6, op := Op.buildSlice 31 1 #[(0, Operand.tmp 5)], type := 31, pos := "sels.go:301", after := #[{ on := 2, ground := Ground.data }], guard := none },
  { dst := some 7, op := Op.call { callee := Callee.builtin Builtin.append, args := #[Operand.tmp 3, Operand.tmp 6], argTypes := #[31, 31] }, type := 31, pos := "sels.go:301",
    after := #[{ on:=0,ground:=Ground.data }, { on:=3,ground:=Ground.data }, { on:=2,ground:=Ground.chain }],guard:=none },
  { dst := none, op := Op.store 31 (Operand.tmp 1) (Operand.tmp 7), type := 0, pos := "sels.go:301",
    after := #[{ on:=4,ground:=Ground.data }, { on:=4,ground:=Ground.chain }, { on:=0,ground:=Ground.phase }, { on:=1,ground:=Ground.phase }, { on:=2,ground:=Ground.phase }, { on:=3,ground:=Ground.phase }, { on:=4,ground:=Ground.phase }],guard:=none }]
def p1Ops:Array Oper:=(p1A::p1B::p1C::p1D).toArray
theorem qC:Tryz.f46.body=some (Code.region 0 p1Ops true):=rfl
theorem KL:fl (fun _=>false) (Code.region 0 p1Ops true)=true:=by kernel_rfl
theorem Bg:bm p1Ops.toList=[3]:=rfl
section
variable {good:FuncId→Bool} {call:CallF} {G:Gh} {w:World} {S:St} {a:Act} {Q:Exit→Act→World→Prop}
structure P1S (S:St) (m:List (List PV)):Prop where
 nt:S.nt=8
 s0:S.sl 0 = .c (.loc 100000 0)
 s1:S.sl 1 = .c (.loc 100001 0)
 b0:S.bx 100000=some [.pv (.sl m)]
 bn : ∀ s,s<LK→S.bx s=none
theorem xx {m:List (List PV)} {e:TypeId} {c:List (List PV)} (h:P1S S m) (hb:S.bx 100001=some [.own e c]) : ∃ S',bO (K1 good) call p1Ops.toList p1A S=some (.norm,S')∧P1S S' m∧S'.sl 4=S.sl 4 ∧ ∃ v,S'.bx 100001=some [v]:=by
 have hsh:db Tryz.prog 31=some none:=by kernel_rfl
 have hP:(K1 good).P=Tryz.prog:=rfl
 refine ⟨{ sl:=upd S.sl 3 (.c (.own e c)),bx:=upd S.bx 100001 (some [(CV.own e c).deg]),nt:=S.nt },by
  unfold bO
  simp only[ci,p1A,Bg,cN,opd,h.s1,cf,hP,hsh,hb,cE,List.getElem?_cons_zero,AV.isIter]
  simp[St.degAt,St.put,h.nt,aH,cK,CV.plain],⟨h.nt,h.s0,h.s1,h.b0,fun s hs => ?_⟩,rfl,_,rfl⟩
 have:s≠100001:=by unfold LK at hs;omega
 simp[upd,this,h.bn s hs]
theorem yh {m:List (List PV)} (h:P1S S m) : ∃ S',bO (K1 good) call p1Ops.toList p1B S=some (.norm,S')∧P1S S' m∧S'.sl 4 = .c (.loc 100000 0)∧S'.bx 100001=S.bx 100001:=by
 refine ⟨{ sl:=upd S.sl 4 (.c (.loc 100000 0)),bx:=S.bx,nt:=S.nt },by
  unfold bO
  simp only[ci,p1B,Bg,cN,opd,h.s0,bF,AV.isIter,steal,cA,cE]
  simp[St.degAt,St.put,h.nt,aH],⟨h.nt,h.s0,h.s1,h.b0,h.bn⟩,rfl,rfl⟩
theorem Fj {m m2:List (List PV)} {p:PV} (hg:good 47=true) (h:P1S S m) (h4:S.sl 4 = .c (.loc 100000 0))
  (hc:call 47 [.c (.loc 100000 0)] [[.pv (.sl m)]]=some (.pan (.pv p) [[.pv (.sl m2)]])) :
  ∃ S',bO (K1 good) call p1Ops.toList p1C S=some (.pan (.pv p),S')∧P1S S' m2∧S'.bx 100001=S.bx 100001:=by
 have hG:(K1 good).good=good:=rfl
 have hO : ∀ f,(K1 good).ownRet f=false:=fun _=>rfl
 refine ⟨{ sl:=S.sl,bx:=upd S.bx 100000 (some [.pv (.sl m2)]),nt:=S.nt },by
  unfold bO
  simp only[ci,p1C,cN,opd,h4,bZ,cz,hG,hO,hg,if_true,List.map_cons,List.map_nil,List.append_nil,List.all_cons,List.all_nil,AV.flat,CV.flat,Bool.and_true,List.flatMap_cons,List.flatMap_nil,AV.ptrs,CV.ptrs,dedup,List.contains_nil,bh,h.b0,AV.deg,CV.deg,AV.ren,CV.ren,lend,idx,Option.map_some,LK,Nat.add_zero,Bool.false_eq_true,if_false,hc]
  simp[cH,CV.ren,aH],⟨h.nt,h.s0,h.s1,rfl,fun s hs => ?_⟩,rfl⟩
 have:s≠100000:=by unfold LK at hs;omega
 simp[upd,this,h.bn s hs]
def p1Fin (m2:List (List PV)):St := { sl:=fun _ => .c .top,bx:=fun k=>if k=100000 then some [.pv (.sl m2)] else if k=100001 then some [.top] else none,nt:=8 }
theorem J4 {m2:List (List PV)} {v:CV} (h:P1S S m2) (hb:S.bx 100001=some [v]) (hf:FR G w S a):FR G w (p1Fin m2) a:=by
 refine ⟨by rw[hf.size,h.nt];rfl,fun t=>trivial,fun s l hl => ?_,fun s hs hlk=>hf.nob s (h.bn s hlk) hlk⟩
 have hl:(if s=100000 then some [CV.pv (.sl m2)] else if s=100001 then some [CV.top] else none)=some l:=hl
 split at hl
 ·rename_i e
  cases hl
  exact hf.box s _ (by rw[e];exact h.b0)
 split at hl
 ·rename_i e
  cases hl
  obtain ⟨b,cs,ty,h1,h2,⟨h3,_⟩,h4⟩:=hf.box s _ (by rw[e];exact hb)
  refine ⟨b,cs,ty,h1,h2,⟨h3,?_⟩,fun k v' hv => ?_⟩
  ·first|trivial|exact fun h=>by simp at h|simp[Bld]
  ·cases k with
   | zero =>
    cases hv
    obtain ⟨x,h5,h6⟩:=h4 0 v rfl
    exact ⟨x,h5,h6.one⟩
   | succ k=>simp at hv
 ·cases hl
theorem Kb (hs:Sound (K1 good) call) (hm:Tryz.prog.follows .mixedOrders=true) {m m2:List (List PV)} {p:PV} {e:TypeId} {c:List (List PV)} (hg:good 47=true)
  (hc:call 47 [.c (.loc 100000 0)] [[.pv (.sl m)]]=some (.pan (.pv p) [[.pv (.sl m2)]]))
  (h:P1S S m) (hb:S.bx 100001=some [.own e c]) (hf:FR G w S a) (hw:WI G w) (hp:Post G w a.defers (.pan (.pv p),p1Fin m2) Q):(Code.region 0 p1Ops true).wp Tryz.prog Q a w:=by
 refine wp_region_any hm ?_
 obtain ⟨gd,hwd⟩:=gf hw
 have hfd:=hf.gr0 hw gd rfl
 have hpd:Post G w.drew a.defers (.pan (.pv p),p1Fin m2) Q:=fun a2 w2 G2 h1 h2 h3 h4=>hp a2 w2 G2 (gd.ext.trans h1) h2 h3 h4
 have atC : ∀ {S1:St} {G1:Gh} {w1:World} {a1:Act} (N:Act→World→Prop),P1S S1 m→S1.sl 4 = .c (.loc 100000 0)→(∃ v,S1.bx 100001=some [v])→FR G1 w1 S1 a1→WI G1 w1→Post G1 w1 a1.defers (.pan (.pv p),p1Fin m2) Q→wpOp Tryz.prog p1Ops Q 2 N a1 w1:=by
  intro S1 G1 w1 a1 N k1 k2 k3 k4 k5 k6
  obtain ⟨S2,e1,e2,e3⟩:=Fj (call:=call) hg k1 k2 hc
  obtain ⟨v,k3⟩:=k3
  exact jS (K:=K1 good) (ops:=p1Ops.toList) (o:=p1C) (r:=(.pan (.pv p),S2)) hs e1 k4 k5 rfl N fun a2 w2 G2 j1 j2 j3 j4=>k6 a2 w2 G2 j1 j2 (J4 e2 (by rw[e3];exact k3) j3) j4
 have r0:Region.ready .any p1Ops (Array.replicate 6 false)=[0,1]:=by kernel_rfl
 have r1:Region.ready .any p1Ops ((Array.replicate 6 false).setIfInBounds 0 true)=[1]:=by kernel_rfl
 have r2:Region.ready .any p1Ops ((Array.replicate 6 false).setIfInBounds 1 true)=[0,2]:=by kernel_rfl
 have r3:Region.ready .any p1Ops (((Array.replicate 6 false).setIfInBounds 0 true).setIfInBounds 1 true)=[2]:=by kernel_rfl
 have r4:Region.ready .any p1Ops (((Array.replicate 6 false).setIfInBounds 1 true).setIfInBounds 0 true)=[2]:=by kernel_rfl
 show wpAny Tryz.prog .any p1Ops Q 6 (Array.replicate 6 false) a w.drew
 refine ⟨fun h0=>(by rw[r0] at h0;cases h0),fun i hi => ?_⟩
 rw[r0] at hi
 simp only[List.mem_cons,List.not_mem_nil,or_false] at hi
 rcases hi with rfl|rfl
 ·obtain ⟨S1,e1,e2,e3,e4⟩:=xx (good:=good) (call:=call) h hb
  refine jS (K:=K1 good) (ops:=p1Ops.toList) (r:=(.norm,S1)) hs e1 hfd hwd rfl _ fun a1 w1 G1 j1 j2 j3 j4 => ?_
  refine ⟨fun h0=>(by rw[r1] at h0;cases h0),fun i hi => ?_⟩
  rw[r1] at hi
  obtain rfl:=List.mem_singleton.1 hi
  obtain ⟨S2,f1,f2,f3,f4⟩:=yh (good:=good) (call:=call) e2
  refine jS (K:=K1 good) (ops:=p1Ops.toList) (r:=(.norm,S2)) hs f1 j3 j2 rfl _ fun a2 w2 G2 l1 l2 l3 l4 => ?_
  refine ⟨fun h0=>(by rw[r3] at h0;cases h0),fun i hi => ?_⟩
  rw[r3] at hi
  obtain rfl:=List.mem_singleton.1 hi
  exact atC _ f2 f3 (by rw[f4];exact e4) l3 l2 (by rw[l4,j4];exact hpd.ext (j1.trans l1))
 ·obtain ⟨S1,e1,e2,e3,e4⟩:=yh (good:=good) (call:=call) h
  refine jS (K:=K1 good) (ops:=p1Ops.toList) (r:=(.norm,S1)) hs e1 hfd hwd rfl _ fun a1 w1 G1 j1 j2 j3 j4 => ?_
  refine ⟨fun h0=>(by rw[r2] at h0;cases h0),fun i hi => ?_⟩
  rw[r2] at hi
  simp only[List.mem_cons,List.not_mem_nil,or_false] at hi
  rcases hi with rfl|rfl
  ·obtain ⟨S2,f1,f2,f3,f4⟩:=xx (good:=good) (call:=call) e2 (by rw[e4];exact hb)
   refine jS (K:=K1 good) (ops:=p1Ops.toList) (r:=(.norm,S2)) hs f1 j3 j2 rfl _ fun a2 w2 G2 l1 l2 l3 l4 => ?_
   refine ⟨fun h0=>(by rw[r4] at h0;cases h0),fun i hi => ?_⟩
   rw[r4] at hi
   obtain rfl:=List.mem_singleton.1 hi
   exact atC _ f2 (by rw[f3];exact e3) f4 l3 l2 (by rw[l4,j4];exact hpd.ext (j1.trans l1))
  ·exact atC _ e2 e3 ⟨_,by rw[e4];exact hb⟩ j3 j2 (by rw[j4];exact hpd.ext j1)
end
namespace P1
attribute [local go_sem] cM ck bJ bH cL cq co aR bU bO ci cN bF opd avOf cvOf St.degAt St.put okPV dA okAV cZ cY cX cG aH if_true Bool.false_eq_true if_false Option.map_some Option.map_none Option.bind_some Option.bind_none dC dr upd List.toList_toArray cA steal bm mvB c8 cF cE AV.deg CV.deg AV.gv AV.isIter cy cj bK List.length_nil List.length_cons List.filterMap_cons List.filterMap_nil beq_iff_eq List.getElem?_cons_zero List.getElem?_cons_succ Option.getD_some Bool.false_and Bool.and_false Bool.and_self bZ cz bh lend back idx dedup AV.ren CV.ren TV.ren AV.ptrs CV.ptrs cH AV.flat CV.flat cf bQ aV cK cQ dM bW aM bX bc bv bR bd d8 CV.pv? content bo ownT aW reps pvs chunks bM leave dU cw cV bG bg TV.deg TV.av LK CV.plain CV.noBld cJ dX bound List.map_cons List.map_nil List.all_cons List.all_nil List.any_cons List.any_nil List.contains_cons List.contains_nil List.elem_cons List.elem_nil List.cons_append List.nil_append List.append_nil List.flatMap_cons List.flatMap_nil List.zip_cons_cons List.zip_nil_left List.zip_nil_right List.take_succ_cons List.take_zero List.take_nil List.drop_succ_cons List.drop_zero List.drop_nil List.isEmpty_nil List.isEmpty_cons Bool.and_true Bool.true_and Bool.or_true Bool.true_or Bool.or_false Bool.false_or Bool.not_true Bool.not_false Nat.add_zero Nat.zero_add Option.isNone_none Option.isNone_some Option.getD_none true_and and_true not_true_eq_false not_false_eq_true decide_true decide_false Nat.le_refl and_self Bool.not_eq_true Nat.sub_self or_true true_or Option.some.injEq List.length_map List.nil_eq and_false false_and AV.live CV.live CV.liveIn aX Option.orElse_some Option.orElse_none head a7 a6 Int.lt_irrefl List.length_append ite_self dz ce cO bu Key.clash Key.sees Key.writes Nat.lt_irrefl gt_iff_lt cg dc false_or or_false beq_self_eq_true Bool.true_beq Bool.false_beq
theorem kG:db Tryz.prog 31=Option.some Option.none:=by kernel_rfl
theorem aP:cP Tryz.prog 31=Option.some (Go.Abs.Desc.sl 47 Bool.false):=by kernel_rfl
theorem fS:szOf Tryz.prog 47=Option.some 2:=by kernel_rfl
theorem eU:zeroCells Tryz.prog 47=Option.some [Go.Abs.CV.nils,Go.Abs.CV.pv (Go.Abs.PV.str [])]:=by kernel_rfl
theorem j9:ic Tryz.prog 31=Option.some (47,2):=by kernel_rfl
theorem AB:szOf Tryz.prog 31=Option.some 1:=by kernel_rfl
theorem DW (a b:PV):lens 2 [[a,b]]=true:=rfl
set_option maxHeartbeats 4000000 in
theorem H5 {good:FuncId→Bool} {call:CallF} (hg:good 47=true) {m m2 q c:List (List PV)} {z:List UInt8} {e:TypeId}
  (hc:call 47 [.c (.loc 100000 0)] [[.pv (.sl m)]]=some (.ret (.agg [.pv (.sl q),.pv (.str z)]) [[.pv (.sl m2)]]))
  (he:e=47∨c.isEmpty=true) (hl:lens 2 c=true) (hlen:c.length+1<cD) :
  leave (K1 good) 46 Tryz.f46 2 (cW (K1 good) call 0 46 (.region 0 p1Ops true) (bM 8 [.c (.loc 100000 0),.c (.loc 100001 0)] [[.pv (.sl m)],[.own e c]]))=some (.ret (.tup []) [[.pv (.sl m2)],[.own 47 (c++[[.sl q,.str z]])]]):=by
 have hP:(K1 good).P=Tryz.prog:=rfl
 have hG:(K1 good).good=good:=rfl
 have hO : ∀ f,(K1 good).ownRet f=false:=fun _=>rfl
 have hh : ∀ f i,(K1 good).hook f i=false:=fun _ _=>rfl
 have hr:Tryz.f46.results = #[]:=rfl
 simp only[cW,p1Ops,p1A,p1B,p1C,p1D,hh,hP,hG,hO,go_sem,Nat.reduceLT,reduceCtorEq,Nat.reduceEqDiff,Nat.reduceBEq,Nat.reduceAdd,Nat.reduceSub,Nat.reduceLeDiff,Nat.reduceMul,kG,am (len:=1) aP fS eU ⟨rfl,by decide,by decide⟩,cB j9,br aP,AB,hr,hg,hc,he,hl,hlen,DW]
 rw[aO (by kernel_rfl)]
 simp only[go_sem,Nat.reduceEqDiff,Nat.reduceSub,Nat.reduceLeDiff]
end P1
open Classical in
/-- how the closure's text ends where what it calls goes up -/
noncomputable def p1Ex (m m2:List (List PV)) (p:PV) (e:TypeId) (c:List (List PV)):Code→St→Option (Out×St):=fun _ S=>if P1S S m∧S.bx 100001=some [.own e c] then some (.pan (.pv p),p1Fin m2) else none
theorem B9 {good : FuncId → Bool} (hgd : ∀ g, good g = true → ∃ fn, Tryz.prog.funcs[g]? = some fn ∧ fn.name ≠ "runtime.NumGoroutine" ∧ fn.body.isSome = true) (hg : good 47 = true) {call : CallF}
  (hc : ∀ g args bxs r,good g=true→call g args bxs=some r→Contract Tryz.prog g args bxs r) {args:List AV} {bxs:List (List CV)} {r:Res} (h:(parse1P args bxs).run call=some r) :
  Contract Tryz.prog 46 args bxs r:=by
 have hs:Sound (K1 good) call:=⟨hgd,hc⟩
 have hm:Tryz.prog.follows .mixedOrders=true:=by kernel_rfl
 unfold parse1P at h
 split at h
 case h_2=>cases h
 rename_i s t m e c
 split at h
 case isFalse=>cases h
 rename_i hst
 obtain ⟨rfl,rfl⟩:=hst
 simp only[Plan.run] at h
 split at h
 case h_2=>cases h
 rename_i r1 hr1
 split at h
 ·rename_i p m2
  simp only[Plan.run,Option.some.injEq] at h
  subst h
  have hP:P1S (bM 8 [.c (.loc 100000 0),.c (.loc 100001 0)] [[.pv (.sl m)],[.own e c]]) m∧(bM 8 [.c (.loc 100000 0),.c (.loc 100001 0)] [[.pv (.sl m)],[.own e c]]).bx 100001=some [.own e c] :=
   ⟨⟨rfl,rfl,rfl,rfl,fun s hs=>by show (if LK≤s then _ else none)=none;rw[if_neg (by omega)]⟩,rfl⟩
  have hx:enter (K1 good) (p1Ex m m2 p e c) 46 [.c (.loc 100000 0),.c (.loc 100001 0)] [[.pv (.sl m)],[.own e c]]=some (.pan (.pv p) [[.pv (.sl m2)],[.top]]):=by
   unfold enter
   have hf:(K1 good).P.funcs[46]? = some Tryz.f46:=Tryz.func46
   have hn:Tryz.f46.ntmps=8:=rfl
   rw[hf]
   simp only[qC,hn]
   rw[if_pos ⟨by simp,by simp[LK]⟩]
   unfold p1Ex
   rw[if_pos hP]
   rfl
  exact sd (K:=K1 good) hx fun fn b hfn hb {Q S G w a r} hr hf hw hp=>by
   have hfn:Tryz.prog.funcs[46]? = some fn:=hfn
   rw[Tryz.func46] at hfn
   cases hfn
   rw[qC] at hb
   cases hb
   unfold p1Ex at hr
   split at hr
   case isFalse=>cases hr
   rename_i hPS
   cases hr
   exact Kb hs hm hg hr1 hPS.1 hPS.2 hf hw hp
 ·rename_i q z m2
  split at h
  case isFalse=>cases h
  rename_i hE
  simp only[Plan.run,Option.some.injEq] at h
  subst h
  obtain ⟨he,hl,hlen⟩:=hE
  have hx:enter (K1 good) (cW (K1 good) call 0 46) 46 [.c (.loc 100000 0),.c (.loc 100001 0)] [[.pv (.sl m)],[.own e c]]=some (.ret (.tup []) [[.pv (.sl m2)],[.own 47 (c++[[.sl q,.str z]])]]):=by
   unfold enter
   have hf:(K1 good).P.funcs[46]? = some Tryz.f46:=Tryz.func46
   have hn:Tryz.f46.ntmps=8:=rfl
   rw[hf]
   simp only[qC,hn]
   rw[if_pos ⟨by simp,by simp[LK]⟩]
   exact P1.H5 hg hr1 he hl hlen
  exact sd (K:=K1 good) hx fun fn b hfn hb {Q S G w a r} hr hf hw hp=>by
   have hfn:Tryz.prog.funcs[46]? = some fn:=hfn
   rw[Tryz.func46] at hfn
   cases hfn
   rw[qC] at hb
   cases hb
   exact Ba hs hm 0 _ _ hr KL hf hw hp
 ·cases h
end Go.Abs
namespace Go.Abs
open Go Go.Proofs Go.RowKit Go.Shelf
theorem ww (n:Nat) (w:World) (hn:n≤1000000000) :
  Calls Tryz.prog 226 #[.slice none 0 0,.int .i64 n] w fun e w' => ∃ v',e = .returned v'∧w'.ownsRow w.heap.size 93 5 v' 0 []∧Below w.heap.size w w':=by
 obtain ⟨i,z,hi,hz,hzs,hs,hb⟩:=rQ
 by_cases h0:n=0
 ·subst h0
  refine (Any8.slices_Grow_room Tryz.growV none 0 0 0 w (Nat.le_refl _) (by omega) (by omega) (by omega)).mono ?_
  rintro e w' ⟨rfl,rfl⟩
  exact ⟨_,rfl,World.ownsRow_nil _ _ _ _,.refl _ _⟩
 ·refine (Any8.slices_Grow_grow Tryz.growV i z hi hz (by omega) none 0 0 n [] w (Nat.le_refl _) (by omega) (by rw[hb];omega) (by omega) (by simp) (fun _=>rfl) (fun a h=>by cases h)).mono ?_
  rintro e w' ⟨rfl,rfl⟩
  have hg:0+n≤grownCap w (0+n) 0 93:=grownCap_ge w _ _ _
  have hm:=grownCap_le_maxLen w (0+n) 0 93 (by unfold maxLen;omega)
  have:=World.ownsRow_made (base:=w.heap.size) (e:=93) (size:=5) w.drew (([]:List Value).toArray++Builtin.zeroCells z.cells (0+n - 0)++Builtin.zeroCells z.cells (grownCap w (0+n) 0 93 - (0+n))) _ (Nat.le_refl _) hm (by
   simp only[Array.size_append,size_zeroCells,hzs,List.size_toArray,List.length_nil]
   omega)
  exact ⟨_,rfl,this,((Below.refl _ w).drew).alloc (Nat.le_refl _) _⟩
structure Pt where
 ad:Addr
 n:Nat
 cap:Nat
 row:List Value
def fI:List Pt→Nat
 | []=>0
 | p::ps=>p.n+fI ps
def kN:List Pt→List Value
 | []=>[]
 | p::ps=>p.row++kN ps
theorem iE : ∀ {ps:List Pt} {k:Nat} {p:Pt},ps[k]? = some p→fI (ps.take (k+1))=fI (ps.take k)+p.n
 | [],_,_,h=>by simp at h
 | q::ps,0,p,h=>by
  simp at h;subst h;simp[fI]
 | q::ps,k+1,p,h=>by
  have:=iE (ps:=ps) (k:=k) (p:=p) (by simpa using h)
  simp only[List.take_succ_cons,fI];omega
theorem pS : ∀ {ps:List Pt} {k:Nat} {p:Pt},ps[k]? = some p→kN (ps.take (k+1))=kN (ps.take k)++p.row
 | [],_,_,h=>by simp at h
 | q::ps,0,p,h=>by
  simp at h;subst h;simp[kN]
 | q::ps,k+1,p,h=>by
  have:=pS (ps:=ps) (k:=k) (p:=p) (by simpa using h)
  simp only[List.take_succ_cons,kN,this,List.append_assoc]
theorem po : ∀ (ps:List Pt) (k:Nat),fI (ps.take k)≤fI ps
 | [],k=>by simp
 | q::ps,0=>by simp[fI]
 | q::ps,k+1=>by
  have:=po ps k
  simp only[List.take_succ_cons,fI];omega
structure Lies (w:World) (ba:Addr) (i:Nat) (p:Pt):Prop where
 cell:w.cell? (ba.add i)=some (.slice (some p.ad) p.n p.cap)
 len:p.row.length=p.n*5
 row : ∀ j u,p.row[j]? = some u→w.cell? (p.ad.add j)=some u
 one : ∀ u∈p.row,u.oneCell'=true
set_option maxRecDepth 100000 in
set_option maxHeartbeats 4000000 in
theorem pK (ba:Addr) (cap:Nat) (ps:List Pt) (w:World) (h : ∀ i p,ps[i]? = some p→Lies w ba i p) (hk:ps.length≤1000000000) (hn:fI ps≤1000000000) :
  Calls Tryz.prog 205 #[.slice (some ba) ps.length cap] w fun e w' => ∃ v',e = .returned v'∧w'.ownsRow w.heap.size 93 5 v' (fI ps) (kN ps)∧Below w.heap.size w w':=by
 obtain ⟨i,z,hi,hz,hzs,hs,hb⟩:=rQ
 go_enter Tryz.func205,Tryz.ntmps205
 go_wp2
 go_loopw [3,11] (fun v3 v11 wr => ∃ k:Nat,k≤ps.length∧v3 = .int .i64 (fI (ps.take k):Nat)∧v11 = .int .i64 k∧wr=w) (fun _ v11 _=>ps.length - (RowKit.intOf v11).toNat)
 case atStart=>exact ⟨0,Nat.zero_le _,rfl,rfl,rfl⟩
 case round =>
  obtain ⟨k,hkl,rfl,rfl,hw⟩:=hrel
  obtain rfl:w=wr:=hw.symm
  clear hw
  by_cases hlt:k<ps.length
  ·obtain ⟨p,hp⟩ : ∃ p,ps[k]? = some p:=⟨_,List.getElem?_eq_getElem hlt⟩
   have hL:=(h k p hp).cell
   have hle:=po ps (k+1)
   rw[iE hp] at hle
   go_wp2
   go_roundw
   case rel=>exact ⟨k+1,by omega,by rw[iE hp];go_num,by go_num,trivial⟩
   case measure=>simp[RowKit.intOf];omega
  ·obtain rfl:k=ps.length:=by omega
   rw[List.take_length]
   have hgw:=ww (fI ps) w hn
   go_wp2_with (go_at_call 226;refine hgw.mono ?_)
   rintro e w1 ⟨v6,rfl,hown,hbel⟩
   go_wp2
   go_loopw [6,27] (fun v6 v27 wr => ∃ k:Nat,k≤ps.length∧v27 = .int .i64 k∧Hid (wr.ownsRow w.heap.size 93 5 v6 (fI (ps.take k)) (kN (ps.take k))∧Below w.heap.size w wr)) (fun _ v27 _=>ps.length - (RowKit.intOf v27).toNat)
   case atStart=>exact ⟨0,Nat.zero_le _,rfl,hown,hbel⟩
   case round =>
    obtain ⟨k,hkl2,rfl,HI⟩:=hrel
    by_cases hlt2:k<ps.length
    ·obtain ⟨p,hp⟩ : ∃ p,ps[k]? = some p:=⟨_,List.getElem?_eq_getElem hlt2⟩
     have L:Hid (Lies w ba k p):=h k p hp
     have hold : ∀ {a:Addr} {v:Value},w.cell? a=some v→wr.cell? a=some v:=fun {a v} e=>by
      rw[HI.out.2.cell (World.block_lt_of_cell? w a e)];exact e
     have hc:=hold L.out.cell
     have hle:=po ps (k+1)
     rw[iE hp] at hle
     go_wp2_with (at_builtin;refine wpList_append_own _ rfl _ _ 23 rfl w.heap.size 93 i z 5 64 Tryz.underlying23 hi hz hs hb hzs (by decide) _ _ _ rfl HI.out.1 p.ad p.n p.cap p.row rfl L.out.len ?_ L.out.one ?_ ?_ ?_ ?_)
     ·exact fun j u e=>hold (L.out.row j u e)
     ·simp only[maxLen];omega
     ·omega
     ·exact HI.out.2.size
     ·intro v' w3 hown3 hgrow hne
      have hbl:Below w.heap.size w w3:=HI.out.2.grown hgrow HI.out.2.size (fun b e=>(HI.out.1.lt b e).1)
      have hr:Hid (w3.ownsRow w.heap.size 93 5 v' (fI (ps.take (k+1))) (kN (ps.take (k+1)))∧Below w.heap.size w w3):=by
       rw[iE hp,pS hp];exact ⟨hown3,hbl⟩
      clear hown3 hgrow hne hbl
      go_wp2
      go_roundw
      case rel=>exact ⟨k+1,by omega,by go_num,hr⟩
      case measure=>simp[RowKit.intOf];omega
    ·obtain rfl:k=ps.length:=by omega
     rw[List.take_length] at HI
     go_wp2
     go_ret
     exact ⟨_,rfl,HI.out⟩
set_option maxRecDepth 100000 in
set_option maxHeartbeats 4000000 in
theorem w6 (cap:Nat) (w:World) :
  Calls Tryz.prog 205 #[.slice none 0 cap] w fun e w' => ∃ v',e = .returned v'∧w'.ownsRow w.heap.size 93 5 v' 0 []∧Below w.heap.size w w':=by
 go_enter Tryz.func205,Tryz.ntmps205
 go_wp2
 go_loopw [3,11] (fun v3 v11 wr=>v3 = .int .i64 0∧v11 = .int .i64 0∧wr=w) (fun _ _ _=>0)
 case atStart=>exact ⟨rfl,rfl,rfl⟩
 case round =>
  obtain ⟨rfl,rfl,hw⟩:=hrel
  obtain rfl:w=wr:=hw.symm
  clear hw
  have hgw:=ww 0 w (by omega)
  go_wp2_with (go_at_call 226;refine hgw.mono ?_)
  rintro e w1 ⟨v6,rfl,hown,hbel⟩
  have H:Hid (w1.ownsRow w.heap.size 93 5 v6 0 []∧Below w.heap.size w w1):=⟨hown,hbel⟩
  clear hown hbel
  go_wp2
  go_loopw [6,27] (fun x6 v27 wr=>Hid (x6=v6)∧v27 = .int .i64 0∧wr=w1) (fun _ _ _=>0)
  case atStart=>exact ⟨rfl,rfl,rfl⟩
  case round =>
   obtain ⟨hx6,rfl,hw⟩:=hrel
   cases hx6.out
   obtain rfl:w1=wr:=hw.symm
   clear hw
   go_wp2
   go_ret
   exact ⟨_,rfl,H.out⟩
theorem D9 {I:Nat→Nat→Option Value} {w:World} (hw : ∀ b o y,I b o=some y→w.cell? ⟨b,o,none⟩=some y) : ∀ {cs:List (List (List PV))} {ys:List Value},All2 (RP I) (cs.map PV.sl) ys→(∀ c∈cs,c≠[] ∧ ∀ el∈c,el.length=5) →
  ∃ ps:List Pt,ps.length=cs.length∧(∀ (i:Nat) (p:Pt),ps[i]? = some p→ys[i]? = some (.slice (some p.ad) p.n p.cap)∧p.row.length=p.n*5∧(∀ (j:Nat) (u:Value),p.row[j]? = some u→w.cell? (p.ad.add j)=some u) ∧ ∀ u∈p.row,u.oneCell'=true) ∧
   fI ps=cs.flatten.length∧All2 (RP I) cs.flatten.flatten (kN ps)
 | [],[],_,_=>⟨[],rfl,fun i p h=>by simp at h,rfl,.nil⟩
 | [],_::_,h,_=>by cases h
 | _::_,[],h,_=>by cases h
 | c::cs,y::ys,.cons h1 h2,hc=>by
  obtain ⟨ps,k1,k2,k3,k4⟩:=D9 hw h2 fun c' h=>hc c' (List.mem_cons_of_mem _ h)
  obtain ⟨hne,h5⟩:=hc c (by simp)
  obtain ⟨pa,cap,rfl,_,hs⟩:=RP.slice_inv (show RP I (.sl c) y from h1)
  obtain ⟨b,o,sz,rfl,hsz',hseg⟩:=hs hne
  have e5:sz=5:=by
   cases c with
   | nil=>exact absurd rfl hne
   | cons el c=>rw[←hsz' el (by simp),h5 el (by simp)]
  subst e5
  obtain ⟨zs,hl,hI,hv⟩:=ib (by decide) h5 hseg
  refine ⟨⟨⟨b,o,none⟩,c.length,cap,zs⟩::ps,by simp[k1],fun i p h => ?_,?_,?_⟩
  ·cases i with
   | zero =>
    simp at h
    subst h
    refine ⟨rfl,hl,fun j u e => ?_,jy hv⟩
    have e':(⟨b,o,none⟩:Addr).add j=⟨b,o+j,none⟩:=by simp only[Addr.add];split<;>simp_all
    rw[e'];exact hw _ _ _ (hI j u e)
   | succ i=>exact k2 i p (by simpa using h)
  ·simp[fI,k3]
  ·rw[List.flatten_cons,List.flatten_append]
   exact hv.append k4
def Ah:List PV→Option (List (List PV))
 | [.sl c]=>if c≠[]∧c.all (fun el=>el.length==5)=true then some c else none
 | _=>none
def kP:List (List PV)→Option (List (List (List PV)))
 | []=>some []
 | el::ls=>match Ah el,kP ls with
  | some c,some cs=>some (c::cs)
  | _,_=>none
def od:Prim
 | [.c (.pv (.sl ls))],[]=>match kP ls with
  | some cs=>if ls.length≤1000000000∧cs.flatten.length≤1000000000 then some (.c (.pv (.sl cs.flatten)),[]) else none
  | none=>none
 | _,_=>none
theorem oo : ∀ {ls:List (List PV)} {cs:List (List (List PV))},kP ls=some cs→ls=cs.map (fun c=>[.sl c]) ∧ ∀ c∈cs,c≠[] ∧ ∀ el∈c,el.length=5
 | [],cs,h=>by cases h;exact ⟨rfl,fun c h=>by cases h⟩
 | el::ls,cs,h=>by
  rw[kP] at h
  split at h
  case h_2=>cases h
  rename_i c cs' h1 h2
  cases h
  obtain ⟨k1,k2⟩:=oo h2
  unfold Ah at h1
  split at h1
  case h_2=>cases h1
  split at h1
  case isFalse=>cases h1
  rename_i hc
  cases h1
  refine ⟨by rw[k1];rfl,fun c' h' => ?_⟩
  rcases List.mem_cons.1 h' with rfl|h'
  ·exact ⟨hc.1,fun el hel=>by simpa using List.all_eq_true.1 hc.2 el hel⟩
  ·exact k2 c' h'
theorem A7 : ∀ cs:List (List (List PV)),(cs.map fun c=>[PV.sl c]).flatten=cs.map PV.sl
 | []=>rfl
 | c::cs=>by rw[List.map_cons,List.flatten_cons,A7 cs];rfl
theorem AO {args:List AV} {bxs:List (List CV)} {x:AV×List (List CV)} (h:od args bxs=some x):Contract Tryz.prog 205 args bxs (.ret x.1 x.2):=by
 unfold od at h
 split at h
 case h_2=>cases h
 rename_i ls
 split at h
 case h_2=>cases h
 rename_i cs hcs
 split at h
 case isFalse=>cases h
 rename_i hc
 cases h
 obtain ⟨rfl,h5⟩:=oo hcs
 intro G w cargs hw hargs _ _ _
 obtain ⟨x,rfl,hx⟩:=fG hargs
 obtain ⟨pa,cap,rfl,_,hs⟩:=RP.slice_inv (show RP G.I (.sl (cs.map fun c=>[PV.sl c])) x from hx)
 by_cases hc0:cs=[]
 ·subst hc0
  have fin : ∀ {e:Ending} {w':World},(∃ v',e = .returned v'∧w'.ownsRow w.heap.size 93 5 v' 0 []∧Below w.heap.size w w') → ∃ G',Ext G w G' w'∧WI G' w'∧REnd 0 G' w' e (.ret (.c (.pv (.sl (([]:List (List (List PV))).flatten)))) []):=by
   rintro e w' ⟨v',rfl,hown,hb⟩
   obtain ⟨G',h1,h2,h3,_,_⟩:=oc hw hb hown (c:=[]) rfl (fun el hel=>by cases hel) .nil
   exact ⟨G',h1,h2,_,rfl,h3,rfl,fun i l h=>by simp at h⟩
  cases pa with
  | none=>exact (w6 cap w).mono fun e w' h=>fin h
  | some ba=>exact (pK ba cap [] w (fun i p e=>by simp at e) (by simp) (by simp[fI])).mono fun e w' h=>fin h
 obtain ⟨b,o,sz,rfl,hsz',hseg⟩:=hs (by simpa using hc0)
 have h1 : ∀ el∈cs.map (fun c=>[PV.sl c]),el.length=1:=fun el hel=>by
  obtain ⟨c,_,rfl⟩:=List.mem_map.1 hel;rfl
 have e1:sz=1:=by
  cases cs with
  | nil=>exact absurd rfl hc0
  | cons c cs=>rw[←hsz' [PV.sl c] (by simp)];rfl
 subst e1
 obtain ⟨ys,hl,hI,hv⟩:=ib (by decide) h1 hseg
 rw[A7] at hv
 obtain ⟨ps,k1,k2,k3,k4⟩:=D9 (fun b o y e=>hw.cell b o y e) hv h5
 have hlen:(cs.map fun c=>[PV.sl c]).length=ps.length:=by rw[List.length_map,k1]
 rw[hlen]
 refine (pK ⟨b,o,none⟩ cap ps w (fun i p e => ?_) (by rw[←hlen];exact hc.1) (by rw[k3];exact hc.2)).mono ?_
 ·obtain ⟨j1,j2,j3,j4⟩:=k2 i p e
  refine ⟨?_,j2,j3,j4⟩
  have e':(⟨b,o,none⟩:Addr).add i=⟨b,o+i,none⟩:=by simp only[Addr.add];split<;>simp_all
  rw[e'];exact hw.cell _ _ _ (hI i _ j1)
 ·rintro e w' ⟨v',rfl,hown,hb⟩
  obtain ⟨G',h1,h2,h3,_,_⟩:=oc hw hb hown k3.symm (fun el hel=>by
   obtain ⟨c,hc',hel'⟩:=List.mem_flatten.1 hel
   exact (h5 c hc').2 el hel') k4
  exact ⟨G',h1,h2,_,rfl,h3,rfl,fun i l h=>by simp at h⟩
end Go.Abs
set_option linter.unusedSimpArgs true
namespace Go.Abs
open Go Go.Proofs
def KM:List (Nat×Nat×List Nat×List Nat):=[
 (15,3,[0,1,5,6],[]),
 (15,7,[0,1,5,6,7],[]),
 (31,3,[1,3,7,8,9],[1,3]),
 (29,3,[3,6,7,8],[]),
 (22,4,[0,1,5],[]),
 (22,9,[0,1,5,6],[]),
 (99,2,[3],[6]),
 (33,3,[0,3,4],[]),
 (58,3,[0,3,4],[]),
 (43,2,[0,1,2,7],[]),
 (35,1,[0,8,9,10],[100000]),
 (63,1,[0,6,7,8],[100000]),
 (60,12,[0,1,5,39,40,41],[]),
 (60,22,[1,8,63,64,65],[8]),
 (18,4,[4,5,6],[]),
 (52,4,[0,1,5],[]),
 (65,5,[0,4,6],[4]),
 (231,5,[5,15,16,17],[]),
 (34,2,[0,3,4],[]),
 (34,4,[0,3,4],[]),
 (26,4,[0,1,5,6,7],[]),
 (48,4,[2,4,5,6],[2,5,10]),
 (48,6,[2,4,5,7],[2,5,7,10]),
 (182,2,[0,1,2,7],[100000]),
 (186,6,[0,2,3,4,29],[100000]),
 (115,2,[0,5],[]),
 (117,2,[0,1,5],[]),
 (118,1,[0,1],[]),
 (120,4,[0,1,4,6,7],[4]),
 (64,2,[0,2,3,8,9],[8,9]),
 (142,3,[3,4],[]),
 (145,3,[0,2,4,5],[2,9]),
 (146,2,[0,3],[100000]),
 (214,15,[0,1,5,6,7,8,9,10],[]),
 (230,12,[0,6,8],[6]),
 (230,18,[1,45],[]),
 (196,1,[0,1,4],[]),
 (197,11,[0,1,3,4,10,11,12,13,14,15,16],[12]),
 (197,18,[0,1,3,4,10,11,12,13,17],[12]),
 (232,5,[0,1,5,6,7,8,9],[]),
 (232,11,[0,1,5,6,7,8,10],[]),
 (199,5,[0,7,8,9],[]),
 (199,12,[0,7,8,9,12],[]),
 (199,25,[0,7,8,9,14,15],[]),
 (199,29,[0,7,8,9,14,15,16],[]),
 (199,38,[175],[]),
 (128,2,[0,2,4],[2]),
 (236,3,[0,4,5],[]),
 (236,8,[4,6,7,8],[]),
 (101,5,[0,3,4],[]),
 (59,3,[0,3,4],[]),
 (42,4,[0,1,2,7],[]),
 (148,2,[0,1,2,7],[100000,100001]),
 (70,1,[0],[]),
 (70,3,[0],[]),
 (25,3,[0,1,5,6],[]),
 (137,2,[0,1,7,8],[100000]),
 (5,18,[9,11,13,14,15,16],[]),
 (8,11,[1,5,7,8,9,10],[9]),
 (17,3,[4,9,10,11],[4]),
 (24,2,[0,3],[]),
 (24,7,[0,3,4,5,6],[4]),
 (47,3,[0,2,3,4],[2,3,100000]),
 (55,3,[1,3,11,12,13],[1]),
 (56,2,[0,3],[]),
 (81,4,[1,2,15,16,17],[100000]),
 (83,4,[1,2,15,16,17],[100000]),
 (85,4,[1,2,15,16,17],[100000]),
 (91,2,[0,4],[100000]),
 (104,2,[0,1,7,8],[100000]),
 (105,2,[0,1,7,8,9],[]),
 (141,2,[0,3],[100000]),
 (151,2,[0,1,7,8],[]),
 (170,3,[3,8,9,10],[]),
 (1000000,0,[],[])]
def eh (f r:Nat):List Nat×List Nat:=match KM.find? (fun x=>x.1==f&&x.2.1==r) with|some x=>x.2.2|none=>([],[])
def prL:List (Nat×Prim):=[
 (177,kY),
 (179,gM),
 (193,sa),
 (230,km),
 (68,xw),
 (142,pLow),
 (170,nv),
 (98,Ao),
 (124,vd),
 (45,pAt),
 (206,u0),
 (79,wY),
 (80,y7),
 (205,od),
 (1000000,fun _ _=>none)]
def prF (f:Nat):Option Prim:=(prL.find? (fun x=>x.1==f)).map (·.2)
def ev (f i:Nat):Bool:=f==145&&i==6
def ownB (f:Nat):Bool :=
 f==227 ||
 f==1000000
def Gi (P:Program) (f:Nat):Bool :=
 match P.funcs[f]? with
 | some fn => fn.name != "runtime.NumGoroutine" && (match fn.body with | some c => fl (ev f) c | none => false)
 | none=>false
def goods:List Nat:=[3,4,5,6,7,8,9,10,11,12,13,14,15,16,17,18,19,20,21,22,23,24,25,26,27,28,29,30,31,32,33,34,35,36,37,38,39,40,41,42,43,44,45,46,47,48,49,50,51,52,53,54,55,56,57,58,59,60,61,62,63,64,65,66,67,68,69,70,71,72,73,74,75,76,77,78,79,80,81,82,83,84,85,86,87,88,89,90,91,92,93,94,95,96,97,98,99,100,101,102,103,104,105,106,107,108,109,110,111,112,113,114,115,116,117,118,119,120,121,122,123,124,125,126,127,128,129,130,131,132,133,134,135,136,137,138,139,140,141,142,143,144,145,146,147,148,149,150,151,152,153,154,155,156,157,159,160,161,162,163,164,165,166,167,168,169,170,171,172,173,174,175,176,177,178,179,180,181,182,183,184,185,186,187,188,189,190,191,193,194,195,196,197,198,199,200,201,202,203,204,205,206,207,208,209,210,211,212,213,214,215,216,217,218,219,220,221,223,224,225,226,227,228,230,231,232,233,234,235,236,266]
theorem x9:goods.all (Gi Tryz.prog)=true:=by kernel_rfl
theorem yq {g : Nat} (hg : goods.contains g = true) : ∃ fn, Tryz.prog.funcs[g]? = some fn ∧ fn.name ≠ "runtime.NumGoroutine" ∧ fn.body.isSome = true := by
 have h1:g∈goods:=by simpa using hg
 have h2:=List.all_eq_true.1 x9 g h1
 unfold Gi at h2
 split at h2
 ·rename_i fn hfn
  simp only[Bool.and_eq_true] at h2
  obtain ⟨h3,h4⟩:=h2
  split at h4
  ·rename_i c hc
   exact ⟨fn,hfn,by simpa using h3,by rw[hc];rfl⟩
  ·cases h4
 ·cases h2
def hpL:List (Nat×(List AV→List (List CV)→Plan)):=[
 (37,fx goods.contains),
 (46,parse1P),
 (1000000,fun _ _ => .fail)]
def hpF (f:Nat):Option (List AV→List (List CV)→Plan):=(hpL.find? (fun x=>x.1==f)).map (·.2)
noncomputable def K:Cfg := { P:=Tryz.prog,pr:=prF,keep:=eh,ownRet:=ownB,good:=goods.contains,hook:=ev,hp:=hpF }
theorem JE:Prog K:=by
 refine ⟨by kernel_rfl,fun g hg => ?_,fun f F args bxs x _ hF hx => ?_,fun f F args bxs r call _ hF hc hr => ?_⟩
 ·have h1:g∈goods:=by simpa[K] using hg
  have h2:=List.all_eq_true.1 x9 g h1
  unfold Gi at h2
  split at h2
  ·rename_i fn hfn
   simp only[Bool.and_eq_true] at h2
   obtain ⟨h3,h4⟩:=h2
   split at h4
   ·rename_i c hc
    exact ⟨fn,c,hfn,by simpa using h3,hc,h4⟩
   ·cases h4
  ·cases h2
 ·have h1 : ∀ y∈prL, ∀ args bxs x,y.2 args bxs=some x→Contract Tryz.prog y.1 args bxs (.ret x.1 x.2):=by
   intro y hy
   simp only[prL,List.mem_cons,List.not_mem_nil,or_false] at hy
   repeat' (first|(rcases hy with rfl|hy)|(cases hy))
   all_goals first
    | exact fun _ _ _ h=>tm h
    | exact fun _ _ _ h=>mU h
    | exact fun _ _ _ h=>CZ h
    | exact fun _ _ _ h=>vI h
    | exact fun _ _ _ h=>E7 h
    | exact fun _ _ _ h=>HH h
    | exact fun _ _ _ h=>pSmall_ok h
    | exact fun _ _ _ h=>zx h
    | exact fun _ _ _ h=>DN h
    | exact fun _ _ _ h=>CU h
    | exact fun _ _ _ h=>JV h
    | exact fun _ _ _ h=>CO h
    | exact fun _ _ _ h=>Ec h
    | exact fun _ _ _ h=>ED h
    | exact fun _ _ _ h=>AO h
    | exact fun _ _ _ h=>by cases h
  have h2:prF f=some F:=hF
  unfold prF at h2
  rw[Option.map_eq_some_iff] at h2
  obtain ⟨y,hy,rfl⟩:=h2
  have h3:=List.mem_of_find?_eq_some hy
  have h4:y.1=f:=by simpa using List.find?_some hy
  rw[←h4]
  exact h1 y h3 args bxs x hx
 ·have h1 : ∀ y∈hpL, ∀ args bxs r,(y.2 args bxs).run call=some r→Contract Tryz.prog y.1 args bxs r:=by
   intro y hy
   simp only[hpL,List.mem_cons,List.not_mem_nil,or_false] at hy
   repeat' (first|(rcases hy with rfl|hy)|(cases hy))
   all_goals first
    | exact fun _ _ _ h=>GB (fun _=>yq) (by kernel_rfl) hc h
    | exact fun _ _ _ h=>B9 (fun _=>yq) (by kernel_rfl) hc h
    | exact fun _ _ _ h=>by cases h
  have h2:hpF f=some F:=hF
  unfold hpF at h2
  rw[Option.map_eq_some_iff] at h2
  obtain ⟨y,hy,rfl⟩:=h2
  have h3:=List.mem_of_find?_eq_some hy
  have h4:y.1=f:=by simpa using List.find?_some hy
  rw[←h4]
  exact h1 y h3 args bxs r hr
end Go.Abs
namespace Go.Abs.Tk
open Go
theorem yN:begins 0=false:=by decide
theorem pW:within 0=false:=by decide
theorem sH:digit 0=false:=by decide
theorem m5 {c:UInt8} (h:begins c=true):within c=true:=by simp[within,h]
theorem kQ {c:UInt8} (h:begins c=true):digit c=false:=by
 simp only[begins,digit,decide_eq_true_eq,decide_eq_false_iff_not] at *;omega
theorem sg {c d:UInt8} (h:digit c=true) (hd:digit d=false):c≠d:=fun e=>by rw[e,hd] at h;cases h
theorem tV {c d:UInt8} (h:within c=true) (hd:within d=false):c≠d:=fun e=>by rw[e,hd] at h;cases h
theorem yL {c:UInt8} (h:blank c=true):c=32∨c=10∨c=9∨c=12∨c=13:=by simpa[blank,or_assoc] using h
theorem n6 {c:UInt8} (h:within c=true):blank c=false:=by
 cases hb:blank c
 ·rfl
 ·rcases yL hb with rfl|rfl|rfl|rfl|rfl<;>revert h<;>decide
theorem vz {c:UInt8} (h:digit c=true):within c=true:=by simp[within,h]
theorem xm {c:UInt8} (h:digit c=true):blank c=false:=n6 (vz h)
section run
variable {p:UInt8→Bool}
theorem qI:run p []=0:=rfl
theorem run_le : ∀ l:List UInt8,run p l≤l.length
 | []=>Nat.le_refl _
 | c::r=>by
  rw[run];have:=run_le r
  split<;>simp<;>omega
theorem Hc {c:UInt8} {r:List UInt8} (h:p c=true):0<run p (c::r):=by rw[run,if_pos h];omega
theorem oQ : ∀ l:List UInt8, ∀ b∈l.take (run p l),p b=true
 | [],b,h=>by simp at h
 | c::r,b,h=>by
  rw[run] at h
  split at h
  ·rename_i hc
   rw[List.take_succ_cons] at h
   rcases List.mem_cons.1 h with rfl|h
   ·exact hc
   ·exact oQ r b h
  ·simp at h
theorem xG (h0:p 0=false) : ∀ l:List UInt8,p (at0 (l.drop (run p l)))=false
 | []=>h0
 | c::r=>by
  rw[run]
  split
  ·rw[List.drop_succ_cons];exact xG h0 r
  ·rename_i hc
   simpa[at0] using hc
theorem Bo : ∀ {a y:List UInt8},(∀ b∈a,p b=true)→run p (a++y)=a.length+run p y
 | [],y,_=>by simp
 | c::a,y,h=>by
  rw[List.cons_append,run,if_pos (h c (by simp)),Bo fun b hb=>h b (by simp[hb])]
  simp;omega
theorem wC : ∀ {y:List UInt8},p (at0 y)=false→run p y=0
 | [],_=>rfl
 | c::r,h=>by
  rw[run,if_neg];simpa[at0] using h
theorem rv {a y:List UInt8} (h : ∀ b∈a,p b=true) (hy:p (at0 y)=false):run p (a++y)=a.length:=by rw[Bo h,wC hy];rfl
theorem lx {y:List UInt8} (h0:p 0=false):0<run p y↔p (at0 y)=true:=by
 cases y with
 | nil=>simp[run,at0,h0]
 | cons c r =>
  rw[run,at0]
  cases p c<;>simp
end run
theorem wb {a y:List UInt8} (h:a≠[]):at0 (a++y)=at0 a:=by
 cases a with
 | nil=>exact absurd rfl h
 | cons c r=>rfl
def eo (x:List UInt8):Prop:=dR x=true ∧ ∀ b∈x,within b=true
theorem pm:dR []=false:=by decide
theorem jf {x:List UInt8} (h:eo x):x≠[]:=fun e=>by have:=h.1;rw[e,pm] at this;cases this
theorem zF {x:List UInt8} (h:eo x):0<x.length:=List.length_pos_iff.2 (jf h)
theorem oT {x y:List UInt8} (h:dR x=true):dR (x++y)=true:=by
 match x,h with
 | [],h=>rw[pm] at h;cases h
 | [c],h =>
  have hc:begins c=true:=by
   simp only[dR,at0,List.tail_cons,yN,Bool.false_or,Bool.or_eq_true,Bool.and_eq_true,beq_iff_eq] at h
   rcases h with h|⟨_,h⟩
   ·exact h
   ·exact absurd h (by decide)
  simp[dR,at0,hc]
 | c::d::r,h=>exact h
theorem gc {x:List UInt8} (h:dR x=true):within (at0 x)=true:=by
 simp only[dR,Bool.or_eq_true,Bool.and_eq_true,beq_iff_eq] at h
 rcases h with h|⟨h,_⟩
 ·exact m5 h
 ·rw[h];decide
theorem nK {x y:List UInt8} (h:eo x) (hy:within (at0 y)=false):name (x++y)=x.length:=by
 rw[name,if_pos (oT h.1),rv h.2 hy]
theorem gN {y:List UInt8} (h:dR y=false):name y=0:=by rw[name,h];rfl
theorem xk {l:List UInt8} (h:0<name l):dR l=true:=by
 rw[name] at h;split at h
 ·assumption
 ·omega
theorem gm {l:List UInt8}:0<name l↔dR l=true:=by
 refine ⟨xk,fun h => ?_⟩
 rw[name,if_pos h]
 exact (lx pW).2 (gc h)
theorem mG (l:List UInt8):name l≤l.length:=by
 rw[name];split
 ·exact run_le l
 ·omega
theorem mN {l:List UInt8} (h:0<name l):eo (l.take (name l)):=by
 have hb:=xk h
 have e:name l=run within l:=by rw[name,if_pos hb]
 refine ⟨?_,by rw[e];exact oQ l⟩
 rw[e]
 match l,hb with
 | [],hb=>rw[pm] at hb;cases hb
 | [c],hb =>
  have:run within [c]=1:=by rw[run,if_pos (show within c=true from gc hb)];rfl
  rw[this];exact hb
 | c::d::r,hb =>
  have hc:within c=true:=gc hb
  by_cases hd:within d=true
  ·have:run within (c::d::r)=run within r+2:=by rw[run,if_pos hc,run,if_pos hd]
   rw[this];exact hb
  ·have hd':within d=false:=by simpa using hd
   have:run within (c::d::r)=1:=by rw[run,if_pos hc,run,if_neg hd]
   rw[this]
   simp only[dR,at0,List.tail_cons,Bool.or_eq_true,Bool.and_eq_true,beq_iff_eq] at hb
   have hbc:begins c=true:=by
    rcases hb with hb|⟨_,hb|hb⟩
    ·exact hb
    ·rw[m5 hb] at hd';cases hd'
    ·exact absurd hd' (by rw[hb];decide)
   simp[dR,at0,hbc]
theorem qu : ∀ {l:List UInt8} {n:Nat},shut l=some n→n≤l.length∧2≤n
 | c::r,n,h=>by
  rw[shut] at h
  split at h
  ·rename_i hc
   cases h
   cases r with
   | nil=>exact absurd hc.2 (by decide)
   | cons d r=>simp
  ·rw[Option.map_eq_some_iff] at h
   obtain ⟨m,hm,rfl⟩:=h
   have:=qu hm
   simp;omega
theorem wH (r:List UInt8):2≤comment r:=by unfold comment;split<;>omega
theorem nx {q:UInt8} : ∀ {l:List UInt8} {n:Nat},inner q l=some n→n+1≤l.length
 | c::r,n,h=>by
  rw[inner] at h
  split at h
  ·cases h;simp
  ·split at h
   ·cases h
   ·rw[Option.map_eq_some_iff] at h
    obtain ⟨m,hm,rfl⟩:=h
    have:=nx hm
    simp;omega
theorem sw {q:UInt8} : ∀ {l:List UInt8} {n:Nat},inner q l=some n → ∀ b∈l.take n,b≠q∧ending b=false
 | c::r,n,h,b,hb=>by
  rw[inner] at h
  split at h
  ·cases h;simp at hb
  ·rename_i hq
   split at h
   ·cases h
   ·rename_i he
    rw[Option.map_eq_some_iff] at h
    obtain ⟨m,hm,rfl⟩:=h
    rw[List.take_succ_cons] at hb
    rcases List.mem_cons.1 hb with rfl|hb
    ·exact ⟨hq,by simpa using he⟩
    ·exact sw hm b hb
theorem uF {q:UInt8} {y:List UInt8} : ∀ {x:List UInt8},(∀ b∈x,b≠q∧ending b=false)→inner q (x++q::y)=some x.length
 | [],_=>by simp[inner]
 | c::x,h=>by
  have hc:=h c (by simp)
  rw[List.cons_append,inner,if_neg hc.1,if_neg (by simp[hc.2]),uF fun b hb=>h b (by simp[hb])]
  rfl
theorem qt : ∀ {a y:List UInt8} {n:Int},(∀ b∈a,digit b=true)→num n (a++y)=num (num n a) y
 | [],_,_,_=>rfl
 | c::a,y,n,h=>by
  rw[List.cons_append,num,if_pos (h c (by simp)),num,if_pos (h c (by simp)),qt fun b hb=>h b (by simp[hb])]
theorem yJ {y:List UInt8} {n:Int} (h:digit (at0 y)=false):num n y=n:=by
 cases y with
 | nil=>rfl
 | cons c r=>rw[num,if_neg];simpa[at0] using h
theorem mq : ∀ {l:List UInt8} {n:Int},0≤n→n≤999999999→0≤num n l∧num n l≤999999999
 | [],n,h1,h2=>⟨h1,h2⟩
 | c::r,n,h1,h2=>by
  rw[num]
  split
  ·rename_i hc
   have:48≤c.toNat:=by simp only[digit,decide_eq_true_eq] at hc;omega
   exact mq (by omega) (by omega)
  ·exact ⟨h1,h2⟩
theorem lS {k:Nat} (h:k<10):digit (UInt8.ofNat (48+k))=true∧((UInt8.ofNat (48+k)).toNat:Int) - 48=k:=by
 have:(UInt8.ofNat (48+k)).toNat=48+k:=by rw[UInt8.toNat_ofNat'];omega
 refine ⟨?_,by rw[this];omega⟩
 simp only[digit,this,decide_eq_true_eq];omega
theorem kH : ∀ (k u:Nat),u≤k → ∀ b∈Lib.decDigits u,digit b=true:=by
 intro k
 induction k with
 | zero =>
  intro u hu b hb
  rw[Lib.decDigits,dif_pos (by omega)] at hb
  simp only[List.mem_singleton] at hb
  rw[hb];exact (lS (by omega)).1
 | succ k ih =>
  intro u hu b hb
  rw[Lib.decDigits] at hb
  split at hb
  ·simp only[List.mem_singleton] at hb
   rw[hb];exact (lS (by omega)).1
  ·rcases List.mem_append.1 hb with hb|hb
   ·exact ih (u / 10) (by omega) b hb
   ·simp only[List.mem_singleton] at hb
    rw[hb];exact (lS (Nat.mod_lt _ (by omega))).1
theorem H4 : ∀ (k u:Nat),u≤k→u≤999999999→num 0 (Lib.decDigits u)=u:=by
 intro k
 induction k with
 | zero =>
  intro u hu _
  obtain rfl:u=0:=by omega
  rw[Lib.decDigits,dif_pos (by omega)]
  decide
 | succ k ih =>
  intro u hu hm
  rw[Lib.decDigits]
  split
  ·rename_i h
   have h2:=lS h
   rw[num,if_pos h2.1,num,h2.2];omega
  ·have h2:=lS (Nat.mod_lt u (by omega:0<10))
   rw[qt (kH (u / 10) (u / 10) (Nat.le_refl _)),ih (u / 10) (by omega) (by omega),num,if_pos h2.1,num,h2.2];omega
theorem AN : ∀ (u:Nat),Lib.decDigits u≠[]:=by
 intro u h
 rw[Lib.decDigits] at h
 split at h<;>simp at h
end Go.Abs.Tk
namespace Go.Abs.Tk
open Go
inductive Good:Tok→Prop
 | ident (x:List UInt8):eo x→Good ⟨1,x,0⟩
 | func (x:List UInt8):eo x→Good ⟨2,x,0⟩
 | word (x:List UInt8):eo x→Good ⟨3,x,0⟩
 | hash (x:List UInt8):x≠[]→(∀ b∈x,within b=true)→Good ⟨4,x,0⟩
 | num (x:List UInt8) (n:Int) : -999999999≤n→n≤999999999→(x=[]∨x=[37]∨eo x)→Good ⟨5,x,n⟩
 | str (x:List UInt8) (q:UInt8):q=34∨q=39→(∀ b∈x,b≠q∧ending b=false)→Good ⟨6,x,q.toNat⟩
 | delim (c:UInt8):begins c=false→digit c=false→blank c=false→Good ⟨7,[c],0⟩
 | white:Good ⟨8,[10],0⟩
theorem Cy (l:List UInt8):l.take (unit l)=[]∨l.take (unit l)=[37]∨eo (l.take (unit l)):=by
 unfold unit
 split
 ·rename_i h
  cases l with
  | nil=>exact absurd h (by decide)
  | cons c r=>right;left;rw[at0] at h;rw[h];rfl
 ·by_cases h:0<name l
  ·exact .inr (.inr (mN h))
  ·left;rw[show name l=0 by omega];rfl
theorem vP (l:List UInt8):unit l≤l.length:=by
 unfold unit
 split
 ·rename_i h
  cases l with
  | nil=>exact absurd h (by decide)
  | cons c r=>simp
 ·exact mG l
theorem pJ (neg:Bool) (l:List UInt8):Good (number neg l).1:=by
 have hb:=mq (l:=l) (n:=0) (by omega) (by omega)
 unfold number
 refine .num _ _ ?_ ?_ (Cy _)
 ·cases neg<;>simp<;>omega
 ·cases neg<;>simp<;>omega
theorem ug (neg:Bool) (l:List UInt8):(number neg l).2≤l.length:=by
 unfold number
 have h1:=run_le (p:=digit) l
 have h2:=vP (l.drop (run digit l))
 simp only[List.length_drop] at h2
 simp only;omega
theorem Ax (neg:Bool) (l:List UInt8) (h:digit (at0 l)=true):1≤(number neg l).2:=by
 unfold number
 have:=(lx (y:=l) sH).2 h
 simp only;omega
theorem tA {c:UInt8} {r:List UInt8} {t:Tok} (h:(step c r).1=some t):Good t:=by
 unfold step at h
 split at h
 ·cases h
 split at h
 ·cases h;exact .white
 split at h
 ·rename_i hq
  cases h
  obtain ⟨n,hn⟩:=Option.isSome_iff_exists.1 hq.2
  rw[hn]
  exact .str _ c hq.1 (sw hn)
 split at h
 ·rename_i hq
  cases h
  exact .hash _ (fun e=>by
   have h1:=congrArg List.length e
   rw[List.length_take,List.length_nil] at h1
   have h2:=run_le (p:=within) r
   have h3:=hq.2
   omega) (oQ r)
 split at h
 ·rename_i hq
  cases h
  exact .word _ (mN hq.2)
 split at h
 ·cases h;exact pJ _ _
 split at h
 ·cases h;exact pJ _ _
 split at h
 ·rename_i hn
  split at h
  ·cases h;exact .func _ (mN hn)
  ·cases h;exact .ident _ (mN hn)
 ·rename_i h1 h2 h3 h4 h5 h6 h7 h8
  cases h
  refine .delim c ?_ (by simpa using h6) (by simpa using h2)
  cases hb:begins c
  ·rfl
  ·exact absurd (gm.2 (show dR (c::r)=true by simp[dR,at0,hb])) h8
theorem kz (c:UInt8) (r:List UInt8):1≤(step c r).2:=by
 unfold step
 split
 ·have:=wH r.tail;simp only;omega
 split
 ·rename_i h;exact Hc h
 split
 ·rename_i h
  obtain ⟨n,hn⟩:=Option.isSome_iff_exists.1 h.2
  simp only;omega
 split
 ·simp only;omega
 split
 ·simp only;omega
 split
 ·rename_i h;exact Ax false (c::r) h
 split
 ·simp only;omega
 split
 ·split<;>simp only<;>omega
 ·exact Nat.le_refl _
theorem Af {r:List UInt8}:comment r≤r.length+2:=by
 unfold comment
 split
 ·rename_i n h;have:=qu h;omega
 ·omega
theorem v7 (c:UInt8) (r:List UInt8):(step c r).2≤(c::r).length:=by
 unfold step
 split
 ·rename_i h
  have:=Af (r:=r.tail)
  cases r with
  | nil=>exact absurd h.2 (by decide)
  | cons d r=>simp only[List.tail_cons,List.length_cons] at *;omega
 split
 ·exact run_le _
 split
 ·rename_i h
  obtain ⟨n,hn⟩:=Option.isSome_iff_exists.1 h.2
  have:=nx hn
  rw[hn];simp;omega
 split
 ·have:=run_le (p:=within) r;simp;omega
 split
 ·have:=mG r;simp;omega
 split
 ·exact ug false _
 split
 ·have:=ug true r;simp;omega
 split
 ·rename_i h
  split
  ·rename_i h40
   have h1:=mG (c::r)
   have:name (c::r)≠(c::r).length:=fun e=>by
    rw[e,List.drop_length] at h40;exact absurd h40 (by decide)
   simp only;omega
  ·exact mG _
 ·simp
theorem IM : ∀ (k j:Nat) (l:List UInt8),l.length≤k→l.length≤j→allN k l=allN j l:=by
 intro k
 induction k with
 | zero =>
  intro j l h _
  obtain rfl:l=[]:=List.length_eq_zero_iff.1 (by omega)
  cases j<;>rfl
 | succ k ih =>
  intro j l hk hj
  cases l with
  | nil=>cases j<;>rfl
  | cons c r =>
   cases j with
   | zero=>simp at hj
   | succ j =>
    have hp:=kz c r
    have hd:((c::r).drop (step c r).2).length≤r.length:=by rw[List.length_drop];simp;omega
    simp only[List.length_cons] at hk hj
    rw[allN,allN,ih j _ (by omega) (by omega)]
theorem all_nil:all []=[]:=rfl
theorem all_cons (c:UInt8) (r:List UInt8):all (c::r)=(step c r).1.toList++all ((c::r).drop (step c r).2):=by
 have hp:=kz c r
 have hd:((c::r).drop (step c r).2).length≤r.length:=by rw[List.length_drop];simp;omega
 rw[all,List.length_cons,allN]
 rw[IM r.length _ _ hd (Nat.le_refl _),←all]
theorem nY {Q:List UInt8→Prop} (h0:Q []) (h1 : ∀ c r,Q ((c::r).drop (step c r).2)→Q (c::r)) : ∀ l,Q l:=by
 have : ∀ (k:Nat) (l:List UInt8),l.length≤k→Q l:=by
  intro k
  induction k with
  | zero=>intro l h;obtain rfl:l=[]:=List.length_eq_zero_iff.1 (by omega);exact h0
  | succ k ih =>
   intro l h
   cases l with
   | nil=>exact h0
   | cons c r =>
    have hp:=kz c r
    exact h1 c r (ih _ (by rw[List.length_drop];simp at *;omega))
 exact fun l=>this l.length l (Nat.le_refl _)
theorem rF (l:List UInt8) : ∀ t∈all l,Good t:=by
 refine nY (Q:=fun l => ∀ t∈all l,Good t) (fun t h=>by simp[all_nil] at h) (fun c r ih t ht => ?_) l
 rw[all_cons] at ht
 rcases List.mem_append.1 ht with ht|ht
 ·exact tA (by simpa[Option.mem_toList] using ht)
 ·exact ih t ht
theorem iH (c:UInt8) (r:List UInt8):at0 (c::r)=c:=rfl
def sep (t:Tok) (y:List UInt8):Prop :=
 (t.kind=1→within (at0 y)=false∧at0 y≠40) ∧
 (t.kind=3∨t.kind=4→within (at0 y)=false) ∧
 (t.kind=5→(t.text=[]→digit (at0 y)=false∧at0 y≠37∧dR y=false)∧(eo t.text→within (at0 y)=false)) ∧
 (t.kind=8→blank (at0 y)=false) ∧
 (t.kind=7→(t.text=[47]→at0 y≠42)∧(t.text=[35]→within (at0 y)=false)∧(t.text=[64]→dR y=false)∧(t.text=[45]→digit (at0 y)=false∧dR (45::y)=false))
theorem nq {c:UInt8} {y:List UInt8} (h:at0 y=c) (hc:within c=false):dR y=false:=by
 cases hn:dR y
 ·rfl
 ·have:=gc hn;rw[h,hc] at this;cases this
theorem AP {y:List UInt8} (h:begins (at0 y)=false) (h2:at0 y≠45):dR (45::y)=false:=by
 have e:dR (45::y)=(begins 45||((45:UInt8)==45&&(begins (at0 y)||at0 y==45))):=rfl
 rw[e,h,beq_eq_false_iff_ne.2 h2];decide
theorem GV {y:List UInt8} {c:UInt8} (h:at0 y=c) (t:Tok) (h1:within c=false) (h2:blank c=false) (h3:c≠40) (h4:c≠37) (h5:c≠42):sep t y:=by
 have hb:begins c=false:=by simp only[within,Bool.or_eq_false_iff] at h1;exact h1.1.1
 have hd:digit c=false:=by simp only[within,Bool.or_eq_false_iff] at h1;exact h1.1.2
 have h45:c≠45:=fun e=>by rw[e] at h1;revert h1;decide
 have hn:=nq h h1
 unfold sep
 rw[h]
 exact ⟨fun _=>⟨h1,h3⟩,fun _=>h1,fun _=>⟨fun _=>⟨hd,h4,hn⟩,fun _=>h1⟩,fun _=>h2,fun _=>⟨fun _=>h5,fun _=>h1,fun _=>hn,fun _=>⟨hd,AP (by rw[h];exact hb) (by rw[h];exact h45)⟩⟩⟩
theorem Hu (t:Tok):sep t []:=GV (c:=0) rfl t (by decide) (by decide) (by decide) (by decide) (by decide)
theorem jM {c:UInt8} {r:List UInt8} (h:dR (c::r)=true):begins c=true∨c=45∧(begins (at0 r)=true∨at0 r=45):=by
 simpa[dR,at0] using h
theorem uc {c:UInt8} {r:List UInt8} (h:dR (c::r)=true):step c r =
  if at0 ((c::r).drop (name (c::r)))=40 then (some ⟨2,(c::r).take (name (c::r)),0⟩,name (c::r)+1)
  else (some ⟨1,(c::r).take (name (c::r)),0⟩,name (c::r)):=by
 have hw:within c=true:=gc h
 have hne : ∀ d,within d=false→c≠d:=fun d hd=>tV hw hd
 have hdig:digit c=false:=by
  rcases jM h with hb|⟨rfl,_⟩
  ·exact kQ hb
  ·decide
 have h45 : ¬ (c=45∧digit (at0 r)=true):=by
  rintro ⟨rfl,hd⟩
  rcases jM h with hb|⟨_,hb|hb⟩
  ·exact absurd hb (by decide)
  ·rw[kQ hb] at hd;cases hd
  ·rw[hb] at hd;revert hd;decide
 unfold step
 rw[if_neg (fun e=>hne 47 (by decide) e.1),if_neg (by simp[n6 hw]),if_neg (fun e=>by
  rcases e.1 with e|e
  ·exact hne 34 (by decide) e
  ·exact hne 39 (by decide) e),if_neg (fun e=>hne 35 (by decide) e.1),if_neg (fun e=>hne 64 (by decide) e.1),if_neg (by simp[hdig]),if_neg h45,if_pos (gm.2 h)]
theorem mb {c:UInt8} {r:List UInt8} (h:digit c=true):step c r=(some (number false (c::r)).1,(number false (c::r)).2):=by
 have hne : ∀ d,digit d=false→c≠d:=fun d hd=>sg h hd
 unfold step
 rw[if_neg (fun e=>hne 47 (by decide) e.1),if_neg (by simp[xm h]),if_neg (fun e=>by
  rcases e.1 with e|e
  ·exact hne 34 (by decide) e
  ·exact hne 39 (by decide) e),if_neg (fun e=>hne 35 (by decide) e.1),if_neg (fun e=>hne 64 (by decide) e.1),if_pos h]
theorem nf {r:List UInt8} (h:digit (at0 r)=true):step 45 r=(some (number true r).1,(number true r).2+1):=by
 unfold step
 rw[if_neg (fun e=>absurd e.1 (by decide)),if_neg (by decide),if_neg (by simp),if_neg (by simp),if_neg (by simp),if_neg (by decide),if_pos ⟨rfl,h⟩]
theorem qZ (neg:Bool) {u:Nat} (hu:u≤999999999) {z:List UInt8} (hz:digit (at0 z)=false):number neg (Lib.decDigits u++z)=(⟨5,z.take (unit z),if neg then -(u:Int) else u⟩,(Lib.decDigits u).length+unit z):=by
 have hd:=kH u u (Nat.le_refl _)
 unfold number
 rw[rv hd hz,List.drop_left,qt hd,H4 u u (Nat.le_refl _) hu,yJ hz]
theorem Cb {y:List UInt8} (h1:at0 y≠37) (h2:dR y=false):unit y=0:=by rw[unit,if_neg h1,gN h2]
theorem Dx {x y:List UInt8} (h:eo x) (hy:within (at0 y)=false):unit (x++y)=x.length:=by
 have:at0 (x++y)≠37:=by
  rw[wb (jf h)]
  exact tV (gc h.1) (by decide)
 rw[unit,if_neg this,nK h hy]
theorem uW {x:List UInt8} (h:dR x=true):digit (at0 x)=false:=by
 cases x with
 | nil=>rfl
 | cons c r =>
  rcases jM h with hb|⟨rfl,_⟩
  ·exact kQ hb
  ·rw[iH];decide
theorem Gj {x y:List UInt8} {n:Int} (hx:x=[]∨x=[37]∨eo x) (hs:sep ⟨5,x,n⟩ y):digit (at0 (x++y))=false∧unit (x++y)=x.length:=by
 obtain ⟨_,_,h5,_,_⟩:=hs
 obtain ⟨h6,h7⟩:=h5 rfl
 rcases hx with rfl|rfl|hx
 ·obtain ⟨a,b,c⟩:=h6 rfl
  exact ⟨a,Cb b c⟩
 ·exact ⟨by show digit 37=false;decide,rfl⟩
 ·exact ⟨by rw[wb (jf hx)];exact uW hx.1,Dx hx (h7 hx)⟩
theorem IW (x:List UInt8) (n:Int):oneS ⟨5,x,n⟩=Lib.itoa n++x:=rfl
theorem IA {x y:List UInt8} {n:Int} (h1 : -999999999≤n) (h2:n≤999999999) (hd:digit (at0 (x++y))=false) (hu:unit (x++y)=x.length):all (Lib.itoa n++(x++y))=⟨5,x,n⟩::all y:=by
 by_cases hn:n<0
 ·have e:Lib.itoa n=45::Lib.decDigits n.natAbs:=by unfold Lib.itoa;rw[if_pos hn]
  have hh:digit (at0 (Lib.decDigits n.natAbs++(x++y)))=true:=by
   rw[wb (AN _)]
   cases hl:Lib.decDigits n.natAbs with
   | nil=>exact absurd hl (AN _)
   | cons c r=>exact kH _ _ (Nat.le_refl _) c (by rw[hl];simp)
  rw[e,List.cons_append,all_cons,nf hh,qZ true (by omega) hd,hu]
  simp only[Option.toList_some,List.drop_succ_cons,List.cons_append,List.nil_append,if_true]
  rw[←List.drop_drop,List.drop_left,List.drop_left,List.take_left]
  rw[show -((n.natAbs:Nat):Int)=n by omega]
 ·have e:Lib.itoa n=Lib.decDigits n.toNat:=by unfold Lib.itoa;rw[if_neg hn]
  rw[e]
  cases hl:Lib.decDigits n.toNat with
  | nil=>exact absurd hl (AN _)
  | cons c r =>
   have hc:digit c=true:=kH _ _ (Nat.le_refl _) c (by rw[hl];simp)
   rw[List.cons_append,all_cons,mb hc,←List.cons_append,←hl,qZ false (by omega) hd,hu]
   simp only[Option.toList_some,List.cons_append,List.nil_append,Bool.false_eq_true,if_false]
   rw[←List.drop_drop,List.drop_left,List.drop_left,List.take_left]
   rw[show ((n.toNat:Nat):Int)=n by omega]
theorem D8 (y:List UInt8):all (47::42::10::42::47::y)=all y:=by
 rw[all_cons]
 rfl
theorem Dr {q:UInt8} (h:q=34∨q=39) (y:List UInt8):all (q::47::42::10::42::47::y)=⟨7,[q],0⟩::all y:=by
 have hi:inner q (47::42::10::42::47::y)=none:=by rcases h with rfl|rfl<;>rfl
 have e:step q (47::42::10::42::47::y)=(some ⟨7,[q],0⟩,1):=by
  unfold step
  rcases h with rfl|rfl<;>(rw[hi];rfl)
 rw[all_cons,e]
 simp only[Option.toList_some,List.drop_succ_cons,List.drop_zero,List.cons_append,List.nil_append,D8]
theorem zM {c:UInt8} {y:List UInt8} (h1:begins c=false) (h2:digit c=false) (h3:blank c=false) (h34:c≠34) (h39:c≠39) (hs:sep ⟨7,[c],0⟩ y):step c y=(some ⟨7,[c],0⟩,1):=by
 obtain ⟨_,_,_,_,h7⟩:=hs
 obtain ⟨a,b,d,e⟩:=h7 rfl
 unfold step
 rw[if_neg (fun x=>a (by rw[x.1]) x.2),if_neg (by simp[h3]),if_neg (fun x=>by rcases x.1 with x|x<;>contradiction),
  if_neg (fun x=>by have:=(lx pW).1 x.2;rw[b (by rw[x.1])] at this;cases this),
  if_neg (fun x=>by have:=gm.1 x.2;rw[d (by rw[x.1])] at this;cases this),
  if_neg (by simp[h2]),if_neg (fun x=>by have:=(e (by rw[x.1])).1;rw[x.2] at this;cases this),if_neg]
 intro x
 have hn:=gm.1 x
 rcases jM hn with hb|⟨rfl,_⟩
 ·rw[h1] at hb;cases hb
 ·rw[(e rfl).2] at hn;cases hn
theorem De {c:UInt8} (h34:c≠34) (h39:c≠39):oneS ⟨7,[c],0⟩=[c]:=by simp[oneS,h34,h39]
theorem HF {t:Tok} {y:List UInt8} (h:Good t) (hs:sep t y):all (oneS t++y)=t::all y:=by
 cases h with
 | ident x hx =>
  have e1:oneS ⟨1,x,0⟩=x:=rfl
  obtain ⟨hw,h40⟩:=hs.1 rfl
  have hn:=nK hx hw
  have hb:=oT (y:=y) hx.1
  rw[e1]
  cases x with
  | nil=>exact absurd rfl (jf hx)
  | cons c r =>
   rw[List.cons_append] at hn hb ⊢
   rw[all_cons,uc hb,hn,←List.cons_append,List.drop_left,List.take_left,if_neg h40]
   simp only[Option.toList_some,List.cons_append,List.nil_append]
   rw[←List.cons_append,List.drop_left]
 | func x hx =>
  have e1:oneS ⟨2,x,0⟩=x++[40]:=rfl
  have hn:=nK (y:=40::y) hx (by rw[iH];decide)
  have hb:=oT (y:=40::y) hx.1
  rw[e1,List.append_assoc,List.cons_append,List.nil_append]
  cases x with
  | nil=>exact absurd rfl (jf hx)
  | cons c r =>
   rw[List.cons_append] at hn hb ⊢
   rw[all_cons,uc hb,hn,←List.cons_append,List.drop_left,List.take_left,if_pos (iH 40 y)]
   simp only[Option.toList_some,List.cons_append,List.nil_append]
   rw[←List.cons_append,←List.drop_drop,List.drop_left]
   rfl
 | word x hx =>
  have e1:oneS ⟨3,x,0⟩=64::x:=rfl
  have hw:=hs.2.1 (.inl rfl)
  have hn:=nK hx hw
  have e:step 64 (x++y)=(some ⟨3,x,0⟩,x.length+1):=by
   unfold step
   rw[if_neg (fun e=>absurd e.1 (by decide)),if_neg (by decide),if_neg (by simp),if_neg (by simp),if_pos ⟨rfl,by rw[hn];exact zF hx⟩,hn,List.take_left]
  rw[e1,List.cons_append,all_cons,e]
  simp only[Option.toList_some,List.drop_succ_cons,List.drop_left,List.cons_append,List.nil_append]
 | hash x hne hx =>
  have e1:oneS ⟨4,x,0⟩=35::x:=rfl
  have hw:=hs.2.1 (.inr rfl)
  have hn:=rv hx hw
  have e:step 35 (x++y)=(some ⟨4,x,0⟩,x.length+1):=by
   unfold step
   rw[if_neg (fun e=>absurd e.1 (by decide)),if_neg (by decide),if_neg (by simp),if_pos ⟨rfl,by rw[hn];exact List.length_pos_iff.2 hne⟩,hn,List.take_left]
  rw[e1,List.cons_append,all_cons,e]
  simp only[Option.toList_some,List.drop_succ_cons,List.drop_left,List.cons_append,List.nil_append]
 | num x n h1 h2 hx =>
  obtain ⟨hd,hu⟩:=Gj hx hs
  rw[IW,List.append_assoc]
  exact IA h1 h2 hd hu
 | str x q hq hx =>
  have e1:oneS ⟨6,x,q.toNat⟩=q::(x++[q]):=by rcases hq with rfl|rfl<;>rfl
  have hi:=uF (y:=y) hx
  have e:step q (x++q::y)=(some ⟨6,x,q.toNat⟩,x.length+2):=by
   unfold step
   rw[if_neg (fun e=>by rcases hq with rfl|rfl<;>exact absurd e.1 (by decide)),if_neg (by rcases hq with rfl|rfl<;>decide),if_pos ⟨hq,by rw[hi];rfl⟩,hi]
   simp only[Option.getD_some,List.take_left]
  rw[e1,List.cons_append,List.append_assoc,List.cons_append,List.nil_append,all_cons,e]
  simp only[Option.toList_some,List.drop_succ_cons,List.cons_append,List.nil_append]
  rw[←List.drop_drop,List.drop_left]
  rfl
 | delim c h1 h2 h3 =>
  by_cases hq:c=34∨c=39
  ·have e1:oneS ⟨7,[c],0⟩=[c,47,42,10,42,47]:=by rcases hq with rfl|rfl<;>rfl
   rw[e1]
   exact Dr hq y
  ·rw[not_or] at hq
   rw[De hq.1 hq.2,List.cons_append,List.nil_append,all_cons,zM h1 h2 h3 hq.1 hq.2 hs]
   simp only[Option.toList_some,List.drop_succ_cons,List.drop_zero,List.cons_append,List.nil_append]
 | white =>
  have hw:=hs.2.2.2.1 rfl
  have e1:oneS ⟨8,[10],0⟩=[10]:=rfl
  have hr:run blank (10::y)=1:=by rw[run,if_pos (by decide),wC hw]
  have e:step 10 y=(some ⟨8,[10],0⟩,1):=by
   unfold step
   rw[if_neg (fun e=>absurd e.1 (by decide)),if_pos (by decide),hr]
  rw[e1,List.cons_append,List.nil_append,all_cons,e]
  simp only[Option.toList_some,List.drop_succ_cons,List.drop_zero,List.cons_append,List.nil_append]
theorem G7 {t:Tok} (h:Good t):all (oneS t)=[t]:=by
 have:=HF h (Hu t)
 rw[List.append_nil,all_nil] at this
 exact this
theorem jH {t:Tok}:may t=true↔Good t:=by
 unfold may
 rw[decide_eq_true_eq]
 exact ⟨fun h=>rF _ t (by rw[h];simp),G7⟩
end Go.Abs.Tk
namespace Go.Abs.Tk
open Go
theorem jd (l:List UInt8):(all l).length≤l.length:=by
 refine nY (Q:=fun l=>(all l).length≤l.length) (Nat.le_refl _) (fun c r ih => ?_) l
 rw[all_cons,List.length_append]
 have h1:=kz c r
 have h2:=v7 c r
 have h3:(step c r).1.toList.length≤1:=by cases (step c r).1<;>simp
 rw[List.length_drop] at ih
 simp only[List.length_cons] at *
 omega
section both
variable {R R':List UInt8}
end both
end Go.Abs.Tk
namespace Go.Abs
open Go
theorem lY : ∀ {l:List Val} {k:Int} {t:Tok} {l':List Val},Val.mk k t l'∈l→Ne.size l'<Ne.size l
 | v::l,k,t,l',h=>by
  rw[Ne.size]
  rcases List.mem_cons.1 h with rfl|h
  ·rw[Ne.oS];omega
  ·have:=lY h;omega
end Go.Abs
namespace Go.Abs.Sl
def cut (p:Val→Bool):List Val→List (List Val)
 | []=>[[]]
 | v::l=>if p v then []::cut p l else match cut p l with
  | []=>[[v]]
  | q::qs=>(v::q)::qs
theorem pj (p:Val→Bool) (l:List Val) : ∃ q qs,cut p l=q::qs:=by
 cases l with
 | nil=>exact ⟨_,_,rfl⟩
 | cons v l =>
  rw[cut]
  split
  ·exact ⟨_,_,rfl⟩
  ·split
   ·exact ⟨_,_,rfl⟩
   ·exact ⟨_,_,rfl⟩
theorem qQ {p:Val→Bool} {v:Val} (h:p v=true) (l:List Val):cut p (v::l)=[]::cut p l:=by rw[cut,if_pos h]
theorem rY {p:Val→Bool} {v:Val} (h:p v=false) {l q:List Val} {qs:List (List Val)} (e:cut p l=q::qs):cut p (v::l)=(v::q)::qs:=by
 rw[cut,if_neg (by rw[h];simp),e]
def fulls (ss:List (List Val)):List (List Val):=ss.filter fun s => !s.isEmpty
theorem ud (ss:List (List Val)):fulls ([]::ss)=fulls ss:=by simp[fulls]
theorem nc (v:Val) (q:List Val) (ss:List (List Val)):fulls ((v::q)::ss)=(v::q)::fulls ss:=by simp[fulls]
def words (l:List Val):List (List Val):=fulls (cut aq l)
theorem rM : ∀ l:List Val,(fulls (cut aq l)).flatten=l.filter fun v => !aq v
 | []=>rfl
 | v::l=>by
  cases h:aq v with
  | true=>rw[qQ h,ud,rM l,List.filter_cons,if_neg (by rw[h];simp)]
  | false =>
   obtain ⟨q,qs,e⟩:=pj aq l
   have ih:=rM l
   rw[rY h e,nc,List.filter_cons,if_pos (by rw[h];rfl),←ih,e]
   cases q with
   | nil=>rw[ud];rfl
   | cons x q=>rw[nc];rfl
theorem Ar (l:List Val):(words l).flatten=l.filter fun v => !aq v:=rM l
theorem qN : ∀ l:List Val, ∀ q∈cut aq l, ∀ v∈q,aq v=false
 | [],q,hq,v,hv=>by
  rw[cut,List.mem_singleton] at hq
  subst hq;cases hv
 | x::l,q,hq,v,hv=>by
  cases h:aq x with
  | true =>
   rw[qQ h] at hq
   rcases List.mem_cons.1 hq with rfl|hq
   ·cases hv
   ·exact qN l q hq v hv
  | false =>
   obtain ⟨r,rs,e⟩:=pj aq l
   rw[rY h e] at hq
   rcases List.mem_cons.1 hq with rfl|hq
   ·rcases List.mem_cons.1 hv with rfl|hv
    ·exact h
    ·exact qN l r (by rw[e];simp) v hv
   ·exact qN l q (by rw[e];simp[hq]) v hv
theorem BP : ∀ {l:List Val},(∀ v∈l,aq v=false)→cut aq l=[l]
 | [],_=>rfl
 | v::l,h=>rY (h v (by simp)) (BP fun x hx=>h x (by simp[hx]))
theorem Cm {l w:List Val} (h:w∈words l):w≠[]∧words w=[w]:=by
 unfold words fulls at h
 rw[List.mem_filter] at h
 have hne:w≠[]:=by
  intro e;rw[e] at h;simp at h
 refine ⟨hne,?_⟩
 unfold words
 rw[BP (qN l w h.1)]
 cases w with
 | nil=>exact absurd rfl hne
 | cons v w=>rw[nc];rfl
theorem nh (p:Val→Bool) : ∀ l:List Val,(cut p l).length≤l.length+1
 | []=>Nat.le_refl _
 | v::l=>by
  have h:=nh p l
  obtain ⟨q,qs,e⟩:=pj p l
  cases hv:p v with
  | true=>rw[qQ hv,List.length_cons,List.length_cons];omega
  | false =>
   rw[rY hv e,List.length_cons,List.length_cons]
   rw[e,List.length_cons] at h
   omega
theorem ve (l:List Val):(words l).length≤l.length+1:=Nat.le_trans (List.length_filter_le _ _) (nh _ l)
theorem mH : ∀ l:List Val, ∀ v r,l.dropWhile aq=v::r→aq v=false
 | [],v,r,h=>by cases h
 | x::l,v,r,h=>by
  rw[List.dropWhile_cons] at h
  split at h
  ·exact mH l v r h
  ·rename_i hx
   cases h
   simpa using hx
theorem CL {l r:List Val} {v:Val} (h:trim l=v::r):aq v=false:=by
 unfold trim at h
 obtain ⟨pre,hp⟩:=List.dropWhile_suffix aq (l:=(l.dropWhile aq).reverse)
 have h2:l.dropWhile aq=trim l++pre.reverse:=by
  have:=congrArg List.reverse hp
  rw[List.reverse_append,List.reverse_reverse] at this
  exact this.symm
 unfold trim at h2
 rw[h] at h2
 exact mH l v _ h2
theorem t8 {l r:List Val} {v:Val} (h:trim l=r++[v]):aq v=false:=by
 unfold trim at h
 have h2:=congrArg List.reverse h
 rw[List.reverse_reverse,List.reverse_append,List.reverse_singleton,List.singleton_append] at h2
 exact mH _ v _ h2
theorem H8 {l:List Val} (h1 : ∀ v r,l=v::r→aq v=false) (h2 : ∀ v r,l=r++[v]→aq v=false):trim l=l:=by
 have e1:l.dropWhile aq=l:=by
  cases l with
  | nil=>rfl
  | cons v r=>rw[List.dropWhile_cons,if_neg (by rw[h1 v r rfl];simp)]
 have e2:l.reverse.dropWhile aq=l.reverse:=by
  cases hr:l.reverse with
  | nil=>rfl
  | cons v r =>
   have:=congrArg List.reverse hr
   rw[List.reverse_reverse,List.reverse_cons] at this
   rw[List.dropWhile_cons,if_neg (by rw[h2 v _ this];simp)]
 unfold trim
 rw[e1,e2,List.reverse_reverse]
theorem Cg (l:List Val):trim (trim l)=trim l:=H8 (fun _ _ h=>CL h) (fun _ _ h=>t8 h)
theorem wZ (l:List Val):(trim l).length≤l.length:=by
 unfold trim
 rw[List.length_reverse]
 have h1:=(List.dropWhile_sublist aq (l:=(l.dropWhile aq).reverse)).length_le
 have h2:=(List.dropWhile_sublist aq (l:=l)).length_le
 rw[List.length_reverse] at h1
 omega
def jt (d:List UInt8):Val := .mk 1 ⟨7,d,0⟩ []
def joins (d:List UInt8) (ps:List (List Val)):List Val:=ps.flatMap fun q=>jt d::q
def join (d:List UInt8):List (List Val)→List Val
 | []=>[]
 | p::ps=>p++joins d ps
theorem uO (d:List UInt8):joins d []=[]:=rfl
theorem nl (d:List UInt8) (p:List Val) (ps:List (List Val)):joins d (p::ps)=jt d::(p++joins d ps):=rfl
end Go.Abs.Sl
namespace Go.Abs.Tk
open Go
theorem xC (l:List UInt8):(l.take (unit l)).length≤l.length:=by rw[List.length_take];omega
theorem C1 {c:UInt8} {r:List UInt8} {t:Tok} (h:(step c r).1=some t):t.text.length≤r.length+1:=by
 unfold step at h
 split at h
 ·cases h
 split at h
 ·cases h;simp
 split at h
 ·cases h;simp only[List.length_take];omega
 split at h
 ·cases h;simp only[List.length_take];omega
 split at h
 ·cases h;simp only[List.length_take];omega
 split at h
 ·cases h
  have:=xC ((c::r).drop (run digit (c::r)))
  simp only[List.length_drop,List.length_cons] at this
  simp only[number];omega
 split at h
 ·cases h
  have:=xC (r.drop (run digit r))
  simp only[List.length_drop] at this
  simp only[number];omega
 split at h
 ·split at h
  ·cases h;simp only[List.length_take,List.length_cons];omega
  ·cases h;simp only[List.length_take,List.length_cons];omega
 ·cases h;simp
theorem xP (l:List UInt8) : ∀ t∈all l,t.text.length≤l.length:=by
 refine nY (Q:=fun l => ∀ t∈all l,t.text.length≤l.length) (fun t h=>by simp[all_nil] at h) (fun c r ih t ht => ?_) l
 rw[all_cons] at ht
 rcases List.mem_append.1 ht with ht|ht
 ·have:=C1 (by simpa[Option.mem_toList] using ht)
  simpa using this
 ·have:=ih t ht
  rw[List.length_drop] at this
  omega
end Go.Abs.Tk
namespace Go.Abs.Sl
theorem oY : ∀ {l:List Val} {t:Tok},t∈Ne.flat l ↔ ∃ v∈l,t∈Ne.iL v
 | [],t=>by rw[Ne.flat];simp
 | v::l,t=>by
  rw[Ne.flat,List.mem_append,oY (l:=l)]
  simp
theorem o9 {k:Int} : ∀ {l:List Val},Ne.good k l=true ↔ ∀ v∈l,Ne.qa k v=true
 | []=>by rw[Ne.good];simp
 | v::l=>by
  rw[Ne.good,Bool.and_eq_true,o9 (l:=l)]
  simp
theorem gL {n:Nat} : ∀ {l:List Val},Ne.depth l≤n ↔ ∀ v∈l,Ne.ju v≤n
 | []=>by rw[Ne.depth];simp
 | v::l=>by
  rw[Ne.depth,Nat.max_le,gL (l:=l)]
  simp
theorem uT {l:List Val} {v:Val} (h:v∈trim l):v∈l:=by
 unfold trim at h
 have h1:=List.mem_reverse.1 h
 have h2:=(List.dropWhile_sublist _).subset h1
 exact (List.dropWhile_sublist _).subset (List.mem_reverse.1 h2)
structure Rd (l:List Val):Prop where
 tok : ∀ t∈Ne.flat l,Tk.Good t
 good:Ne.good 0 l=true
 depth:Ne.depth l≤60
theorem Rd.sub {l m:List Val} (h:Rd l) (hs : ∀ v∈m,v∈l):Rd m :=
 ⟨fun t ht=>by
  obtain ⟨v,hv,ht⟩:=oY.1 ht
  exact h.tok t (oY.2 ⟨v,hs v hv,ht⟩),o9.2 fun v hv=>o9.1 h.good v (hs v hv),gL.2 fun v hv=>gL.1 h.depth v (hs v hv)⟩
theorem Rd.trim {l:List Val} (h:Rd l):Rd (trim l):=h.sub fun _=>uT
theorem AK (k:Int):Tk.Good (Ne.fw k):=by
 have h1:Tk.may ⟨7,[41],0⟩=true:=by kernel_rfl
 have h2:Tk.may ⟨7,[93],0⟩=true:=by kernel_rfl
 have h3:Tk.may ⟨7,[125],0⟩=true:=by kernel_rfl
 unfold Ne.fw Ne.gY
 split
 ·exact Tk.jH.1 h2
 ·split
  ·exact Tk.jH.1 h3
  ·exact Tk.jH.1 h1
theorem Rd.parse {l:List Tok} {vs:List Val} (h:Ne.parse 60 l=some vs) (hl : ∀ t∈l,Tk.Good t):Rd vs:=by
 obtain ⟨g,d,_,c,e⟩:=Ne.jB h
 refine ⟨fun t ht => ?_,g,d⟩
 rw[e,List.mem_append,List.mem_map] at ht
 rcases ht with ht|⟨k,_,rfl⟩
 ·exact hl t ht
 ·exact AK k
def lU (s:List UInt8):Option (List Val):=(Ne.parse 60 (Tk.all s)).map trim
theorem Iu {s:List UInt8} {a:List Val} (h:lU s=some a):Rd a∧trim a=a:=by
 unfold lU at h
 rw[Option.map_eq_some_iff] at h
 obtain ⟨vs,h1,rfl⟩:=h
 exact ⟨(Rd.parse h1 (Tk.rF s)).trim,Cg vs⟩
end Go.Abs.Sl
namespace Go.Abs
namespace Sl
open Tk (eo sep within digit begins at0 all)
inductive Gs:Sim→Prop
 | any:Gs (.mk 1 [] [] 0 0 [])
 | tag (n:List UInt8):eo n→low n=n→Gs (.mk 2 n [] 0 0 [])
 | id (n:List UInt8):n≠[]→(∀ b∈n,within b=true)→Gs (.mk 3 n [] 0 0 [])
 | cls (n:List UInt8):eo n→Gs (.mk 4 n [] 0 0 [])
 | has (n:List UInt8):eo n→Gs (.mk 5 n [] 0 0 [])
 | is (n v:List UInt8):eo n→(∀ b∈v,Tk.ending b=false)→(0≤Lib.indexByte v 34 → ∀ b∈v,b≠39)→Gs (.mk 6 n v 0 0 [])
 | state (n:List UInt8):er n→Gs (.mk 7 n [] 0 0 [])
 | nth (a b:Int):few a→few b→Gs (.mk 8 [] [] a b [])
 | root:Gs (.mk 9 [] [] 0 0 [])
 | empty:Gs (.mk 10 [] [] 0 0 [])
 | not (x:Sim):Gs x→x.kind≠11→Gs (.mk 11 [] [] 0 0 [x])
theorem rG:Ne.flat []=[]:=by rw[Ne.flat]
theorem Cv (v:Val) (l:List Val):Ne.flat (v::l)=Ne.iL v++Ne.flat l:=by rw[Ne.flat]
theorem rj : ∀ {v:List UInt8} {c:UInt8}, ¬ 0≤Lib.indexByte v c → ∀ b∈v,b≠c
 | [],_,_,b,hb=>by cases hb
 | a::v,c,h,b,hb=>by
  unfold Lib.indexByte at h
  cases hac:(a==c)
  ·rw[hac] at h
   have h' : ¬ 0≤Lib.indexByte v c:=fun h0=>h (by simp;split<;>omega)
   rcases List.mem_cons.1 hb with rfl|hb
   ·exact beq_eq_false_iff_ne.1 hac
   ·exact rj h' b hb
  ·rw[hac] at h
   exact absurd (by simp) h
end Sl
end Go.Abs
namespace Go.Abs
namespace Sl
open Tk (eo sep within digit begins at0 all)
def GsT (l:List Sim):Prop := ∀ x∈l,Gs x∧3≤x.kind
def Gp:List Sim→Prop
 | []=>True
 | x::r=>Gs x∧GsT r
inductive Gc:Nat→Int→List Prt→List UInt8→Prop
 | last {n:Nat} {c:Int} {l:List Sim}:Gp l→l≠[]→l.length≤8→Gc (n+1) c [⟨c,l⟩] []
 | pse {n:Nat} {c:Int} {l:List Sim} {s:List UInt8}:Gp l→l.length≤8→(s=fK∨s=g6)→Gc (n+1) c [⟨c,l⟩] s
 | more {n:Nat} {c d:Int} {l:List Sim} {ps:List Prt} {s:List UInt8}:Gp l→l≠[]→l.length≤8→1≤d∧d≤4→Gc n d ps s→Gc (n+1) c (⟨c,l⟩::ps) s
def A3 (c:Cpx):Prop:=Gc 16 0 c.parts c.pseudo
def Fs (l:List Cpx):Prop:=l≠[]∧l.length≤32 ∧ ∀ c∈l,A3 c
end Sl
end Go.Abs
namespace Go.Abs
namespace Sl
open Tk (eo sep within digit begins at0 all)
def FG (l:List Val):Prop := ∀ t∈Ne.flat l,Tk.Good t
theorem eB : ∀ {l:List Val} {t:Tok},t∈Ne.flat l ↔ ∃ v∈l,t∈Ne.iL v
 | [],t=>by rw[rG];simp
 | v::l,t=>by
  rw[Cv,List.mem_append,eB (l:=l)]
  simp
theorem jn {l m:List Val} (h:FG l) (hs : ∀ v∈m,v∈l):FG m:=fun t ht=>by
 obtain ⟨v,hv,ht⟩:=eB.1 ht
 exact h t (eB.2 ⟨v,hs v hv,ht⟩)
theorem vK {v:Val} {l:List Val} (h:FG (v::l)) : ∀ t∈Ne.iL v,Tk.Good t:=fun t ht=>h t (eB.2 ⟨v,by simp,ht⟩)
theorem qF {v:Val} {l:List Val} (h:FG (v::l)):FG l:=jn h fun w hw=>by simp[hw]
theorem pt {t:Tok} {c l:List Val} (h:FG (.mk 1 t c::l)):Tk.Good t:=vK h t (by rw[Ne.iL,if_pos rfl];simp)
theorem JQ {t:Tok} {c l:List Val} (h:FG (.mk 3 t c::l)):FG c:=fun x hx=>vK h x (by
 rw[Ne.iL,if_neg (by decide),if_neg (by decide),if_pos (by decide)];simp[hx])
theorem J7 {t:Tok} {c l:List Val} (h:FG (.mk 5 t c::l)):FG c:=fun x hx=>vK h x (by
 rw[Ne.iL,if_neg (by decide),if_pos rfl];simp[hx])
theorem ko {t:Tok} (h:Tk.Good t) (hk:t.kind=1):eo t.text:=by
 cases h<;>first|assumption|(simp at hk)
theorem tZ {t:Tok} (h:Tk.Good t) (hk:t.kind=4):t.text≠[] ∧ ∀ b∈t.text,within b=true:=by
 cases h<;>first|exact ⟨by assumption,by assumption⟩|(simp at hk)
theorem kv {k:Int} {l:List Val} {t:Tok} (h:tokK k l=some t) : ∃ c m,l = .mk 1 t c::m∧t.kind=k:=by
 cases l with
 | nil=>cases h
 | cons v m =>
  obtain ⟨k',u,c⟩:=v
  have h':(if k'=1∧u.kind=k then some u else none)=some t:=h
  split at h'
  ·rename_i hc
   cases h'
   obtain ⟨rfl,hk⟩:=hc
   exact ⟨c,m,rfl,hk⟩
  ·cases h'
theorem fu {s:List UInt8} {l r:List Val} (h:sign s l=some r) : ∃ v,l=v::r∧aU s v=true:=by
 cases l with
 | nil=>cases h
 | cons v m =>
  have h':(if aU s v=true then some m else none)=some r:=h
  split at h'
  ·rename_i hc
   cases h'
   exact ⟨v,rfl,hc⟩
  ·cases h'
theorem kg {l r:List Val} {s:List UInt8} (h:name l=some (s,r)) : ∃ t c,l = .mk 1 t c::r∧t.kind=1∧s=t.text:=by
 unfold name at h
 rw[Option.map_eq_some_iff] at h
 obtain ⟨t,ht,e⟩:=h
 obtain ⟨c,m,rfl,hk⟩:=kv ht
 cases e
 exact ⟨t,c,rfl,hk,rfl⟩
theorem gI {k:Int} {l c r:List Val} {t:Tok} (h:gu k l=some ((t,c),r)):l = .mk k t c::r:=by
 cases l with
 | nil=>cases h
 | cons v m =>
  obtain ⟨k',u,c'⟩:=v
  have h':(if k'=k then some ((u,c'),m) else none)=some ((t,c),r):=h
  split at h'
  ·rename_i hc
   cases h'
   subst hc;rfl
  ·cases h'
theorem jh (c:UInt8):within (low1 c)=within c∧begins (low1 c)=begins c∧(low1 c==45)=(c==45)∧low1 (low1 c)=low1 c:=by
 have key : ∀ b:Fin 256,within (low1 (UInt8.ofNat b.1))=within (UInt8.ofNat b.1)∧begins (low1 (UInt8.ofNat b.1))=begins (UInt8.ofNat b.1)∧(low1 (UInt8.ofNat b.1)==45)=(UInt8.ofNat b.1==45)∧low1 (low1 (UInt8.ofNat b.1))=low1 (UInt8.ofNat b.1):=by
  set_option maxRecDepth 100000 in decide
 have:=key ⟨c.toNat,c.toNat_lt⟩
 simp only[UInt8.ofNat_toNat] at this
 exact this
theorem rJ (c:UInt8) (r:List UInt8):Tk.dR (c::r)=(begins c||(c==45&&(begins (at0 r)||at0 r==45))):=rfl
theorem FE (r:List UInt8):begins (at0 (low r))=begins (at0 r)∧(at0 (low r)==45)=(at0 r==45):=by
 cases r with
 | nil=>exact ⟨rfl,rfl⟩
 | cons c r=>exact ⟨(jh c).2.1,(jh c).2.2.1⟩
theorem Fp {n:List UInt8} (h:eo n):eo (low n):=by
 refine ⟨?_,fun b hb => ?_⟩
 ·cases n with
  | nil=>exact absurd rfl (Tk.jf h)
  | cons c r =>
   have h1:=h.1
   rw[rJ] at h1
   show Tk.dR (low1 c::low r)=true
   rw[rJ,(jh c).2.1,(jh c).2.2.1,(FE r).1,(FE r).2]
   exact h1
 ·obtain ⟨c,hc,rfl⟩:=List.mem_map.1 hb
  rw[(jh c).1]
  exact h.2 c hc
theorem Hx (n:List UInt8):low (low n)=low n:=by
 unfold low
 rw[List.map_map]
 exact List.map_congr_left fun c _=>(jh c).2.2.2
theorem oG (b:UInt8) (h:within b=true):b≠34∧Tk.ending b=false:=by
 have key : ∀ c:Fin 256,within (UInt8.ofNat c.1)=true→UInt8.ofNat c.1≠34∧Tk.ending (UInt8.ofNat c.1)=false:=by
  set_option maxRecDepth 100000 in decide
 have:=key ⟨b.toNat,b.toNat_lt⟩
 simp only[UInt8.ofNat_toNat] at this
 exact this h
theorem o4 : ∀ {v:List UInt8} {c:UInt8},(∀ b∈v,b≠c) → ¬ 0≤Lib.indexByte v c
 | [],_,_=>by unfold Lib.indexByte;omega
 | a::v,c,h=>by
  unfold Lib.indexByte
  have:(a==c)=false:=beq_eq_false_iff_ne.2 (h a (by simp))
  rw[this]
  have ih:=o4 (v:=v) (c:=c) fun b hb=>h b (by simp[hb])
  simp
  split<;>omega
theorem Ai {l:List Val} {x:Sim} (h:attr l=some x) (hg:FG l):Gs x∧3≤x.kind:=by
 unfold attr at h
 have hf:FG (l.filter fun v => !aq v):=jn hg fun v hv=>(List.mem_filter.1 hv).1
 split at h
 ·rename_i k t c e
  split at h
  case isFalse=>cases h
  rename_i hc
  cases h
  rw[e] at hf
  obtain ⟨rfl,hk⟩:=hc
  exact ⟨.has _ (ko (pt hf) hk),by simp[Sim.kind]⟩
 ·rename_i k t c v k' u c' e
  split at h
  case isFalse=>cases h
  rename_i hc
  cases h
  rw[e] at hf
  obtain ⟨rfl,hk,_,rfl,hu⟩:=hc
  refine ⟨?_,by simp[Sim.kind]⟩
  have hgu:Tk.Good u:=pt (qF (qF hf))
  have hn:=ko (pt hf) hk
  rcases hu with hu|hu
  ·have hnu:=ko hgu hu
   exact .is _ _ hn (fun b hb=>(oG b (hnu.2 b hb)).2) (fun h0=>absurd h0 (o4 fun b hb=>(oG b (hnu.2 b hb)).1))
  ·cases hgu with
   | str y q hq hy =>
    refine .is _ _ hn (fun b hb=>(hy b hb).2) (fun h0 b hb => ?_)
    rcases hq with rfl|rfl
    ·exact absurd h0 (o4 fun b hb=>(hy b hb).1)
    ·exact (hy b hb).1
   | _=>simp at hu
 ·cases h
theorem qj {s:List UInt8} {x:Sim} (h:fX s=some x):Gs x∧3≤x.kind:=by
 unfold fX at h
 split at h
 ·rename_i hs;cases h;exact ⟨.state _ hs,by simp[Sim.kind]⟩
 ·split at h
  ·cases h;exact ⟨.root,by simp[Sim.kind]⟩
  ·split at h
   ·cases h;exact ⟨.empty,by simp[Sim.kind]⟩
   ·split at h
    ·cases h;exact ⟨.nth 0 1 (by decide) (by decide),by simp[Sim.kind]⟩
    ·cases h
theorem iR {l:List Val} {v:Val} (h:v∈trim l):v∈l:=by
 unfold trim at h
 have h1:=List.mem_reverse.1 h
 have h2:=(List.dropWhile_sublist _).subset h1
 exact (List.dropWhile_sublist _).subset (List.mem_reverse.1 h2)
theorem Bj {l:List Val} {x:Int×Int} (h:nthM l=some x):few x.1∧few x.2:=by
 unfold nthM at h
 split at h
 ·split at h
  ·rename_i hc;cases h;exact hc
  ·cases h
 ·cases h
theorem wm {g:List Val→Option (Sim×List Val)} {l r:List Val} {x:Sim} (hG : ∀ m y z,g m=some (y,z)→FG m→Gs y) (h:colon g l=some (x,r)) (hg:FG l):Gs x∧3≤x.kind ∧ ∃ v,l=v::r:=by
 unfold colon at h
 split at h
 ·rename_i t c r' hv
  have hl:=gI hv
  subst hl
  split at h
  ·rw[Option.map_eq_some_iff] at h
   obtain ⟨y,hy,e⟩:=h
   cases e
   exact ⟨.nth _ _ (Bj hy).1 (Bj hy).2,by simp[Sim.kind],_,rfl⟩
  ·split at h
   ·split at h
    ·rename_i y hgy
     split at h
     ·cases h
     ·rename_i hk
      cases h
      exact ⟨.not _ (hG _ _ _ hgy (jn (J7 hg) fun v hv=>iR hv)) hk,by simp[Sim.kind],_,rfl⟩
    ·cases h
   ·cases h
 ·split at h
  ·rename_i s r' hn
   rw[Option.map_eq_some_iff] at h
   obtain ⟨y,hy,e⟩:=h
   cases e
   obtain ⟨t,c,rfl,_,_⟩:=kg hn
   have:=qj hy
   exact ⟨this.1,this.2,_,rfl⟩
  ·cases h
theorem lk : ∀ (f:Nat) (first:Bool) (l:List Val) (x:Sim) (r:List Val),simple f first l=some (x,r)→FG l→Gs x∧(first=false→3≤x.kind) ∧ ∃ p,l=p++r
 | 0,_,_,_,_,h,_=>by cases h
 | f+1,first,l,x,r,h,hg=>by
  rw[simple] at h
  split at h
  ·rename_i t ht
   cases first with
   | false=>cases ht
   | true =>
    obtain ⟨c,m,rfl,hk⟩:=kv ht
    cases h
    exact ⟨.tag _ (Fp (ko (pt hg) hk)) (Hx _),(fun e=>by cases e),[_],rfl⟩
  split at h
  ·rename_i r' ht
   cases first with
   | false=>cases ht
   | true =>
    obtain ⟨v,rfl,_⟩:=fu ht
    cases h
    exact ⟨.any,(fun e=>by cases e),[_],rfl⟩
  split at h
  ·rename_i t ht
   obtain ⟨c,m,rfl,hk⟩:=kv ht
   cases h
   obtain ⟨h1,h2⟩:=tZ (pt hg) hk
   exact ⟨.id _ h1 h2,fun _=>by simp[Sim.kind],[_],rfl⟩
  split at h
  ·rename_i r' ht
   obtain ⟨v,rfl,_⟩:=fu ht
   rw[Option.map_eq_some_iff] at h
   obtain ⟨⟨s,r''⟩,hn,e⟩:=h
   obtain ⟨t,c,rfl,hk,rfl⟩:=kg hn
   cases e
   exact ⟨.cls _ (ko (pt (qF hg)) hk),fun _=>by simp[Sim.kind],[_,_],rfl⟩
  split at h
  ·rename_i r' ht
   obtain ⟨v,rfl,_⟩:=fu ht
   obtain ⟨h1,h2,w,rfl⟩:=wm (fun m y z hy hm=>(lk f true m y z hy hm).1) h (qF hg)
   exact ⟨h1,fun _=>h2,[_,_],rfl⟩
  split at h
  ·rename_i y hv
   obtain ⟨⟨t,c⟩,r'⟩:=y
   have hl:=gI hv
   subst hl
   rw[Option.map_eq_some_iff] at h
   obtain ⟨z,hz,e⟩:=h
   cases e
   have:=Ai hz (JQ hg)
   exact ⟨this.1,fun _=>this.2,[_],rfl⟩
  ·cases h
theorem mD {p r:List Val} (h:FG (p++r)):FG r:=jn h fun v hv=>by simp[hv]
theorem m9 : ∀ (f:Nat) (first:Bool) (l:List Val) (ps:List Sim) (r:List Val),part f first l=some (ps,r)→FG l→(first=true→Gp ps)∧(first=false→GsT ps) ∧ ∃ p,l=p++r
 | 0,_,_,_,_,h,_=>by cases h
 | f+1,first,l,ps,r,h,hg=>by
  rw[part] at h
  split at h
  ·cases h
   exact ⟨fun _=>trivial,(fun _ x hx=>by cases hx),[],rfl⟩
  ·split at h
   ·cases h
   ·rename_i x m hs
    rw[Option.map_eq_some_iff] at h
    obtain ⟨⟨qs,r'⟩,hp,e⟩:=h
    cases e
    obtain ⟨h1,h2,p,rfl⟩:=lk _ _ _ _ _ hs hg
    obtain ⟨_,h4,p',hm⟩:=m9 f false m qs r' hp (mD hg)
    refine ⟨fun _=>⟨h1,h4 rfl⟩,fun e y hy => ?_,p++p',by rw[hm,List.append_assoc]⟩
    rcases List.mem_cons.1 hy with rfl|hy
    ·exact ⟨h1,h2 e⟩
    ·exact h4 rfl y hy
theorem sZ (l:List Val):(1≤(comb l).1∧(comb l).1≤4) ∧ ∀ v∈(comb l).2,v∈l:=by
 have hd : ∀ (m:List Val) v,v∈m.dropWhile aq→v∈m:=fun m v hv=>(List.dropWhile_sublist _).subset hv
 unfold comb
 simp only
 split
 ·rename_i r hr
  obtain ⟨v,e,_⟩:=fu hr
  exact ⟨⟨by simp,by simp⟩,fun w hw=>hd l w (by rw[e];simp[hd r w hw])⟩
 ·split
  ·rename_i r hr
   obtain ⟨v,e,_⟩:=fu hr
   exact ⟨⟨by simp,by simp⟩,fun w hw=>hd l w (by rw[e];simp[hd r w hw])⟩
  ·split
   ·rename_i r hr
    obtain ⟨v,e,_⟩:=fu hr
    exact ⟨⟨by simp,by simp⟩,fun w hw=>hd l w (by rw[e];simp[hd r w hw])⟩
   ·exact ⟨⟨by simp,by simp⟩,fun w hw=>hd l w (hd _ w hw)⟩
theorem tF : ∀ (n:Nat) (c:Int) (l:List Val) (x:Cpx),cpx n c l=some x→FG l→Gc n c x.parts x.pseudo
 | 0,_,_,_,h,_=>by cases h
 | n+1,c,l,x,h,hg=>by
  rw[cpx] at h
  split at h
  ·cases h
  ·rename_i ps r hp
   obtain ⟨h1,_,p,rfl⟩:=m9 _ _ _ _ _ hp hg
   have hr:=mD hg
   split at h
   ·split at h
    ·split at h
     ·rename_i s _ hc
      cases h
      exact .pse (h1 rfl) hc.2 hc.1
     ·cases h
    ·cases h
   ·split at h
    ·cases h
    ·rename_i hc
     have hne:ps≠[]:=fun e=>hc (.inr e)
     have hlen:ps.length≤8:=by
      rcases Nat.lt_or_ge 8 ps.length with h|h
      ·exact absurd (.inl h) hc
      ·exact h
     split at h
     ·cases h
      exact .last (h1 rfl) hne hlen
     ·rw[Option.map_eq_some_iff] at h
      obtain ⟨y,hy,e⟩:=h
      cases e
      obtain ⟨c1,c2⟩:=sZ r
      exact .more (h1 rfl) hne hlen c1 (tF n _ _ y hy (jn hr c2))
theorem vA (s:List UInt8) : ∀ (l:List Val), ∀ p∈at_ s l, ∀ v∈p,v∈l
 | [],p,hp,v,hv=>by
  obtain rfl:p=[]:=by simpa[at_] using hp
  cases hv
 | w::l,p,hp,v,hv=>by
  have ih:=vA s l
  rw[at_] at hp
  split at hp
  ·rcases List.mem_cons.1 hp with rfl|hp
   ·cases hv
   ·simp[ih p hp v hv]
  ·split at hp
   ·obtain rfl:p=[w]:=by simpa using hp
    simpa using Or.inl (List.mem_singleton.1 hv)
   ·rename_i q qs e
    rcases List.mem_cons.1 hp with rfl|hp
    ·rcases List.mem_cons.1 hv with rfl|hv
     ·simp
     ·simp[ih q (by rw[e];simp) v hv]
    ·simp[ih p (by rw[e];simp[hp]) v hv]
theorem uC : ∀ {ps:List (List Val)} {l:List Cpx},all_ ps=some l→(∀ p∈ps,FG p)→l.length=ps.length ∧ ∀ c∈l,A3 c
 | [],l,h,_=>by cases h;exact ⟨rfl,fun c hc=>by cases hc⟩
 | p::ps,l,h,hg=>by
  rw[all_] at h
  split at h
  ·rename_i c cs hc hcs
   cases h
   obtain ⟨h1,h2⟩:=uC hcs fun q hq=>hg q (by simp[hq])
   refine ⟨by simp[h1],fun d hd => ?_⟩
   rcases List.mem_cons.1 hd with rfl|hd
   ·exact tF 16 0 _ _ hc (jn (hg p (by simp)) fun v hv=>iR hv)
   ·exact h2 d hd
  ·cases h
end Sl
end Go.Abs
namespace Go.Abs
namespace Sl
def eE (s:List UInt8) (l:List Val):Bool:=l.any (aU s)
def Fr (l:List Val):Prop := ∀ v r,l=v::r→aq v=false
theorem Fr.drop {l:List Val} (h:Fr l):l.dropWhile aq=l:=by
 cases l with
 | nil=>rfl
 | cons v r=>rw[List.dropWhile_cons,if_neg (by rw[h v r rfl];simp)]
theorem yl (l:List Val):Fr (trim l).reverse:=fun v r h=>by
 have:=congrArg List.reverse h
 rw[List.reverse_reverse,List.reverse_cons] at this
 exact t8 this
theorem Fr.pre {l a b:List Val} (h:Fr l) (e:l=a++b):Fr a:=fun v r h2=>by
 subst h2
 exact h v (r++b) (by rw[e];rfl)
theorem Jl (l:List Val):Fr (l.dropWhile aq):=fun v r h=>mH l v r h
theorem kV (s:List UInt8) : ∀ l:List Val, ∀ q∈at_ s l,(∀ v∈q,v∈l)∧eE s q=false
 | [],q,hq=>by
  rw[at_,List.mem_singleton] at hq
  subst hq;exact ⟨fun v hv=>hv,rfl⟩
 | x::l,q,hq=>by
  rw[at_] at hq
  split at hq
  ·rcases List.mem_cons.1 hq with rfl|hq
   ·exact ⟨(fun v hv=>by cases hv),rfl⟩
   ·obtain ⟨h1,h2⟩:=kV s l q hq
    exact ⟨fun v hv=>by simp[h1 v hv],h2⟩
  ·rename_i hx
   split at hq
   ·rename_i e
    rw[List.mem_singleton] at hq
    subst hq
    exact ⟨fun v hv=>by rw[List.mem_singleton] at hv;simp[hv],by simp[eE,hx]⟩
   ·rename_i p ps e
    rcases List.mem_cons.1 hq with rfl|hq
    ·obtain ⟨h1,h2⟩:=kV s l p (by rw[e];simp)
     refine ⟨fun v hv => ?_,?_⟩
     ·rcases List.mem_cons.1 hv with rfl|hv
      ·simp
      ·simp[h1 v hv]
     ·unfold eE at h2 ⊢
      rw[List.any_cons,h2]
      simpa using hx
    ·obtain ⟨h1,h2⟩:=kV s l q (by rw[e];simp[hq])
     exact ⟨fun v hv=>by simp[h1 v hv],h2⟩
theorem vX (s:List UInt8) : ∀ l:List Val,cut (aU s) l=at_ s l
 | []=>rfl
 | v::l=>by
  rw[cut,at_,vX s l]
  all_goals (cases at_ s l<;>rfl)
theorem G9 {s:List UInt8} {x:Val} (hx:aU s x=true) (b:List Val) : ∀ a:List Val,at_ s (a++x::b)=at_ s a++at_ s b
 | []=>by
  have e:at_ s (x::b)=[]::at_ s b:=by rw[at_,if_pos hx]
  rw[List.nil_append,e];rfl
 | v::a=>by
  rw[List.cons_append,at_,at_,G9 hx b a]
  split
  ·rfl
  ·cases ha:at_ s a with
   | nil =>
    exfalso
    rw[←vX] at ha
    obtain ⟨q,qs,e⟩:=pj (aU s) a
    rw[e] at ha;cases ha
   | cons p ps=>rfl
theorem HG (s:List UInt8):aU s (jt s)=true:=by
 show ((1:Int)==1&&decide ((⟨7,s,0⟩:Tok)=⟨7,s,0⟩))=true
 simp
theorem AR {s:List UInt8} : ∀ {l:List Val},eE s l=false→at_ s l=[l]
 | [],_=>rfl
 | v::l,h=>by
  unfold eE at h
  rw[List.any_cons,Bool.or_eq_false_iff] at h
  rw[at_,if_neg (by rw[h.1];simp),AR (l:=l) h.2]
end Sl
end Go.Abs
namespace Go.Abs
namespace Sl
theorem all_nil:all_ []=some []:=by rw[all_]
theorem all_cons (p:List Val) (ps:List (List Val)):all_ (p::ps)=match cpx 16 0 (trim p),all_ ps with
  | some c,some cs=>some (c::cs)
  | _,_=>none:=by
 rw[all_]
 all_goals (cases cpx 16 0 (trim p)<;>cases all_ ps<;>rfl)
theorem vJ : ∀ a b:List (List Val),all_ (a++b)=match all_ a,all_ b with
  | some x,some y=>some (x++y)
  | _,_=>none
 | [],b=>by
  rw[List.nil_append,all_nil]
  cases all_ b<;>rfl
 | p::a,b=>by
  rw[List.cons_append,all_cons,all_cons,vJ a b]
  cases cpx 16 0 (trim p) with
  | none=>rfl
  | some c =>
   cases all_ a with
   | none=>rfl
   | some x=>cases all_ b<;>rfl
theorem jd : ∀ {ps:List (List Val)} {l:List Cpx},all_ ps=some l→l.length=ps.length
 | [],l,h=>by
  rw[all_nil] at h
  cases h;rfl
 | p::ps,l,h=>by
  rw[all_cons] at h
  split at h
  ·rename_i c cs _ hcs
   cases h
   rw[List.length_cons,List.length_cons,jd hcs]
  ·cases h
theorem EZ : ∀ {ps:List (List Val)} {l:List Cpx},all_ ps=some l → ∀ (i:Nat) (q:List Val),ps[i]? = some q → ∃ c,l[i]? = some c∧cpx 16 0 (trim q)=some c
 | [],l,h,i,q,hq=>by simp at hq
 | p::ps,l,h,i,q,hq=>by
  rw[all_cons] at h
  split at h
  ·rename_i c cs hc hcs
   cases h
   cases i with
   | zero =>
    simp at hq
    subst hq
    exact ⟨c,rfl,hc⟩
   | succ i=>exact EZ hcs i q (by simpa using hq)
  ·cases h
theorem yu (v w:List Val):at_ [44] (v++jt [44]::w)=at_ [44] v++at_ [44] w:=G9 (HG [44]) w v
theorem kI (v w:List Val):join [44] [v,w]=v++jt [44]::w:=by
 show v++joins [44] [w]=_
 rw[nl,uO,List.append_nil]
theorem zn {v w:List Val} {a b:List Cpx} (ha:parse v=some a) (hb:parse w=some b):parse (join [44] [v,w])=if a.length+b.length≤32 then some (a++b) else none:=by
 rw[kI]
 unfold parse at ha hb ⊢
 split at ha
 case isFalse=>cases ha
 split at hb
 case isFalse=>cases hb
 rw[yu,List.length_append,←jd ha,←jd hb,vJ,ha,hb]
theorem p6 {v w:List Val} (h:parse v=none∨parse w=none):parse (join [44] [v,w])=none:=by
 rw[kI]
 unfold parse at h ⊢
 rw[yu,List.length_append,vJ]
 split
 ·rename_i hl
  rw[if_pos (by omega),if_pos (by omega)] at h
  rcases h with h|h
  ·rw[h]
  ·rw[h]
   cases all_ (at_ [44] v)<;>rfl
 ·rfl
theorem sf {v:List Val} {a:List Cpx} (h:parse v=some a):a.length=(at_ [44] v).length∧a.length≤32 ∧ ∀ (i:Nat) (q:List Val),(at_ [44] v)[i]? = some q → ∃ c,a[i]? = some c∧parse q=some [c]:=by
 unfold parse at h
 split at h
 case isFalse=>cases h
 rename_i hl
 have hal:=jd h
 refine ⟨hal,by omega,fun i q hq => ?_⟩
 obtain ⟨c,h1,h2⟩:=EZ h i q hq
 refine ⟨c,h1,?_⟩
 have hf:=(kV [44] v q (List.mem_of_getElem? hq)).2
 unfold parse
 rw[AR hf,if_pos (show ([q]:List (List Val)).length≤32 by simp),all_cons,all_nil,h2]
theorem yR {v:List Val} (hv:FG v) {l:List Cpx} (h:parse v=some l):Fs l:=by
 have hh:=sf h
 unfold parse at h
 split at h
 case isFalse=>cases h
 obtain ⟨h1,h2⟩:=uC h fun p hp=>jn hv fun x hx=>vA _ _ p hp x hx
 refine ⟨fun e => ?_,hh.2.1,h2⟩
 rw[e] at hh
 have h3:=hh.1
 rw[←vX] at h3
 obtain ⟨q,qs,e2⟩:=pj (aU [44]) v
 rw[e2] at h3
 simp at h3
end Sl
end Go.Abs
namespace Go.Abs
namespace Sl
open Tk (eo sep within digit begins at0 all)
theorem jV {v:Val} : ∀ {l:List Val},v∈l→aq v=true∨v∈l.dropWhile aq
 | x::l,h=>by
  rw[List.dropWhile_cons]
  split
  ·rename_i hx
   rcases List.mem_cons.1 h with rfl|h
   ·exact .inl hx
   ·exact jV h
  ·exact .inr h
theorem xR {v:Val} {l:List Val} (h:v∈l):aq v=true∨v∈trim l:=by
 unfold trim
 rcases jV h with h|h
 ·exact .inl h
 ·rcases jV (List.mem_reverse.2 h) with h|h
  ·exact .inl h
  ·exact .inr (List.mem_reverse.2 h)
theorem f8 {v:Val} {t:Tok} {c:List Val} (h:v = .mk 1 t c):Ne.ju v=0:=by
 subst h
 rw[Ne.ju];rfl
theorem pR {v:Val} (h:aq v=true):Ne.ju v=0:=by
 obtain ⟨k,t,c⟩:=v
 have:(k==1&&t.kind==8)=true:=h
 simp only[Bool.and_eq_true,beq_iff_eq] at this
 obtain ⟨rfl,_⟩:=this
 exact f8 rfl
theorem m7 {l:List Val} {n:Nat} (h:Ne.depth (trim l)≤n):Ne.depth l≤n:=by
 rw[gL] at h ⊢
 intro v hv
 rcases xR hv with h1|h1
 ·rw[pR h1];omega
 ·exact h v h1
theorem DQ (k:Int) (t:Tok) (c:List Val):Ne.ju (.mk k t c)≤1+Ne.depth c:=by
 rw[Ne.ju]
 split
 ·omega
 ·omega
def Sv (n:Nat) (v:Val):Prop:=Ne.ju v≤n ∧ ∀ t m,v = .mk 1 t m→Ne.dL 5 t=false
theorem vu {n:Nat} {t:Tok} {c:List Val} (h:t.kind≠7):Sv n (.mk 1 t c):=by
 refine ⟨by rw[f8 rfl];omega,fun u m e => ?_⟩
 cases e
 unfold Ne.dL
 rw[Bool.and_eq_false_iff]
 right
 exact decide_eq_false fun e=>h (by rw[e];rfl)
theorem oJ {n:Nat} {v:Val} {s:List UInt8} (h:aU s v=true) (hs:s≠[41]):Sv n v:=by
 obtain ⟨k,t,c⟩:=v
 have:(k==1&&decide (t=⟨7,s,0⟩))=true:=h
 simp only[Bool.and_eq_true,beq_iff_eq,decide_eq_true_eq] at this
 obtain ⟨rfl,rfl⟩:=this
 refine ⟨by rw[f8 rfl];omega,fun u m e => ?_⟩
 cases e
 unfold Ne.dL
 rw[Bool.and_eq_false_iff]
 right
 exact decide_eq_false fun e=>hs (congrArg Tok.text e)
theorem rE {n:Nat} {k:Int} {t:Tok} {c:List Val} (hk:k≠1) (h:Ne.depth c≤n):Sv (n+1) (.mk k t c):=by
 refine ⟨by have:=DQ k t c;omega,fun u m e => ?_⟩
 cases e
 exact absurd rfl hk
theorem sx {k:Int} {l:List Val} {t:Tok} (h:tokK k l=some t) : ∃ c r,l = .mk 1 t c::r∧t.kind=k:=by
 cases l with
 | nil=>cases h
 | cons v r =>
  obtain ⟨k',t',c⟩:=v
  have h':(if k'=1∧t'.kind=k then some t' else none)=some t:=h
  split at h'
  ·rename_i hc
   cases h'
   obtain ⟨rfl,h2⟩:=hc
   exact ⟨c,r,rfl,h2⟩
  ·cases h'
theorem fm {s:List UInt8} {l r:List Val} (h:sign s l=some r) : ∃ v,l=v::r∧aU s v=true:=by
 cases l with
 | nil=>cases h
 | cons v m =>
  have h':(if aU s v then some m else none)=some r:=h
  split at h'
  ·rename_i hv
   cases h'
   exact ⟨v,rfl,hv⟩
  ·cases h'
theorem uL {k:Int} {l r c:List Val} {t:Tok} (h:gu k l=some ((t,c),r)):l = .mk k t c::r:=by
 cases l with
 | nil=>cases h
 | cons v m =>
  obtain ⟨k',t',c'⟩:=v
  have h':(if k'=k then some ((t',c'),m) else none)=some ((t,c),r):=h
  split at h'
  ·rename_i hk
   cases h'
   rw[hk]
  ·cases h'
theorem qW {l r:List Val} {s:List UInt8} (h:name l=some (s,r)) : ∃ t c,l = .mk 1 t c::r∧t.kind=1:=by
 unfold name at h
 rw[Option.map_eq_some_iff] at h
 obtain ⟨t,ht,e⟩:=h
 obtain ⟨c,m,rfl,hk⟩:=sx ht
 cases e
 exact ⟨t,c,rfl,hk⟩
theorem Ab {c:List Val} {x:Int×Int} (h:nthM c=some x):Ne.depth c≤0:=by
 refine m7 ?_
 unfold nthM at h
 split at h
 case h_2=>cases h
 rename_i y hy
 unfold nth at hy
 rw[gL]
 split at hy
 ·rename_i k t c' e
  split at hy
  ·rename_i hk
   subst hk
   intro v hv
   rw[e,List.mem_singleton] at hv
   rw[f8 hv];omega
  ·cases hy
 ·rename_i k t c' s k' u c'' e
  split at hy
  ·rename_i hc
   obtain ⟨rfl,_,_,hs,rfl,_⟩:=hc
   intro v hv
   rw[e] at hv
   simp only[List.mem_cons,List.not_mem_nil,or_false] at hv
   rcases hv with hv|rfl|hv
   ·rw[f8 hv];omega
   ·exact (oJ (n:=0) hs (by decide)).1
   ·rw[f8 hv];omega
  ·cases hy
 ·cases hy
theorem yy {c:List Val} {x:Sim} (h:attr c=some x):Ne.depth c≤0:=by
 have key : ∀ v∈c.filter (fun v => !aq v),Ne.ju v≤0:=by
  unfold attr at h
  split at h
  ·rename_i k t c' e
   split at h
   ·rename_i hk
    obtain ⟨rfl,_⟩:=hk
    intro v hv
    rw[e,List.mem_singleton] at hv
    rw[f8 hv];omega
   ·cases h
  ·rename_i k t c' s k' u c'' e
   split at h
   ·rename_i hc
    obtain ⟨rfl,_,hs,rfl,_⟩:=hc
    intro v hv
    rw[e] at hv
    simp only[List.mem_cons,List.not_mem_nil,or_false] at hv
    rcases hv with hv|rfl|hv
    ·rw[f8 hv];omega
    ·exact (oJ (n:=0) hs (by decide)).1
    ·rw[f8 hv];omega
   ·cases h
  ·cases h
 rw[gL]
 intro v hv
 cases hb:aq v with
 | true=>rw[pR hb];omega
 | false=>exact key v (List.mem_filter.2 ⟨hv,by rw[hb];rfl⟩)
theorem K2 {n m:Nat} (h:n≤m) {v:Val} (hv:Sv n v):Sv m v:=⟨Nat.le_trans hv.1 h,hv.2⟩
theorem mC : ∀ (f:Nat) (first:Bool) (l:List Val) (x:Sim) (r:List Val),simple f first l=some (x,r) → ∃ p,l=p++r∧(∀ v∈p,Sv 2 v)∧(x.kind≠11 → ∀ v∈p,Sv 1 v)
 | 0,_,_,_,_,h=>by rw[simple] at h;cases h
 | f+1,first,l,x,r,h=>by
  rw[simple] at h
  have two : ∀ {p:List Val},l=p++r→(∀ v∈p,Sv 1 v) → ∃ p,l=p++r∧(∀ v∈p,Sv 2 v)∧(x.kind≠11 → ∀ v∈p,Sv 1 v):=fun {p} e hp=>⟨p,e,fun v hv=>K2 (by decide) (hp v hv),fun _=>hp⟩
  split at h
  ·rename_i t ht
   cases h
   have ht':tokK 1 l=some t:=by
    split at ht
    ·exact ht
    ·cases ht
   obtain ⟨c,m,rfl,hk⟩:=sx ht'
   exact two (p:=[.mk 1 t c]) rfl fun v hv=>by
    rw[List.mem_singleton] at hv
    subst hv
    exact vu (by omega)
  split at h
  ·rename_i m hm
   cases h
   have hm':sign [42] l=some r:=by
    split at hm
    ·exact hm
    ·cases hm
   obtain ⟨v,rfl,hv⟩:=fm hm'
   exact two (p:=[v]) rfl fun w hw=>by
    rw[List.mem_singleton] at hw
    subst hw
    exact oJ hv (by decide)
  split at h
  ·rename_i t ht
   cases h
   obtain ⟨c,m,rfl,hk⟩:=sx ht
   exact two (p:=[.mk 1 t c]) rfl fun v hv=>by
    rw[List.mem_singleton] at hv
    subst hv
    exact vu (by omega)
  split at h
  ·rename_i m hm
   obtain ⟨v,rfl,hv⟩:=fm hm
   rw[Option.map_eq_some_iff] at h
   obtain ⟨⟨s,r'⟩,hn,e⟩:=h
   cases e
   obtain ⟨t,c,rfl,hk⟩:=qW hn
   exact two (p:=[v,.mk 1 t c]) rfl fun w hw=>by
    simp only[List.mem_cons,List.not_mem_nil,or_false] at hw
    rcases hw with rfl|rfl
    ·exact oJ hv (by decide)
    ·exact vu (by omega)
  split at h
  ·rename_i m hm
   obtain ⟨v,rfl,hv⟩:=fm hm
   have hvs : ∀ n,Sv n v:=fun n=>oJ hv (by decide)
   unfold colon at h
   split at h
   ·rename_i t c r' hval
    obtain rfl:=uL hval
    split at h
    ·rw[Option.map_eq_some_iff] at h
     obtain ⟨y,hy,e⟩:=h
     cases e
     have hd:=Ab hy
     exact two (p:=[v,.mk 5 t c]) rfl fun w hw=>by
      simp only[List.mem_cons,List.not_mem_nil,or_false] at hw
      rcases hw with rfl|rfl
      ·exact hvs 1
      ·exact rE (by decide) hd
    ·split at h
     ·split at h
      ·rename_i y hy
       split at h
       ·cases h
       ·rename_i hk
        cases h
        obtain ⟨p,e,_,h1⟩:=mC f true (trim c) y [] hy
        rw[List.append_nil] at e
        have hd:Ne.depth c≤1:=m7 (by
         rw[gL,e]
         exact fun w hw=>(h1 hk w hw).1)
        refine ⟨[v,.mk 5 t c],rfl,fun w hw => ?_,fun hx=>absurd rfl hx⟩
        simp only[List.mem_cons,List.not_mem_nil,or_false] at hw
        rcases hw with rfl|rfl
        ·exact hvs 2
        ·exact rE (by decide) hd
      ·cases h
     ·cases h
   ·split at h
    ·rename_i s r' hn
     rw[Option.map_eq_some_iff] at h
     obtain ⟨y,hy,e⟩:=h
     cases e
     obtain ⟨t,c,rfl,hk⟩:=qW hn
     exact two (p:=[v,.mk 1 t c]) rfl fun w hw=>by
      simp only[List.mem_cons,List.not_mem_nil,or_false] at hw
      rcases hw with rfl|rfl
      ·exact hvs 1
      ·exact vu (by omega)
    ·cases h
  split at h
  ·rename_i y hy
   obtain ⟨⟨t,c⟩,r'⟩:=y
   obtain rfl:=uL hy
   rw[Option.map_eq_some_iff] at h
   obtain ⟨z,hz,e⟩:=h
   cases e
   have hd:=yy hz
   exact two (p:=[.mk 3 t c]) rfl fun w hw=>by
    rw[List.mem_singleton] at hw
    subst hw
    exact rE (by decide) hd
  ·cases h
end Sl
end Go.Abs
namespace Go.Abs
namespace Sl
def numP (l:List Val):Option (Int×List Val):=match tokK 5 l with
 | some t=>if t.text=[] then some (t.n,l.tail) else none
 | none=>none
def jZ (s:List UInt8):Option (Int×Int):=if s=[111,100,100] then some (2,1) else if s=[101,118,101,110] then some (2,0) else if s=[110] then some (1,0) else none
def tC (s:List UInt8):Option Int:=if s.take 2=[110,45]∧0≤digits (s.drop 2) then some (-digits (s.drop 2)) else none
def nthP (l:List Val):Option ((Int×Int)×List Val) :=
  match tokK 1 l with
  | some t=>(jZ t.text).map fun x=>(x,l.tail)
  | none =>
  match tokK 5 l with
  | none=>none
  | some t =>
    if t.text=[] then some ((0,t.n),l.tail)
    else if t.text=[110] then
      (match sign [43] l.tail with
       | some r=>(match numP r with
         | some (b,m)=>if 0≤b then some ((t.n,b),m) else none
         | none=>none)
       | none=>some ((t.n,0),l.tail))
    else (tC t.text).map fun b=>((t.n,b),l.tail)
def fx {α:Type} (f:List Val→Option (α×List Val)) (l:List Val):Option α:=match f (trim l) with
 | some (x,[])=>some x
 | _=>none
theorem zr {s:List UInt8} (h:0≤digits s):0<s.length:=by
 unfold digits at h
 split at h
 ·omega
 ·omega
theorem DL (v:List Val):fx nthP v=nth v:=by
 unfold fx nth
 generalize trim v=l
 match l with
 | []=>rfl
 | [.mk k t c] =>
  unfold nthP tokK nth1 jZ tC
  simp only[List.tail_cons]
  by_cases hk:k=1
  ·subst hk
   by_cases h1:t.kind=1
   ·simp only[h1,if_true,and_self]
    split
    ·rename_i x hx
     split at hx
     ·cases hx;rename_i e;rw[if_pos e]
     ·rename_i e
      rw[if_neg e]
      split at hx
      ·cases hx;rename_i e;rw[if_pos e]
      ·rename_i e
       rw[if_neg e]
       split at hx
       ·cases hx;rename_i e;rw[if_pos e]
       ·cases hx
    ·rename_i hx
     split at hx
     ·exact absurd rfl (hx _)
     ·rename_i e
      rw[if_neg e]
      split at hx
      ·exact absurd rfl (hx _)
      ·rename_i e
       rw[if_neg e]
       split at hx
       ·exact absurd rfl (hx _)
       ·rename_i e
        rw[if_neg e]
   ·simp only[h1,and_false,if_false,true_and]
    by_cases h5:t.kind=5
    ·simp only[h5,if_true]
     by_cases ht:t.text=[]
     ·simp only[ht,if_true]
     ·simp only[ht,if_false]
      by_cases hn:t.text=[110]
      ·simp only[hn,if_true]
       rfl
      ·simp only[hn,if_false]
       by_cases hl:t.text.take 2=[110,45]∧0≤digits (t.text.drop 2)
       ·have h3:=zr hl.2
        rw[List.length_drop] at h3
        rw[if_pos hl,if_pos ⟨by omega,hl⟩]
        rfl
       ·rw[if_neg hl,if_neg fun h=>hl h.2]
        rfl
    ·simp[h5]
  ·simp[hk]
 | [.mk k t c,s] =>
  unfold nthP tokK jZ tC
  simp only[List.tail_cons]
  by_cases hk:k=1
  ·subst hk
   by_cases h1:t.kind=1
   ·simp only[h1,and_self,if_true]
    split
    ·rename_i x hx
     rw[Option.map_eq_some_iff] at hx
     obtain ⟨y,_,e⟩:=hx
     cases e
    ·rfl
   ·simp only[h1,and_false,if_false,true_and]
    by_cases h5:t.kind=5
    ·simp only[h5,if_true]
     by_cases ht:t.text=[]
     ·simp only[ht,if_true]
     ·simp only[ht,if_false]
      by_cases hn:t.text=[110]
      ·simp only[hn,if_true,sign]
       cases hs:aU [43] s
       ·simp
       ·simp[numP,tokK]
      ·simp only[hn,if_false]
       split
       ·rename_i x hx
        rw[Option.map_eq_some_iff] at hx
        obtain ⟨y,_,e⟩:=hx
        cases e
       ·rfl
    ·simp[h5]
  ·simp[hk]
 | [.mk k t c,s,.mk k' u c'] =>
  unfold nthP tokK jZ tC
  simp only[List.tail_cons]
  by_cases hk:k=1
  ·subst hk
   by_cases h1:t.kind=1
   ·have h15:((1:Int)=5)=False:=by simp
    simp only[h1,h15,and_self,if_true,false_and,and_false,if_false]
    split
    ·rename_i x hx
     rw[Option.map_eq_some_iff] at hx
     obtain ⟨y,_,e⟩:=hx
     cases e
    ·rfl
   ·simp only[h1,and_false,if_false,true_and]
    by_cases h5:t.kind=5
    ·simp only[h5,if_true,true_and]
     by_cases ht:t.text=[]
     ·simp[ht]
     ·simp only[ht,if_false]
      by_cases hn:t.text=[110]
      ·simp only[hn,if_true,sign,true_and]
       cases hs:aU [43] s
       ·simp
       ·simp only[if_true,numP,tokK,true_and,List.tail_cons]
        by_cases hk':k'=1∧u.kind=5
        ·rw[if_pos hk']
         simp only
         by_cases hu:u.text=[]
         ·rw[if_pos hu]
          simp only
          by_cases h0:0≤u.n
          ·rw[if_pos h0,if_pos ⟨hk'.1,hk'.2,hu,h0⟩]
          ·rw[if_neg h0,if_neg fun h=>h0 h.2.2.2]
         ·rw[if_neg hu,if_neg fun h=>hu h.2.2.1]
        ·rw[if_neg hk',if_neg fun h=>hk' ⟨h.1,h.2.1⟩]
      ·simp only[hn,if_false,false_and]
       split
       ·rename_i x hx
        rw[Option.map_eq_some_iff] at hx
        obtain ⟨y,_,e⟩:=hx
        cases e
       ·rfl
    ·simp[h5]
  ·simp[hk]
 | .mk k t c::s::w::z::m =>
  unfold nthP tokK jZ tC
  simp only[List.tail_cons]
  by_cases hk:k=1
  ·subst hk
   by_cases h1:t.kind=1
   ·simp only[h1,and_self,if_true]
    split
    ·rename_i x hx
     rw[Option.map_eq_some_iff] at hx
     obtain ⟨y,_,e⟩:=hx
     cases e
    ·rfl
   ·simp only[h1,and_false,if_false,true_and]
    by_cases h5:t.kind=5
    ·simp only[h5,if_true]
     by_cases ht:t.text=[]
     ·simp only[ht,if_true]
     ·simp only[ht,if_false]
      by_cases hn:t.text=[110]
      ·simp only[hn,if_true,sign]
       cases hs:aU [43] s
       ·simp
       ·simp only[if_true]
        split
        ·rename_i x hx
         split at hx
         ·rename_i b q hq
          split at hx
          ·cases hx
           unfold numP at hq
           split at hq
           ·split at hq
            ·cases hq
            ·cases hq
           ·cases hq
          ·cases hx
         ·cases hx
        ·rfl
      ·simp only[hn,if_false]
       split
       ·rename_i x hx
        rw[Option.map_eq_some_iff] at hx
        obtain ⟨y,_,e⟩:=hx
        cases e
       ·rfl
    ·simp[h5]
  ·simp[hk]
def nS:List Val→Bool
 | []=>true
 | v::_=>aq v||(aU [44] v||(aU [62] v||(aU [43] v||aU [126] v)))
def lG (l:List Val):Option (List UInt8×List Val):=match name (l.drop 2) with
 | some (s,r)=>if s=fK∨s=g6 then some (s,r) else none
 | none=>none
def lI:Nat→List Sim→List Val→Option ((List Sim×List UInt8)×List Val)
 | 0,_,_=>none
 | f+1,acc,l =>
  if nS l then (if acc.isEmpty then none else some ((acc,[]),l))
  else if double l then (lG l).map fun x=>((acc,x.1),x.2)
  else if acc.length<8 then (match simple (Ne.size l) acc.isEmpty l with
   | some (x,r)=>lI f (acc++[x]) r
   | none=>none)
  else none
def jF (l:List Val):Int×List Val :=
 let m:=l.dropWhile aq
 match sign [62] m with
 | some r=>(2,r.dropWhile aq)
 | none =>
 match sign [43] m with
 | some r=>(3,r.dropWhile aq)
 | none =>
 match sign [126] m with
 | some r=>(4,r.dropWhile aq)
 | none=>if m.length<l.length∧m≠[] then (1,m) else (0,m)
def cpxP:Nat→Int→List Prt→List Val→Option (Cpx×List Val)
 | 0,_,_,_=>none
 | n+1,c,acc,l=>match lI (l.length+1) [] l with
  | none=>none
  | some ((ps,s),r) =>
   if s≠[] then some (⟨acc++[⟨c,ps⟩],s⟩,r)
   else if (jF r).1=0 then some (⟨acc++[⟨c,ps⟩],[]⟩,(jF r).2)
   else cpxP n (jF r).1 (acc++[⟨c,ps⟩]) (jF r).2
theorem Dz {l:List Val} (h:eE [44] l=false):nS l=over l:=by
 cases l with
 | nil=>rfl
 | cons v l =>
  unfold eE at h
  rw[List.any_cons,Bool.or_eq_false_iff] at h
  show (aq v||(aU [44] v||(aU [62] v||(aU [43] v||aU [126] v))))=(aq v||aU [62] v||aU [43] v||aU [126] v)
  rw[h.1]
  simp only[Bool.false_or,Bool.or_assoc]
theorem pZ : ∀ (f:Nat) (first:Bool) (l:List Val) (ps:List Sim) (r:List Val),part f first l=some (ps,r) → ∃ p,l=p++r
 | 0,_,_,_,_,h=>by cases h
 | f+1,first,l,ps,r,h=>by
  rw[part] at h
  split at h
  ·cases h;exact ⟨[],rfl⟩
  ·split at h
   ·cases h
   ·rename_i x m hs
    rw[Option.map_eq_some_iff] at h
    obtain ⟨⟨qs,r'⟩,hp,e⟩:=h
    cases e
    obtain ⟨p,rfl,_⟩:=mC _ _ _ _ _ hs
    obtain ⟨p',rfl⟩:=pZ f false m qs r' hp
    exact ⟨p++p',by rw[List.append_assoc]⟩
theorem tS : ∀ (f:Nat) (first:Bool) (l:List Val) (ps:List Sim) (r:List Val),part f first l=some (ps,r)→over r=true∨double r=true
 | 0,_,_,_,_,h=>by cases h
 | f+1,first,l,ps,r,h=>by
  rw[part] at h
  split at h
  ·rename_i hc
   cases h
   simpa using hc
  ·split at h
   ·cases h
   ·rename_i x m hs
    rw[Option.map_eq_some_iff] at h
    obtain ⟨⟨qs,r'⟩,hp,e⟩:=h
    cases e
    exact tS f false m qs r' hp
theorem o5 {s:List UInt8} {p r:List Val} (h:eE s (p++r)=false):eE s r=false:=by
 unfold eE at h ⊢
 rw[List.any_append,Bool.or_eq_false_iff] at h
 exact h.2
theorem x5 {v:Val} {l:List Val} (h:double (v::l)=true):over (v::l)=false:=by
 obtain ⟨k,t,c⟩:=v
 cases l with
 | nil=>cases h
 | cons w l =>
  unfold double at h
  rw[Bool.and_eq_true] at h
  have h1:=h.1
  unfold aU at h1
  simp only[Bool.and_eq_true,beq_iff_eq,decide_eq_true_eq] at h1
  obtain ⟨rfl,rfl⟩:=h1
  rfl
def xD (acc:List Sim) (r:List Val):Option ((List Sim×List UInt8)×List Val) :=
 if 8<acc.length then none
 else if over r then (if acc.isEmpty then none else some ((acc,[]),r)) else (lG r).map fun x=>((acc,x.1),x.2)
theorem uy : ∀ (f:Nat) (acc:List Sim) (l:List Val),eE [44] l=false→acc.length≤8→lI f acc l=(match part f acc.isEmpty l with
  | none=>none
  | some (ps,r)=>xD (acc++ps) r)
 | 0,_,_,_,_=>rfl
 | f+1,acc,l,hc,h8=>by
  rw[lI,part,Dz hc]
  cases ho:over l with
  | true =>
   simp only[Bool.true_or,if_true,List.append_nil]
   unfold xD
   rw[if_neg (show ¬ 8<acc.length by omega),ho]
   rfl
  | false =>
   simp only[Bool.false_or,Bool.false_eq_true,if_false]
   cases hd:double l with
   | true =>
    simp only[if_true,List.append_nil]
    unfold xD
    rw[if_neg (show ¬ 8<acc.length by omega),ho]
    rfl
   | false =>
    simp only[Bool.false_eq_true,if_false]
    cases hs:simple (Ne.size l) acc.isEmpty l with
    | none=>simp
    | some y =>
     obtain ⟨x,m⟩:=y
     simp only
     obtain ⟨p,rfl,_⟩:=mC _ _ _ _ _ hs
     have hcm:=o5 hc
     have he:(acc++[x]).isEmpty=false:=by simp
     by_cases h7:acc.length<8
     ·rw[if_pos h7,uy f (acc++[x]) m hcm (by rw[List.length_append,List.length_singleton];omega),he]
      cases part f false m with
      | none=>rfl
      | some z =>
       simp only[Option.map_some,List.append_assoc,List.singleton_append]
     ·rw[if_neg h7]
      cases part f false m with
      | none=>rfl
      | some z =>
       simp only[Option.map_some]
       unfold xD
       rw[if_pos (by simp;omega)]
theorem CJ {r:List Val} (ho:over r=true) (hne:r≠[]) (hr:Fr r.reverse) (hc:eE [44] r=false):jF r=comb r∧(comb r).1≠0:=by
 have hm:r.dropWhile aq≠[]:=fun e=>by
  have h1 : ∀ v∈r,aq v=true:=by
   intro v hv
   rcases jV hv with h|h
   ·exact h
   ·rw[e] at h;cases h
  cases hrr:r.reverse with
  | nil=>exact hne (by simpa using hrr)
  | cons v q =>
   have:=hr v q hrr
   have hv:v∈r:=by
    have:v∈r.reverse:=by rw[hrr];simp
    simpa using this
   rw[h1 v hv] at this
   cases this
 unfold jF comb
 simp only
 cases h1:sign [62] (r.dropWhile aq) with
 | some x=>simp
 | none =>
  cases h2:sign [43] (r.dropWhile aq) with
  | some x=>simp
  | none =>
   cases h3:sign [126] (r.dropWhile aq) with
   | some x=>simp
   | none =>
    have hl:(r.dropWhile aq).length<r.length:=by
     cases r with
     | nil=>exact absurd rfl hne
     | cons v q =>
      cases hv:aq v with
      | true =>
       rw[List.dropWhile_cons,if_pos hv]
       have:=(List.dropWhile_sublist aq (l:=q)).length_le
       simp only[List.length_cons];omega
      | false =>
       exfalso
       rw[List.dropWhile_cons,if_neg (by rw[hv];simp)] at h1 h2 h3
       have ho:(aq v||aU [62] v||aU [43] v||aU [126] v)=true:=ho
       rw[hv] at ho
       simp only[sign] at h1 h2 h3
       simp only[Bool.false_or,Bool.or_eq_true] at ho
       rcases ho with (ho|ho)|ho
       ·rw[if_pos ho] at h1;cases h1
       ·rw[if_pos ho] at h2;cases h2
       ·rw[if_pos ho] at h3;cases h3
    simp only
    rw[if_pos ⟨hl,hm⟩,(Jl r).drop]
    exact ⟨rfl,by simp⟩
theorem yF (r:List Val) : ∃ p,r=p++(comb r).2:=by
 obtain ⟨p,hp⟩:=List.dropWhile_suffix aq (l:=r)
 have key : ∀ {s:List UInt8} {x:List Val},sign s (r.dropWhile aq)=some x → ∃ p,r=p++x.dropWhile aq:=fun {s x} h=>by
  obtain ⟨v,e,_⟩:=fm h
  obtain ⟨q,hq⟩:=List.dropWhile_suffix aq (l:=x)
  exact ⟨p++(v::q),by rw[←hp,e,List.append_assoc,List.cons_append,hq]⟩
 unfold comb
 simp only
 cases h1:sign [62] (r.dropWhile aq) with
 | some x=>exact key h1
 | none =>
  cases h2:sign [43] (r.dropWhile aq) with
  | some x=>exact key h2
  | none =>
   cases h3:sign [126] (r.dropWhile aq) with
   | some x=>exact key h3
   | none =>
    obtain ⟨q,hq⟩:=List.dropWhile_suffix aq (l:=r.dropWhile aq)
    refine ⟨p++q,?_⟩
    show r=p++q++(r.dropWhile aq).dropWhile aq
    rw[List.append_assoc,hq,hp]
theorem tB {l p r:List Val} (h:Fr l.reverse) (e:l=p++r):Fr r.reverse:=by
 subst e
 rw[List.reverse_append] at h
 exact h.pre rfl
def fin {α:Type}:Option (α×List Val)→Option α
 | some (x,[])=>some x
 | _=>none
theorem Bh : ∀ (n:Nat) (c:Int) (acc:List Prt) (l:List Val),eE [44] l=false→Fr l.reverse →
  fin (cpxP n c acc l)=(cpx n c l).map fun x=>⟨acc++x.parts,x.pseudo⟩
 | 0,_,_,_,_,_=>rfl
 | n+1,c,acc,l,hc,hl=>by
  rw[cpxP,cpx,uy _ _ _ hc (by simp),List.isEmpty_nil]
  cases hp:part (l.length+1) true l with
  | none=>rfl
  | some z =>
   obtain ⟨ps,r⟩:=z
   obtain ⟨p,rfl⟩:=pZ _ _ _ _ _ hp
   have hcr:=o5 hc
   have hlr:=tB hl rfl
   have hst:=tS _ _ _ _ _ hp
   simp only[List.nil_append]
   unfold xD
   by_cases h8:8<ps.length
   ·rw[if_pos h8]
    cases hd:double r with
    | true =>
     simp only[if_true]
     have : ∀ s, ¬ ((s=fK∨s=g6)∧ps.length≤8):=fun s h=>by omega
     split
     ·rw[if_neg (this _)];rfl
     ·rfl
    | false =>
     simp only[Bool.false_eq_true,if_false]
     rw[if_pos (.inl h8)];rfl
   rw[if_neg h8]
   cases hd:double r with
   | true =>
    have ho:over r=false:=by
     cases r with
     | nil=>cases hd
     | cons v q=>exact x5 hd
    rw[ho]
    simp only[Bool.false_eq_true,if_false,if_true]
    unfold lG
    cases hn:name (r.drop 2) with
    | none=>rfl
    | some y =>
     obtain ⟨s,q⟩:=y
     simp only
     by_cases hs:s=fK∨s=g6
     ·have hsn:s≠[]:=by
       rcases hs with rfl|rfl
       ·decide
       ·decide
      rw[if_pos hs]
      simp only[Option.map_some]
      rw[if_pos hsn]
      cases q with
      | nil =>
       simp only
       rw[if_pos ⟨hs,by omega⟩];rfl
      | cons _ _=>rfl
     ·rw[if_neg hs]
      cases q with
      | nil =>
       simp only
       rw[if_neg fun h=>hs h.1];rfl
      | cons _ _=>rfl
   | false =>
    have ho:over r=true:=by
     rcases hst with h|h
     ·exact h
     ·rw[hd] at h;cases h
    rw[ho]
    simp only[Bool.false_eq_true,if_false,if_true]
    cases ps with
    | nil=>simp[fin]
    | cons x ps =>
     simp only[List.isEmpty_cons,Bool.false_eq_true,if_false,ne_eq,not_true_eq_false]
     rw[if_neg (show ¬ (8<(x::ps).length∨x::ps=[]) by simp;simpa using h8)]
     cases hr:r with
     | nil=>rfl
     | cons v q =>
      rw[←hr]
      have hne:r≠[]:=by rw[hr];simp
      obtain ⟨e1,e2⟩:=CJ ho hne hlr hcr
      obtain ⟨p',e3⟩:=yF r
      have hre:r.isEmpty=false:=by rw[hr];rfl
      rw[e1,if_neg e2,hre]
      have hc2:eE [44] (comb r).2=false:=by
       rw[e3] at hcr;exact o5 hcr
      simp only[Bool.false_eq_true,if_false]
      rw[Bh n _ _ _ hc2 (tB hlr e3),Option.map_map]
      congr 1
      funext x
      simp
theorem DI {l:List Val} (hc:eE [44] l=false):fx (cpxP 16 0 []) l=cpx 16 0 (trim l):=by
 have hct:eE [44] (trim l)=false:=by
  unfold eE at hc ⊢
  rw[List.any_eq_false] at hc ⊢
  exact fun v hv=>hc v (uT hv)
 have h:=Bh 16 0 [] (trim l) hct (yl l)
 unfold fx
 unfold fin at h
 rw[h]
 simp
end Sl
end Go.Abs
namespace Go.Abs
namespace Sl
def sr:List UInt8:=[48,49,50,51,52,53,54,55,56,57]
theorem z7 (c:UInt8):sr.contains c=Tk.digit c:=by
 have h : ∀ n∈List.range 256,sr.contains (UInt8.ofNat n)=Tk.digit (UInt8.ofNat n):=by decide +kernel
 have:=h c.toNat (List.mem_range.2 c.toNat_lt)
 rwa [UInt8.ofNat_toNat] at this
theorem r5 {p:UInt8→Bool} {l:List UInt8}:l.dropWhile p=[]↔l.all p=true:=by
 induction l with
 | nil=>simp
 | cons c l ih =>
  rw[List.dropWhile_cons,List.all_cons]
  split
  ·rename_i h;rw[h,Bool.true_and];exact ih
  ·rename_i h;simp[h]
theorem wM (s:List UInt8):(Lib.trimS s sr==[])=s.all Tk.digit:=by
 have hf:(fun c=>sr.contains c)=Tk.digit:=funext z7
 unfold Lib.trimS Lib.trimLeftS Lib.trimRightS
 rw[hf,Bool.eq_iff_iff,beq_iff_eq,r5,List.all_reverse]
 constructor
 ·intro h
  rw[List.all_eq_true] at h ⊢
  have h2:s.reverse.dropWhile Tk.digit=[]:=by
   cases hd:s.reverse.dropWhile Tk.digit with
   | nil=>rfl
   | cons c r =>
    have hc:=h c (by rw[hd];simp)
    have : ¬ (Tk.digit c=true):=by
     have:=List.head?_dropWhile_not Tk.digit s.reverse
     rw[hd] at this
     simpa using this
    exact absurd hc this
  rw[r5,List.all_reverse,List.all_eq_true] at h2
  exact h2
 ·intro h
  have:s.reverse.dropWhile Tk.digit=[]:=by rw[r5,List.all_reverse];exact h
  rw[this];rfl
theorem kW : ∀ (s:List UInt8) (n:Nat),s.all Tk.digit=true → ∃ m:Nat,Lib.decFrom n s=some m∧(m:Int)=s.foldl (fun n c=>10*n+((c.toNat:Int) - 48)) (n:Int)
 | [],n,_=>⟨n,rfl,rfl⟩
 | c::s,n,h=>by
  rw[List.all_cons,Bool.and_eq_true] at h
  obtain ⟨h1,h2⟩:=h
  have hc:48≤c.toNat∧c.toNat≤57:=of_decide_eq_true h1
  have hd:Lib.digitVal c=some (c.toNat - 48):=if_pos hc
  obtain ⟨m,e1,e2⟩:=kW s (n*10+(c.toNat - 48)) h2
  refine ⟨m,?_,?_⟩
  ·unfold Lib.decFrom;rw[hd];exact e1
  ·rw[e2,List.foldl_cons]
   congr 1
   omega
theorem yo {s:List UInt8} (h:s.all Tk.digit=true) (h1:1≤s.length) (h4:s.length≤4):Lib.atoi s=some (digits s):=by
 obtain ⟨m,e1,e2⟩:=kW s 0 h
 have hd:digits s=(m:Int):=by
  unfold digits
  rw[if_neg (by omega),if_pos h,e2]
  rfl
 rw[hd]
 cases s with
 | nil=>simp at h1
 | cons c r =>
  rw[List.all_cons,Bool.and_eq_true] at h
  have hc:48≤c.toNat∧c.toNat≤57:=of_decide_eq_true h.1
  have n1:(c==45)=false:=by
   rw[beq_eq_false_iff_ne];rintro rfl;exact absurd hc.1 (by decide)
  have n2:(c==43)=false:=by
   rw[beq_eq_false_iff_ne];rintro rfl;exact absurd hc.1 (by decide)
  unfold Lib.atoi
  simp only[n1,n2,Bool.false_eq_true,if_false]
  unfold Lib.decNat
  rw[List.isEmpty_cons,if_neg (by simp),e1]
  rfl
theorem xf {s:List UInt8} (h : ¬ (s.all Tk.digit=true∧1≤s.length∧s.length≤4)):digits s = -1:=by
 unfold digits
 split
 ·rfl
 ·split
  ·rename_i h1 h2
   exact absurd ⟨h2,by omega,by omega⟩ h
  ·rfl
theorem yT {s:List UInt8} (h:s.all Tk.digit=true∧1≤s.length∧s.length≤4):0≤digits s:=by
 obtain ⟨m,e1,e2⟩:=kW s 0 h.1
 have hd:digits s=(m:Int):=by
  unfold digits
  rw[if_neg (by omega),if_pos h.1,e2]
  rfl
 omega
theorem zu {s:List UInt8}:digits s≤9999:=by
 unfold digits
 split
 ·omega
 ·rename_i h0
  split
  ·rename_i h1
   have key : ∀ (r:List UInt8) (n k:Int),r.all Tk.digit=true→n≤k→r.foldl (fun n c=>10*n+((c.toNat:Int) - 48)) n≤k*10 ^ r.length+(10 ^ r.length - 1):=by
    intro r
    induction r with
    | nil=>intro n k _ h;simp;omega
    | cons c r ih =>
     intro n k h hk
     rw[List.all_cons,Bool.and_eq_true] at h
     have hc:48≤c.toNat∧c.toNat≤57:=of_decide_eq_true h.1
     rw[List.foldl_cons]
     refine Int.le_trans (ih _ (10*k+9) h.2 (by omega)) ?_
     rw[List.length_cons,Int.pow_succ]
     have:(10*k+9)*10 ^ r.length=k*(10 ^ r.length*10)+9*10 ^ r.length:=by
      rw[Int.add_mul];congr 1;rw[Int.mul_comm 10 k,Int.mul_assoc,Int.mul_comm 10]
     omega
   have h2:=key s 0 0 h1 (Int.le_refl _)
   have h3:(10:Int) ^ s.length≤10000:=by
    have:s.length≤4:=by omega
    match s.length,this with
    | 0,_=>decide
    | 1,_=>decide
    | 2,_=>decide
    | 3,_=>decide
    | 4,_=>decide
   omega
  ·omega
def uh (s:List UInt8):List Val→Option Sim
 | [.mk k u _]=>if k=1∧(u.kind=1∨u.kind=6) then some (.mk 6 s u.text 0 0 []) else none
 | _=>none
def FD (m:List Val):Option Sim:=match name m with
 | none=>none
 | some (s,r)=>match sign [61] r with
  | some r2=>uh s r2
  | none=>if r=[] then some (.mk 5 s [] 0 0 []) else none
theorem zN (l:List Val):attr l=FD (l.filter fun v => !aq v):=by
 unfold attr FD
 generalize (l.filter fun v => !aq v)=m
 match m with
 | []=>rfl
 | [.mk k t c] =>
  unfold name tokK
  simp only
  by_cases h:k=1∧t.kind=1
  ·rw[if_pos h,if_pos h];rfl
  ·rw[if_neg h,if_neg h];rfl
 | [.mk k t c,e] =>
  unfold name tokK
  simp only
  by_cases h:k=1∧t.kind=1
  ·rw[if_pos h]
   simp only[Option.map_some,List.tail_cons,sign]
   cases aU [61] e<;>simp[uh]
  ·rw[if_neg h];rfl
 | [.mk k t c,e,.mk k' u c'] =>
  unfold name tokK
  simp only
  by_cases h:k=1∧t.kind=1
  ·rw[if_pos h]
   simp only[Option.map_some,List.tail_cons,sign]
   cases hs:aU [61] e
   ·simp
   ·simp only[if_true,uh]
    by_cases h2:k'=1∧(u.kind=1∨u.kind=6)
    ·rw[if_pos h2,if_pos ⟨h.1,h.2,(by first|rfl|trivial),h2.1,h2.2⟩]
    ·rw[if_neg h2,if_neg fun x=>h2 ⟨x.2.2.2.1,x.2.2.2.2⟩]
  ·rw[if_neg h,if_neg fun x=>h ⟨x.1,x.2.1⟩];rfl
 | .mk k t c::e::w::z::m =>
  unfold name tokK
  simp only
  by_cases h:k=1∧t.kind=1
  ·rw[if_pos h]
   simp only[Option.map_some,List.tail_cons,sign]
   cases aU [61] e<;>simp[uh]
  ·rw[if_neg h];rfl
end Sl
end Go.Abs
namespace Go.Abs
namespace Sl
theorem oz {l r:List Val} {s:List UInt8} (h:name l=some (s,r)) : ∃ v,l=v::r:=by
 obtain ⟨t,c,e,_,_⟩:=kg h
 exact ⟨_,e⟩
theorem tf {g:List Val→Option (Sim×List Val)} {l r:List Val} {x:Sim} (h:colon g l=some (x,r)) : ∃ v,l=v::r:=by
 unfold colon at h
 cases hv:gu 5 l with
 | some y =>
  obtain ⟨⟨t,c⟩,q⟩:=y
  have e:=gI hv
  rw[hv] at h
  simp only at h
  split at h
  ·rw[Option.map_eq_some_iff] at h
   obtain ⟨z,_,hz⟩:=h
   cases hz
   exact ⟨_,e⟩
  ·split at h
   ·split at h
    ·split at h
     ·cases h
     ·cases h
      exact ⟨_,e⟩
    ·cases h
   ·cases h
 | none =>
  rw[hv] at h
  simp only at h
  cases hn:name l with
  | some y =>
   obtain ⟨s,q⟩:=y
   rw[hn] at h
   simp only at h
   rw[Option.map_eq_some_iff] at h
   obtain ⟨z,_,hz⟩:=h
   cases hz
   exact oz hn
  | none=>rw[hn] at h;cases h
theorem sF : ∀ (f:Nat) (first:Bool) (l:List Val) (x:Sim) (r:List Val),simple f first l=some (x,r)→r.length<l.length ∧ ∃ p,l=p++r
 | 0,first,l,x,r,h=>by rw[simple] at h;cases h
 | f+1,first,l,x,r,h=>by
  have one:(∃ v,l=v::r)→r.length<l.length ∧ ∃ p,l=p++r:=by
   rintro ⟨v,rfl⟩
   exact ⟨by simp,[v],rfl⟩
  have two:(∃ v w,l=v::w::r)→r.length<l.length ∧ ∃ p,l=p++r:=by
   rintro ⟨v,w,rfl⟩
   exact ⟨by simp;omega,[v,w],rfl⟩
  have tok : ∀ {k:Int} {t:Tok},tokK k l=some t → ∃ v,l=v::l.tail:=fun {k t} ht=>by
   obtain ⟨c,m,e,_⟩:=kv ht
   rw[e];exact ⟨_,rfl⟩
  rw[simple] at h
  split at h
  ·rename_i t ht
   cases h
   cases first
   ·cases ht
   ·exact one (tok ht)
  split at h
  ·rename_i q hq
   cases h
   cases first
   ·cases hq
   ·obtain ⟨v,e,_⟩:=fu hq
    exact one ⟨v,e⟩
  split at h
  ·rename_i t ht
   cases h
   exact one (tok ht)
  split at h
  ·rename_i q hq
   obtain ⟨v,e,_⟩:=fu hq
   rw[Option.map_eq_some_iff] at h
   obtain ⟨⟨s,m⟩,hn,hz⟩:=h
   cases hz
   obtain ⟨w,e2⟩:=oz hn
   exact two ⟨v,w,by rw[e,e2]⟩
  split at h
  ·rename_i q hq
   obtain ⟨v,e,_⟩:=fu hq
   obtain ⟨w,e2⟩:=tf h
   exact two ⟨v,w,by rw[e,e2]⟩
  split at h
  ·rename_i y hy
   obtain ⟨⟨t,c⟩,q⟩:=y
   have e:=gI hy
   rw[Option.map_eq_some_iff] at h
   obtain ⟨z,_,hz⟩:=h
   cases hz
   exact one ⟨_,e⟩
  ·cases h
end Sl
end Go.Abs
set_option linter.unusedSimpArgs true
namespace Go.Abs
theorem mM (p:Val→Bool) : ∀ l:List Val, ∀ q∈Sl.cut p l,Ne.size q≤Ne.size l
 | [],q,hq=>by
  rw[Sl.cut,List.mem_singleton] at hq
  subst hq;exact Nat.le_refl _
 | v::l,q,hq=>by
  rw[Ne.size]
  cases h:p v with
  | true =>
   rw[Sl.qQ h] at hq
   rcases List.mem_cons.1 hq with rfl|hq
   ·rw[Ne.size];omega
   ·have:=mM p l q hq
    omega
  | false =>
   obtain ⟨r,rs,e⟩:=Sl.pj p l
   rw[Sl.rY h e] at hq
   rcases List.mem_cons.1 hq with rfl|hq
   ·have:=mM p l r (by rw[e];simp)
    rw[Ne.size];omega
   ·have:=mM p l q (by rw[e];simp[hq])
    omega
end Go.Abs
namespace Go.Abs
namespace Sl
open Tk (eo within)
def eO (s:List UInt8):Bool:=s==sM||(s==s7||(s==oC||s==mg))
def fewB (n:Int):Bool:=decide (-9999≤n)&&decide (n≤9999)
def oneK (k:Int) (n v:List UInt8) (a b:Int):Bool :=
 if k=1∨k=9∨k=10 then n.isEmpty&&(v.isEmpty&&(a==0&&b==0))
 else if k=2 then Tk.may ⟨1,n,0⟩&&(low n==n&&(v.isEmpty&&(a==0&&b==0)))
 else if k=3 then Tk.may ⟨4,n,0⟩&&(v.isEmpty&&(a==0&&b==0))
 else if k=4∨k=5 then Tk.may ⟨1,n,0⟩&&(v.isEmpty&&(a==0&&b==0))
 else if k=6 then Tk.may ⟨1,n,0⟩&&((Tk.may ⟨6,v,34⟩||Tk.may ⟨6,v,39⟩)&&(a==0&&b==0))
 else if k=7 then eO n&&(v.isEmpty&&(a==0&&b==0))
 else if k=8 then n.isEmpty&&(v.isEmpty&&(fewB a&&fewB b))
 else if k=11 then n.isEmpty&&(v.isEmpty&&(a==0&&b==0))
 else false
mutual
def oneB:Sim→Bool
 | .mk k n v a b l=>oneK k n v a b&&(if k=11 then (l.length==1&&hZ l) else l.isEmpty)
/-- of what a SimNot has -/
def hZ:List Sim→Bool
 | []=>true
 | x::l=>(x.kind != 11)&&(oneB x&&hZ l)
end
def mY (l:List Sim):Bool:=l.all oneB&&(l.tail.all (fun x=>decide (3≤x.kind))&&decide (l.length≤8))
def eM:Bool→List Prt→List UInt8→Bool
 | _,[],_=>true
 | first,p::r,s=>(decide (0≤p.comb)&&(decide (p.comb≤4)&&((p.comb==0)==first)))&&(mY p.l&&(!(p.l.isEmpty&&(!r.isEmpty||s.isEmpty))&&eM false r s))
def ja (s:List UInt8):Bool:=s.isEmpty||(s==fK||s==g6)
def cpxB (c:Cpx):Bool:=eM true c.parts c.pseudo&&(decide (1≤c.parts.length)&&(decide (c.parts.length≤16)&&ja c.pseudo))
def mayB (l:List Cpx):Bool:=l.all cpxB&&(decide (1≤l.length)&&decide (l.length≤32))
theorem o2 (s:List UInt8):eO s=true↔er s:=by
 unfold eO er
 simp only[Bool.or_eq_true,beq_iff_eq]
theorem qw (n:Int):fewB n=true↔few n:=by
 unfold fewB few
 simp only[Bool.and_eq_true,decide_eq_true_eq]
theorem iM (n:List UInt8):Tk.may ⟨1,n,0⟩=true↔eo n:=by
 rw[Tk.jH]
 exact ⟨fun h=>ko h rfl,fun h => .ident n h⟩
theorem r7 (n:List UInt8):Tk.may ⟨4,n,0⟩=true↔n≠[] ∧ ∀ b∈n,within b=true:=by
 rw[Tk.jH]
 exact ⟨fun h=>tZ h rfl,fun h => .hash n h.1 h.2⟩
theorem A4 (v:List UInt8) (q:UInt8) (hq:q=34∨q=39):Tk.may ⟨6,v,q.toNat⟩=true ↔ ∀ b∈v,b≠q∧Tk.ending b=false:=by
 rw[Tk.jH]
 constructor
 ·intro h
  generalize ht:(⟨6,v,(q.toNat:Int)⟩:Tok)=t at h
  cases h with
  | str x q' hq' hx =>
   have e1:v=x:=congrArg Tok.text ht
   have e2:(q.toNat:Int)=q'.toNat:=congrArg Tok.n ht
   have e3:q=q':=UInt8.toNat_inj.1 (by omega)
   subst e1;subst e3
   exact hx
  | _=>first|(have:=congrArg Tok.kind ht;simp at this;done)
 ·intro h
  exact .str v q hq h
theorem has34 {v:List UInt8} (h:0≤Lib.indexByte v 34) : ∃ b∈v,b=34:=by
 obtain ⟨o,ho⟩ : ∃ o:Nat,Lib.indexByte v 34=o:=⟨(Lib.indexByte v 34).toNat,by omega⟩
 exact ⟨34,List.mem_of_getElem? (Lib.indexByte_some ho).1,rfl⟩
theorem pu (v:List UInt8):(Tk.may ⟨6,v,34⟩||Tk.may ⟨6,v,39⟩)=true↔(∀ b∈v,Tk.ending b=false)∧(0≤Lib.indexByte v 34 → ∀ b∈v,b≠39):=by
 rw[Bool.or_eq_true,show (34:Int)=((34:UInt8).toNat:Int) from rfl,show (39:Int)=((39:UInt8).toNat:Int) from rfl,A4 v 34 (.inl rfl),A4 v 39 (.inr rfl)]
 constructor
 ·rintro (h|h)
  ·refine ⟨fun b hb=>(h b hb).2,fun h0 => ?_⟩
   obtain ⟨b,hb,e⟩:=has34 h0
   exact absurd e (h b hb).1
  ·exact ⟨fun b hb=>(h b hb).2,fun _ b hb=>(h b hb).1⟩
 ·rintro ⟨h1,h2⟩
  by_cases h0:0≤Lib.indexByte v 34
  ·exact .inr fun b hb=>⟨h2 h0 b hb,h1 b hb⟩
  ·exact .inl fun b hb=>⟨rj h0 b hb,h1 b hb⟩
theorem mI : ∀ x:Sim,oneB x=true↔Gs x
 | .mk k n v a b l=>by
  rw[oneB,Bool.and_eq_true]
  constructor
  ·rintro ⟨h1,h2⟩
   unfold oneK at h1
   split at h1
   ·rename_i hk
    simp only[Bool.and_eq_true,List.isEmpty_iff,beq_iff_eq] at h1
    obtain ⟨rfl,rfl,rfl,rfl⟩:=h1
    rw[if_neg (by omega),List.isEmpty_iff] at h2
    subst h2
    rcases hk with rfl|rfl|rfl
    ·exact .any
    ·exact .root
    ·exact .empty
   split at h1
   ·rename_i hk
    subst hk
    simp only[Bool.and_eq_true,List.isEmpty_iff,beq_iff_eq] at h1
    obtain ⟨h3,h4,rfl,rfl,rfl⟩:=h1
    rw[if_neg (by omega),List.isEmpty_iff] at h2
    subst h2
    exact .tag n ((iM n).1 h3) h4
   split at h1
   ·rename_i hk
    subst hk
    simp only[Bool.and_eq_true,List.isEmpty_iff,beq_iff_eq] at h1
    obtain ⟨h3,rfl,rfl,rfl⟩:=h1
    rw[if_neg (by omega),List.isEmpty_iff] at h2
    subst h2
    exact .id n ((r7 n).1 h3).1 ((r7 n).1 h3).2
   split at h1
   ·rename_i hk
    simp only[Bool.and_eq_true,List.isEmpty_iff,beq_iff_eq] at h1
    obtain ⟨h3,rfl,rfl,rfl⟩:=h1
    rw[if_neg (by omega),List.isEmpty_iff] at h2
    subst h2
    rcases hk with rfl|rfl
    ·exact .cls n ((iM n).1 h3)
    ·exact .has n ((iM n).1 h3)
   split at h1
   ·rename_i hk
    subst hk
    simp only[Bool.and_eq_true,beq_iff_eq] at h1
    obtain ⟨h3,h4,rfl,rfl⟩:=h1
    rw[if_neg (by omega),List.isEmpty_iff] at h2
    subst h2
    exact .is n v ((iM n).1 h3) ((pu v).1 h4).1 ((pu v).1 h4).2
   split at h1
   ·rename_i hk
    subst hk
    simp only[Bool.and_eq_true,List.isEmpty_iff,beq_iff_eq] at h1
    obtain ⟨h3,rfl,rfl,rfl⟩:=h1
    rw[if_neg (by omega),List.isEmpty_iff] at h2
    subst h2
    exact .state n ((o2 n).1 h3)
   split at h1
   ·rename_i hk
    subst hk
    simp only[Bool.and_eq_true,List.isEmpty_iff] at h1
    obtain ⟨rfl,rfl,h3,h4⟩:=h1
    rw[if_neg (by omega),List.isEmpty_iff] at h2
    subst h2
    exact .nth a b ((qw a).1 h3) ((qw b).1 h4)
   split at h1
   ·rename_i hk
    subst hk
    simp only[Bool.and_eq_true,List.isEmpty_iff,beq_iff_eq] at h1
    obtain ⟨rfl,rfl,rfl,rfl⟩:=h1
    rw[if_pos rfl,Bool.and_eq_true,beq_iff_eq] at h2
    obtain ⟨h3,h4⟩:=h2
    match l,h3 with
    | [y],_ =>
     rw[hZ,hZ,Bool.and_true,Bool.and_eq_true,bne_iff_ne] at h4
     exact .not y ((mI y).1 h4.2) h4.1
   ·cases h1
  ·intro h
   cases h with
   | any=>exact ⟨by decide,by decide⟩
   | tag _ h1 h2=>exact ⟨by simp[oneK,(iM n).2 h1,h2],by decide⟩
   | id _ h1 h2=>exact ⟨by simp[oneK,(r7 n).2 ⟨h1,h2⟩],by decide⟩
   | cls _ h1=>exact ⟨by simp[oneK,(iM n).2 h1],by decide⟩
   | has _ h1=>exact ⟨by simp[oneK,(iM n).2 h1],by decide⟩
   | is _ _ h1 h2 h3=>exact ⟨by
     have:=(pu v).2 ⟨h2,h3⟩
     unfold oneK
     simp only[if_neg (show ¬ ((6:Int)=1∨(6:Int)=9∨(6:Int)=10) by omega),if_neg (show ¬ (6:Int)=2 by omega),if_neg (show ¬ (6:Int)=3 by omega),if_neg (show ¬ ((6:Int)=4∨(6:Int)=5) by omega),if_true]
     rw[(iM n).2 h1,this];rfl,by decide⟩
   | state _ h1=>exact ⟨by simp[oneK,(o2 n).2 h1],by decide⟩
   | nth _ _ h1 h2=>exact ⟨by simp[oneK,(qw a).2 h1,(qw b).2 h2],by decide⟩
   | root=>exact ⟨by decide,by decide⟩
   | empty=>exact ⟨by decide,by decide⟩
   | not y h1 h2 =>
    refine ⟨by decide,?_⟩
    rw[if_pos rfl,hZ,hZ,(mI y).2 h1]
    simpa using h2
theorem oa (l:List Sim):mY l=true↔Gp l∧l.length≤8:=by
 unfold mY
 rw[Bool.and_eq_true,Bool.and_eq_true,List.all_eq_true,List.all_eq_true,decide_eq_true_eq]
 cases l with
 | nil=>simp[Gp]
 | cons x r =>
  unfold Gp GsT
  simp only[List.tail_cons,decide_eq_true_eq,List.mem_cons]
  constructor
  ·rintro ⟨h1,h2,h3⟩
   exact ⟨⟨(mI x).1 (h1 x (.inl rfl)),fun y hy=>⟨(mI y).1 (h1 y (.inr hy)),h2 y hy⟩⟩,h3⟩
  ·rintro ⟨⟨h1,h2⟩,h3⟩
   refine ⟨fun y hy => ?_,fun y hy=>(h2 y hy).2,h3⟩
   rcases hy with rfl|hy
   ·exact (mI y).2 h1
   ·exact (mI y).2 (h2 y hy).1
theorem ru (s:List UInt8):ja s=true↔s=[]∨(s=fK∨s=g6):=by
 unfold ja
 simp only[Bool.or_eq_true,List.isEmpty_iff,beq_iff_eq]
theorem pB {s:List UInt8} : ∀ (ps:List Prt) (n:Nat) (c:Int) (first:Bool),(first=true→c=0)→(first=false→1≤c∧c≤4) →
  ((∃ p r,ps=p::r∧p.comb=c)∧ps.length≤n∧eM first ps s=true∧ja s=true↔Gc n c ps s)
 | [],n,c,first,_,_=>by
  constructor
  ·rintro ⟨⟨p,r,e,_⟩,_⟩;cases e
  ·intro h;cases h
 | p::r,0,c,first,_,_=>by
  constructor
  ·rintro ⟨_,h,_⟩;simp at h
  ·intro h;cases h
 | ⟨d,l⟩::r,n+1,c,first,hf,hn=>by
  rw[eM]
  have hc:(decide (0≤c)&&(decide (c≤4)&&((c==0)==first)))=true:=by
   cases first with
   | true=>have:=hf rfl;subst this;rfl
   | false =>
    have:=hn rfl
    have:(c==0)=false:=by simp;omega
    rw[this];simp;omega
  constructor
  ·rintro ⟨⟨p,r',e,hd⟩,h1,h2,h3⟩
   cases e
   simp only at hd
   subst hd
   simp only[Bool.and_eq_true,Bool.not_eq_true'] at h2
   obtain ⟨_,h4,h5,h6⟩:=h2
   obtain ⟨g1,g2⟩:=(oa l).1 h4
   have hps:=(ru s).1 h3
   cases r with
   | nil =>
    rw[List.isEmpty_nil] at h5
    rcases hps with rfl|hps
    ·refine .last g1 (fun e => ?_) g2
     subst e;simp at h5
    ·exact .pse g1 g2 hps
   | cons q r =>
    have hne:l≠[]:=fun e=>by subst e;simp at h5
    have hq:1≤q.comb∧q.comb≤4:=by
     rw[eM] at h6
     simp only[Bool.and_eq_true,decide_eq_true_eq] at h6
     have h7:=h6.1.2.2
     have h8:(q.comb==0)=false:=by simpa using h7
     have:q.comb≠0:=by simpa using h8
     exact ⟨by have:=h6.1.1;omega,h6.1.2.1⟩
    exact .more g1 hne g2 hq ((pB (q::r) n q.comb false (fun e=>by cases e) (fun _=>hq)).1 ⟨⟨q,r,rfl,rfl⟩,by simpa using h1,h6,h3⟩)
  ·intro h
   cases h with
   | last g1 g2 g3 =>
    refine ⟨⟨_,_,rfl,rfl⟩,by simp,?_,rfl⟩
    have:=(oa l).2 ⟨g1,g3⟩
    simp only
    rw[hc,this,eM]
    cases l with
    | nil=>exact absurd rfl g2
    | cons _ _=>rfl
   | pse g1 g3 hs =>
    refine ⟨⟨_,_,rfl,rfl⟩,by simp,?_,(ru s).2 (.inr hs)⟩
    have:=(oa l).2 ⟨g1,g3⟩
    have hsn:s.isEmpty=false:=by
     rcases hs with rfl|rfl
     ·rfl
     ·rfl
    simp only
    rw[hc,this,eM,hsn]
    simp
   | @more _ _ e _ _ _ g1 g2 g3 hd hg =>
    obtain ⟨⟨q,r',e1,e2⟩,h2,h3,h4⟩:=(pB r n e false (fun x=>by cases x) (fun _=>hd)).2 hg
    refine ⟨⟨_,_,rfl,rfl⟩,by simpa using h2,?_,h4⟩
    have:=(oa l).2 ⟨g1,g3⟩
    simp only
    rw[hc,this,h3]
    cases l with
    | nil=>exact absurd rfl g2
    | cons _ _=>rfl
theorem Bi (c:Cpx):cpxB c=true↔A3 c:=by
 unfold cpxB A3
 rw[←pB c.parts 16 0 true (fun _=>rfl) (fun e=>by cases e)]
 simp only[Bool.and_eq_true,decide_eq_true_eq]
 constructor
 ·rintro ⟨h1,h2,h3,h4⟩
  refine ⟨?_,h3,h1,h4⟩
  cases hp:c.parts with
  | nil=>rw[hp] at h2;simp at h2
  | cons p r =>
   rw[hp,eM] at h1
   simp only[Bool.and_eq_true,beq_iff_eq] at h1
   exact ⟨p,r,rfl,h1.1.2.2⟩
 ·rintro ⟨⟨p,r,e,_⟩,h3,h1,h4⟩
  exact ⟨h1,by rw[e];simp,h3,h4⟩
theorem jH (l:List Cpx):mayB l=true↔Fs l:=by
 unfold mayB Fs
 simp only[Bool.and_eq_true,decide_eq_true_eq,List.all_eq_true]
 constructor
 ·rintro ⟨h1,h2,h3⟩
  exact ⟨List.length_pos_iff.1 (by omega),h3,fun c hc=>(Bi c).1 (h1 c hc)⟩
 ·rintro ⟨h1,h2,h3⟩
  have:=List.length_pos_iff.2 h1
  exact ⟨fun c hc=>(Bi c).2 (h3 c hc),by omega,h2⟩
end Sl
end Go.Abs
