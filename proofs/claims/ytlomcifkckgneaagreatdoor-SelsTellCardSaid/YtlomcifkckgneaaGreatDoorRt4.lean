/-
  THE ABSTRACT INTERPRETER: nest.Parse as a primitive: that its answer is what the program does.
  (And 28 texts more.)
-/
import Derived.Lib.IndexBytes
import Derived.Laws.RangeAny
import Derived.Lib.Bytealg
import Derived.Lib.Atoi
import Derived.Lib.SlTrimSet
import Derived.Lib.Join
import Derived.Test.YtlomcifkckgneaaGreatDoorRows
import Derived.ReadAgain
import Derived.ChangeBears
import Derived.RowKit
import Derived.OpenShut
import Derived.SizedLaws
import Derived.Deep.DeepHandedRow
import Derived.Lib.LaidTab
import Derived.Test.YtlomcifkckgneaaGreatDoorRt3
set_option maxHeartbeats 8000000
open Nat (reduceEqDiff reduceAdd reduceLT reduceLeDiff reduceSub reduceMul)
set_option linter.unusedSimpArgs false
set_option linter.unusedVariables false
namespace Go.Abs
open Go Go.Proofs Go.RowKit
open NR (wL prN)
def Gk (P:Program) (f:Nat):Bool :=
 match P.funcs[f]? with
 | some fn => fn.name != "runtime.NumGoroutine" && (match fn.body with | some c => fW (fun _ => false) c | none => false)
 | none=>false
theorem DD:wL.all (Gk Tryz.prog)=true:=by kernel_rfl
theorem J6:Prog NR.KN:=by
 refine⟨by kernel_rfl,fun g hg => ?_,fun f F args bxs x _ hF hx => ?_,fun f F args bxs r call _ hF=>by cases hF⟩
 ·have h1:g∈wL:=by simpa[NR.KN] using hg
  have h2:=List.all_eq_true.1 DD g h1
  unfold Gk at h2;split at h2
  ·rename_i fn hfn;simp only[Bool.and_eq_true] at h2;obtain⟨h3,h4⟩:=h2;split at h4
   ·rename_i c hc;exact⟨fn,c,hfn,by simpa using h3,hc,h4⟩
   ·cases h4
  ·cases h2
 ·have h2:prN f=some F:=hF
  unfold prN at h2;split at h2
  ·rename_i hf;cases h2;obtain rfl:f=227:=by simpa using hf
   exact DN hx
  ·split at h2
   ·rename_i hf;cases h2;obtain rfl:f=207:=by simpa using hf
    exact E3 hx
   ·cases h2
def decT:List PV→Option Tok
 | [.int .i64 k,.str s,.int .i64 n]=>some ⟨k,s,n⟩
 | _=>none
def vH:List (List PV)→Option (List Tok)
 | []=>some []
 | c::l=>match decT c,vH l with
  | some t,some m=>some (t::m)
  | _,_=>none
theorem C1:∀ l:List Tok,vH (l.map Tok.enc)=some l
 | []=>rfl
 | t::l=>by
  rw[List.map_cons,vH,C1 l];rfl
theorem Hg {c:List PV} {t:Tok} (h:decT c=some t):c=t.enc:=by
 unfold decT at h;split at h
 ·cases h;rfl
 ·cases h
theorem Cz:∀ {c:List (List PV)} {l:List Tok},vH c=some l→c=l.map Tok.enc
 | [],l,h=>by cases h;rfl
 | c::cs,l,h=>by
  unfold vH at h;split at h
  ·rename_i t m h1 h2;cases h;rw[List.map_cons,←Hg h1,←Cz h2]
  ·cases h
def lD (deep:Int) (l:List Tok):AV :=
 if deep<1∨60<deep then .tup [.c (.pv (.sl [])),.c (.pv (.int .i64 1))]
 else match Ne.d7 0 deep.toNat l with
  | some x=>.tup [.c (.pv (.sl (encL x.1))),.c (.pv (.int .i64 0))]
  | none=>.tup [.c (.pv (.sl [])),.c (.pv (.int .i64 20))]
def rZ:Prim
 | [.c (.pv (.sl c)),.c (.pv (.int .i64 deep))],[]=>(match vH c with
  | some l=>if l.length≤1000000 then some (lD deep l,[]) else none
  | none=>none)
 | [.c .nils,.c (.pv (.int .i64 deep))],[]=>some (lD deep [],[])
 | _,_=>none
section
variable {G G2:Gh} {w w' w'':World}
theorem uA {x:Value} {deep:Int} (hw:WI G w) (hb0:∀ s,G.bb s=none) (hx:Ext (G.box LK (w.heap.size+2)) (((w.alloc slV).alloc inE).alloc (rdO x deep)) G2 w') (hw2:WI G2 w')
  (hs:w'.heap.size≤w''.heap.size) (ho:w''.os=w'.os) (hp:w''.output=w'.output) (ht:w''.tape=w'.tape) (hh:∀ b,b<w'.heap.size→b≠w.heap.size→b≠w.heap.size+1→w''.heap[b]? = w'.heap[b]?) :
  Ext G w { G2 with bb:=G.bb } w''∧WI { G2 with bb:=G.bb } w'':=by
 have hsz:(((w.alloc slV).alloc inE).alloc (rdO x deep)).heap.size=w.heap.size+3:=by rw[bK,bK,bK]
 have hold:∀ b,b<w.heap.size→(((w.alloc slV).alloc inE).alloc (rdO x deep)).heap[b]? = w.heap[b]? := fun b hb=>by
  rw[cv _ _ _ (by rw[bK,bK];omega),cv _ _ _ (by rw[bK];omega),cv _ _ _ hb]
 have how:∀ b,b≠w.heap.size+2→(G.box LK (w.heap.size+2)).ow b=G.ow b:=fun b hb=>by
  show upd G.ow (w.heap.size+2) _ b=_
  unfold upd;rw[if_neg hb]
 have hnI:∀ b,w.heap.size≤b→b<w.heap.size+2→∀ o,G2.I b o=none:=fun b h1 h2 o=>by
  have h3:=hx.old b (by rw[hsz];omega) ((how b (by omega)).trans (hw.fresh b h1).2)
  exact(h3.2.2 o).trans ((hw.fresh b h1).1 o)
 have hold2:∀ b,b<w.heap.size→G.ow b=none→G2.ow b=none∧w''.heap[b]? = w.heap[b]? ∧ ∀ o,G2.I b o=G.I b o:=fun b hb hn=>by
  have h3:=hx.old b (by rw[hsz];omega) ((how b (by omega)).trans hn)
  have:=hx.size
  rw[hsz] at this
  exact⟨h3.1,(hh b (by omega) (by omega) (by omega)).trans (h3.2.1.trans (hold b hb)),h3.2.2⟩
 have hsize:=hx.size
 rw[hsz] at hsize;refine⟨⟨hx.I,hold2,by omega,ho.trans hx.os,hp.trans hx.output,ht.trans hx.tape,fun _ _=>rfl⟩,⟨fun b o y h => ?_,fun b hb=>hw2.fresh b (by omega),hw2.boxI,fun s b hb=>absurd (show G.bb s=some b from hb) (by rw[hb0];simp),hw.tab.map fun b hb hn=>⟨(hold2 b hb hn).1,(hold2 b hb hn).2.1⟩⟩⟩
 have h1:G2.I b o=some y:=h
 have hlt:=I_lt hw2 h1
 have e:w''.heap[b]? = w'.heap[b]? := hh b hlt (fun e=>by rw[e,hnI _ (Nat.le_refl _) (by omega)] at h1;cases h1) (fun e=>by rw[e,hnI _ (by omega) (by omega)] at h1;cases h1)
 have:=hw2.cell b o y h1
 unfold World.cell? at this ⊢
 rw[e];exact this
theorem F8 {o:Obj} (hw:WI G w) {k:Nat} (hk:G.bb k=none):WI (G.box k w.heap.size) (w.alloc o):=by
 refine⟨fun b o y hI => ?_,fun b hb => ?_,fun b s hb o => ?_,fun s b hb => ?_,hw.tab.map fun c hc ho=>⟨?_,cv w _ c hc⟩⟩
 ·rw[fR w _ (I_lt hw hI)];exact hw.cell b o y hI
 ·rw[bK] at hb;refine⟨(hw.fresh b (by omega)).1,?_⟩
  show upd G.ow w.heap.size _ b=none
  unfold upd;rw[if_neg (by omega)];exact(hw.fresh b (by omega)).2
 ·have hb':upd G.ow w.heap.size (some (.box k)) b=some (.box s):=hb
  unfold upd at hb';split at hb'
  ·rename_i he;subst he;exact(hw.fresh _ (Nat.le_refl _)).1 o
  ·exact hw.boxI b s hb' o
 ·have hb':upd G.bb k (some w.heap.size) s=some b:=hb
  show upd G.ow w.heap.size _ b=_
  unfold upd at hb' ⊢;split at hb'
  ·rename_i he;subst he;cases hb';rw[if_pos rfl]
  ·have h1:=hw.bbow s b hb'
   have h2:=gq hw h1
   rw[if_neg (by omega)];exact h1
 ·show upd G.ow w.heap.size _ c=none
  unfold upd;rw[if_neg (by omega)];exact ho
end
theorem x5 (w:World) (a b:Addr) (v v':Value) (k:Nat) (h1:k≠a.block) (h2:k≠b.block):((w.setCell a v).setCell b v').heap[k]? = w.heap[k]? := by
 rw[eS _ _ _ h2,eS _ _ _ h1]
theorem jY (w:World) (a:Addr) (v:Value):(w.setCell a v).heap.size=w.heap.size:=by
 simp[World.setCell]
theorem Ak {l:List Tok} {deep:Int} {v:AV} (hlen:l.length≤1000000) (hv:∀ {G:Gh} {w:World} {x:Value},RA G w .ret v x→RP G.I (.sl (l.map Tok.enc)) x) :
  Contract Tryz.prog 98 [v,.c (.pv (.int .i64 deep))] [] (.ret (lD deep l) []):=by
 intro G w cargs hw hargs _ _ hbb;have hb0:∀ s,G.bb s=none:=fun s=>by
  cases e:G.bb s with
  | none=>rfl
  | some b=>obtain⟨i,hi,_⟩:=hbb s b e;simp at hi
 obtain⟨x,y,rfl,hx,hy⟩:=gf hargs;cases hy.intv;have hxp:RP G.I (.sl (l.map Tok.enc)) x:=hv hx
 obtain⟨pa,pc,rfl,_,_⟩:=hxp.slice_inv;unfold lD;by_cases hd:deep<1∨60<deep
 ·rw[if_pos hd];refine(IM _ deep w hd).mono ?_
  rintro e w' ⟨rfl,rfl⟩
  obtain⟨g,hw'⟩:=iK (w':=(w.alloc (.cells #[.slice none 0 0] 23)).alloc (.cells #[.int .i64 1] 24)) hw (((Below.refl _ _).alloc (Nat.le_refl _) _).alloc (by simp) _)
  exact⟨G,g.ext,hw',_,rfl,⟨[_,_],rfl,.cons (.sl0 _ _) (.cons (.int _ _) .nil)⟩,rfl,fun i l h=>by simp at h⟩
 ·rw[if_neg hd];have hd1:¬ deep<1:=fun h=>hd (.inl h)
  have hd2:¬ 60<deep:=fun h=>hd (.inr h)
  obtain⟨d,rfl⟩:∃ d:Nat,deep=d:=⟨deep.toNat,by omega⟩
  rw[Int.toNat_natCast];have hu:=NR.DJ l hlen d (by omega)
  unfold NR.UDen at hu;obtain⟨g1,hw1⟩:=iK (w':=(w.alloc slV).alloc inE) hw (((Below.refl _ _).alloc (Nat.le_refl _) _).alloc (by simp) _)
  have hn1:((w.alloc slV).alloc inE).heap.size=w.heap.size+2:=by rw[bK,bK]
  have hw3:WI (G.box LK (w.heap.size+2)) (((w.alloc slV).alloc inE).alloc (rdO (.slice pa (l.map Tok.enc).length pc) d)):=by
   have:=F8 (o:=rdO (.slice pa (l.map Tok.enc).length pc) d) hw1 (hb0 LK)
   rw[hn1] at this
   exact this
  have hnew:(((w.alloc slV).alloc inE).alloc (rdO (.slice pa (l.map Tok.enc).length pc) d)).heap[w.heap.size+2]? = some (rdO (.slice pa (l.map Tok.enc).length pc) d):=by
   have:=heap_alloc_new ((w.alloc slV).alloc inE) (rdO (.slice pa (l.map Tok.enc).length pc) d)
   rw[hn1] at this
   exact this
  have hbbk:(G.box LK (w.heap.size+2)).bb LK=some (w.heap.size+2):=by simp[Gh.box,upd]
  have hcall:∀ r,den NR.KN 148 [.c (.loc 100000 0),.c .nilp,.c (.pv (.int .i64 0))] [NR.rdr l d]=some r →
    Calls Tryz.prog 148 #[.pointer (some ⟨w.heap.size+2,0,none⟩),.pointer none,.int .i64 0] (((w.alloc slV).alloc inE).alloc (rdO (.slice pa (l.map Tok.enc).length pc) d)) fun e w' =>
     ∃ G2,Ext (G.box LK (w.heap.size+2)) (((w.alloc slV).alloc inE).alloc (rdO (.slice pa (l.map Tok.enc).length pc) d)) G2 w'∧WI G2 w'∧REnd 1 G2 w' e r:=fun r hr=>by
   refine tC J6 NR.rJ hr _ _ [.pointer (some ⟨w.heap.size+2,0,none⟩),.pointer none,.int .i64 0] hw3 ?_ ?_ ?_ ?_
   ·exact .cons ⟨w.heap.size+2,hbbk,rfl⟩ (.cons rfl (.cons (.int _ _) .nil))
   ·intro v hv;simp only[List.mem_cons,List.not_mem_nil,or_false] at hv;rcases hv with rfl|rfl|rfl<;>rfl
   ·intro i b hi;cases i with
    | succ i=>simp at hi
    | zero =>
     simp only[List.getElem?_cons_zero,Option.some.injEq] at hi
     subst hi;refine⟨w.heap.size+2,_,_,hbbk,hnew,⟨rfl,fun e=>by simp at e⟩,fun k v hk => ?_⟩
     match k with
     | 0 =>
      simp only[List.getElem?_cons_zero,Option.some.injEq] at hk
      subst hk;exact⟨_,rfl,hxp⟩
     | 1 =>
      simp only[List.getElem?_cons_succ,List.getElem?_cons_zero,Option.some.injEq] at hk
      subst hk;exact⟨_,rfl,.int _ _⟩
     | k+2=>simp at hk
   ·intro s b hs;have hs':upd G.bb LK (some (w.heap.size+2)) s=some b:=hs
    unfold upd at hs';split at hs'
    ·rename_i he;exact⟨0,by simp,by omega⟩
    ·rw[hb0] at hs';cases hs'
  have hheap:∀ {G2:Gh} {w':World},Ext (G.box LK (w.heap.size+2)) (((w.alloc slV).alloc inE).alloc (rdO (.slice pa (l.map Tok.enc).length pc) d)) G2 w' →
    w'.heap[w.heap.size]? = some slV∧w'.heap[w.heap.size+1]? = some inE:=fun {G2 w'} hx2=>by
   have how:∀ b,w.heap.size≤b→b≠w.heap.size+2→(G.box LK (w.heap.size+2)).ow b=none:=fun b h1 h2=>by
    show upd G.ow (w.heap.size+2) _ b=_
    unfold upd;rw[if_neg h2];exact(hw.fresh b h1).2
   constructor
   ·rw[(hx2.old w.heap.size (by rw[bK,hn1];omega) (how _ (Nat.le_refl _) (by omega))).2.1,cv _ _ _ (by rw[hn1];omega),cv _ _ _ (by rw[bK];omega)]
    exact heap_alloc_new w _
   ·rw[(hx2.old (w.heap.size+1) (by rw[bK,hn1];omega) (how _ (by omega) (by omega))).2.1,cv _ _ _ (by rw[hn1];omega)]
    have:=heap_alloc_new (w.alloc slV) inE
    rw[bK] at this
    exact this
  cases hv:Ne.d7 0 d l with
  | some x =>
   rw[hv] at hu;refine(QZb pa _ pc d w hd1 hd2 (fun va vn vc w'=>∃ G2,Ext (G.box LK (w.heap.size+2)) (((w.alloc slV).alloc inE).alloc (rdO (.slice pa (l.map Tok.enc).length pc) d)) G2 w'∧WI G2 w'∧RP G2.I (.sl (encL x.1)) (.slice va vn vc)) (fun _=>False) ?_).mono ?_
   ·refine(hcall _ hu).mono ?_
    rintro e w' ⟨G2,hx2,hw2,v,rfl,hr,_,_⟩
    have hr':RP G2.I (.sl (encL x.1)) v:=hr
    obtain⟨va,vc,rfl,_,_⟩:=hr'.slice_inv;exact⟨(hheap hx2).1,(hheap hx2).2,.inl ⟨va,_,vc,rfl,G2,hx2,hw2,hr'⟩⟩
   ·rintro e w'' (⟨va,vn,vc,w',⟨G2,hx2,hw2,hr⟩,rfl,rfl⟩|⟨w',hf,_⟩)
    ·obtain⟨k1,k2⟩:=uA (w'':=(w'.setCell ⟨w.heap.size,0,none⟩ (.slice va vn vc)).setCell ⟨w.heap.size+1,0,none⟩ (.int .i64 0)) hw hb0 hx2 hw2 (by rw[jY,jY];exact Nat.le_refl _) rfl rfl rfl (fun b _ h1 h2=>x5 w' _ _ _ _ b h1 h2)
     exact⟨_,k1,k2,_,rfl,⟨[_,_],rfl,.cons hr (.cons (.int _ _) .nil)⟩,rfl,fun i l h=>by simp at h⟩
    ·exact hf.elim
  | none =>
   rw[hv] at hu;obtain⟨b1,hu⟩:=hu;refine(QZb pa _ pc d w hd1 hd2 (fun _ _ _ _=>False) (fun w'=>∃ G2,Ext (G.box LK (w.heap.size+2)) (((w.alloc slV).alloc inE).alloc (rdO (.slice pa (l.map Tok.enc).length pc) d)) G2 w'∧WI G2 w') ?_).mono ?_
   ·refine(hcall _ hu).mono ?_
    rintro e w' ⟨G2,hx2,hw2,v,rfl,hr,_,_⟩
    have hr':RP G2.I (.ifa 174 []) v:=hr
    cases hr'
    exact⟨(hheap hx2).1,(hheap hx2).2,.inr ⟨rfl,G2,hx2,hw2⟩⟩
   ·rintro e w'' (⟨va,vn,vc,w',hf,_⟩|⟨w',⟨G2,hx2,hw2⟩,rfl,rfl⟩)
    ·exact hf.elim
    ·obtain⟨k1,k2⟩:=uA (w'':=((w'.alloc (.cells #[] 174)).setCell ⟨w.heap.size,0,none⟩ (.slice none 0 0)).setCell ⟨w.heap.size+1,0,none⟩ (.int .i64 20)) hw hb0 hx2 hw2 (by rw[jY,jY,bK];omega) rfl rfl rfl (fun b hb h1 h2=>by rw[x5 _ _ _ _ _ b h1 h2,cv _ _ _ hb])
     exact⟨_,k1,k2,_,rfl,⟨[_,_],rfl,.cons (.sl0 _ _) (.cons (.int _ _) .nil)⟩,rfl,fun i l h=>by simp at h⟩
theorem Ej {args:List AV} {bxs:List (List CV)} {x:AV×List (List CV)} (h:rZ args bxs=some x):Contract Tryz.prog 98 args bxs (.ret x.1 x.2):=by
 unfold rZ at h;split at h
 ·rename_i c deep;split at h
  case h_2=>cases h
  rename_i l hdec;split at h
  case isFalse=>cases h
  rename_i hlen;cases h;obtain rfl:=Cz hdec;exact Ak hlen (fun hx=>hx)
 ·cases h
  refine Ak (l:=[]) (by simp) (fun hx => ?_)
  cases hx
  exact .sl0 _ _
 ·cases h
end Go.Abs
namespace Go.Abs
open Go Go.Proofs
set_option maxRecDepth 10000
attribute [local go_sem] c7 cD bW bZ db cJ cE a7 ck ce cF c8 bS opd avOf cvOf St.degAt St.put okPV d6 okAV du dv dt cU aM if_true Bool.false_eq_true if_false Option.map_some Option.map_none Option.bind_some Option.bind_none dY dV upd List.toList_toArray cR steal bz mvB dE cV cT AV.deg CV.deg AV.gv AV.isIter cN cI bU List.length_nil List.length_cons List.filterMap_cons List.filterMap_nil beq_iff_eq List.getElem?_cons_zero List.getElem?_cons_succ Option.getD_some Bool.false_and Bool.and_false Bool.and_self co cO bw lend back idx dedup AV.ren CV.ren TV.ren AV.ptrs CV.ptrs cX AV.flat CV.flat cz cg bc c9 dk eo cj aY cm bt bH cf br eF CV.pv? content bA ownT bd reps pvs chunks cd leave eB cK dr bT bv TV.deg TV.av LK CV.plain CV.noBld c5 eA bound List.map_cons List.map_nil List.all_cons List.all_nil List.any_cons List.any_nil List.contains_cons List.contains_nil List.elem_cons List.elem_nil List.cons_append List.nil_append List.append_nil List.flatMap_cons List.flatMap_nil List.zip_cons_cons List.zip_nil_left List.zip_nil_right List.take_succ_cons List.take_zero List.take_nil List.drop_succ_cons List.drop_zero List.drop_nil List.isEmpty_nil List.isEmpty_cons Bool.and_true Bool.true_and Bool.or_true Bool.true_or Bool.or_false Bool.false_or Bool.not_true Bool.not_false Nat.add_zero Nat.zero_add Option.isNone_none Option.isNone_some Option.getD_none true_and and_true not_true_eq_false not_false_eq_true decide_true decide_false Nat.le_refl and_self Bool.not_eq_true Nat.sub_self or_true true_or Option.some.injEq List.length_map List.nil_eq and_false false_and AV.live CV.live CV.liveIn bg Option.orElse_some Option.orElse_none head bm bh Int.lt_irrefl List.length_append ite_self dZ cA dc bC Key.clash Key.sees Key.writes Nat.lt_irrefl gt_iff_lt cH dH false_or or_false beq_self_eq_true Bool.true_beq Bool.false_beq
def keep0 (f r:Nat):List Nat×List Nat:=if f==230&&r==18 then([1,45],[]) else if f==199&&r==38 then([175],[]) else if f==199&&r==5 then([0,7,8,9],[]) else([],[])
def pr0 (f:Nat):Option Prim:=if f==179 then some ir else none
noncomputable def K0:Cfg := { P:=Tryz.prog,pr:=pr0,keep:=keep0,ownRet:=fun _=>false,good:=[230,235,199,220,179].contains,hook:=fun _ _=>false }
theorem kU (f:FuncId):K0.ownRet f=false:=rfl
theorem Kc (f i:Nat):K0.hook f i=false:=rfl
theorem region0 (f:FuncId) (id:Nat) (ops:Array Oper) (draw:Bool) (S:St):exL K0 f (.region id ops draw) S=a7 K0 (den K0) ops.toList draw S:=bF f id ops draw S (Kc f id)
theorem K0_P:K0.P=Tryz.prog:=rfl
theorem nn (f r:Nat):K0.keep f r=keep0 f r:=rfl
theorem qc:keep0 230 18=([1,45],[]):=by decide
theorem tR:keep0 199 5=([0,7,8,9],[]):=by decide
theorem FK:K0.good 235=true:=rfl
theorem zd:K0.good 199=true:=rfl
theorem xX:K0.good 220=true:=rfl
theorem sm:K0.good 179=true:=rfl
theorem kv:cZ Tryz.prog 9=some .str:=by kernel_rfl
theorem Ce:cZ Tryz.prog 21=some (.int .i32):=by kernel_rfl
theorem JR:cZ Tryz.prog 5=some (.int .u8):=by kernel_rfl
theorem mm {f:FuncId} {fn:Func} {x:Code} {nt:Nat} {args:List AV} {bxs:List (List CV)} {r:Res} (hp:pr0 f=none) (hf:Tryz.prog.funcs[f]? = some fn) (hx:fn.body=some x) (hn:fn.ntmps=nt)
  (hl:args.length≤nt∧nt<LK) (h:(exL K0 f x (cd nt args bxs)).bind (fun r=>leave K0 f fn bxs.length (some r))=some r):den K0 f args bxs=some r:=by
 rw[wU (K:=K0) hp rfl hf hx,hn,if_pos hl];exact h
theorem HZ (n:Int):den K0 235 [.c (.pv (.int .i64 n))] []=some (.ret (.c (.pv (.bool (decide (8<n))))) []):=by
 refine mm rfl Tryz.func235 rfl Tryz.ntmps235 ⟨by simp,by simp[LK]⟩ ?_
 have hr:Tryz.f235.results=#[.tmp 2]:=rfl
 simp only[go_sem,reduceLT,reduceCtorEq,reduceEqDiff,reduceAdd,region0,kU,K0_P,hr]
theorem vz (s:List UInt8) (c:Int):den K0 179 [.c (.pv (.str s)),.c (.pv (.int .u8 c))] []=some (.ret (.c (.pv (.int .i64 (Lib.indexByte s c.toNat.toUInt8)))) []):=by
 rw[tm (K:=K0) (F:=ir) rfl];rfl
theorem AY (r:Int):den K0 220 [.c (.pv (.int .i32 r))] []=some (.ret (.c (.pv (.bool (Utf8.valid r)))) []):=by
 refine mm rfl Tryz.func220 rfl Tryz.ntmps220 ⟨by simp,by simp[LK]⟩ ?_
 have hr:Tryz.f220.results=#[.tmp 2]:=rfl
 have e:Utf8.valid r=((decide (0≤r)&&decide (r<55296))||(decide (57343<r)&&decide (r≤1114111))):=by
  unfold Utf8.valid;have:decide (57344≤r)=decide (57343<r):=decide_eq_decide.2 (by omega)
  rw[←this]
 rw[e];cases b1:decide (0≤r)<;>cases b2:decide (r<55296)<;>cases b3:decide (57343<r)<;>cases b4:decide (r≤1114111)<;>simp only[go_sem,reduceLT,reduceCtorEq,reduceEqDiff,reduceAdd,region0,kU,K0_P,hr,b1,b2,b3,b4]
abbrev ik:List UInt8:=[10,12,13]
theorem GF:eC K0 40 199 [.c (.pv (.str ik)),.c (.pv (.int .i32 65533))] []=some (.ret (.c (.pv (.int .i64 (-1)))) []):=by kernel_rfl
theorem uT {c:UInt8} (h:128≤c.toNat):∀ l:List UInt8,(∀ b∈l,b.toNat<128)→Lib.indexByte l c = -1
 | [],_=>rfl
 | b::l,hl=>by
  have hb:(b==c)=false:=by
   rw[beq_eq_false_iff_ne];intro e;have:=hl b (by simp);rw[e] at this;omega
  rw[Lib.indexByte,hb,uT h l fun x hx=>hl x (by simp[hx])]
  rfl
set_option maxRecDepth 100000 in
theorem EW (r:Int) (h:0≤r∧r≤2147483647):den K0 199 [.c (.pv (.str ik)),.c (.pv (.int .i32 r))] []=some (.ret (.c (.pv (.int .i64 (if r<128 then Lib.indexByte ik r.toNat.toUInt8 else -1)))) []):=by
 have hr:Tryz.f199.results=#[.tmp 4]:=rfl
 have h0:decide (0≤r)=true:=decide_eq_true h.1
 by_cases h1:r<128
 ·have d1:decide (r<128)=true:=decide_eq_true h1
  have w1:IntKind.u8.wrap r=r:=IntWalk.u8_in _ (by omega)
  have hb:=vz ik r
  refine mm rfl Tryz.func199 rfl Tryz.ntmps199 ⟨by simp,by simp[LK]⟩ ?_
  simp only[go_sem,reduceLT,reduceCtorEq,reduceEqDiff,reduceAdd,region0,kU,K0_P,hr,h0,h1,w1,hb,sm,dG Ce JR]
 ·have d1:decide (r<128)=false:=decide_eq_false h1
  rw[if_neg h1];by_cases h2:r=65533
  ·subst h2;exact nu.2 ⟨40,GF⟩
  ·have d2:(r==65533)=false:=by simpa using h2
   have hv:=AY r
   refine mm rfl Tryz.func199 rfl Tryz.ntmps199 ⟨by simp,by simp[LK]⟩ ?_
   cases h3:Utf8.valid r
   ·rw[h3] at hv;simp only[go_sem,reduceLT,reduceCtorEq,reduceEqDiff,reduceAdd,region0,kU,K0_P,hr,h0,d1,d2,hv,xX]
   ·rw[h3] at hv;obtain⟨e2,e4,elast⟩:=encode_facts r h3 (by omega)
    have hsz:(Utf8.encode r).size=(Utf8.encode r).data.toList.length:=Lib.size_eq _
    have hlast:∃ c:UInt8,(Utf8.encode r).data.toList[(Utf8.encode r).data.toList.length - 1]? = some c∧128≤c.toNat:=by
     have hx:(Utf8.encode r).data.toList.length - 1<(Utf8.encode r).data.toList.length:=by omega
     refine⟨_,List.getElem?_eq_getElem hx,?_⟩
     have:=elast (by rw[hsz];exact hx)
     have e:(Utf8.encode r)[(Utf8.encode r).size - 1]'(by rw[hsz];exact hx)=(Utf8.encode r).data.toList[(Utf8.encode r).data.toList.length - 1]'hx:=by
      simp only[hsz];rfl
     rw[e] at this
     exact this
    rw[hsz] at e2 e4
    clear elast hsz;generalize ht:(Utf8.encode r).data.toList=t at e2 e4 hlast
    obtain⟨c,hl,hc⟩:=hlast;have hneg:decide ((-1:Int)<0)=true:=by decide
    have hcb:(c.toNat:Int).toNat.toUInt8=c:=by simp
    have hm:∀ l:List UInt8,(∀ b∈l,b.toNat<128)→Lib.indexByte l c = -1:=fun l=>uT hc l
    have hy:∀ l:List UInt8,(∀ b∈l,b.toNat<128)→den K0 179 [.c (.pv (.str l)),.c (.pv (.int .u8 c.toNat))] []=some (.ret (.c (.pv (.int .i64 (-1)))) []):=fun l hl=>by
     rw[vz,hcb,hm l hl]
    have hne:∀ b:UInt8,b.toNat<128→((b.toNat:Int) != (c.toNat:Int))=true:=fun b hb=>by rw[bne_iff_ne];omega
    have w1:IntKind.i64.wrap 1=1:=by decide
    have w2:IntKind.i64.wrap 2=2:=by decide
    have w3:IntKind.i64.wrap 3=3:=by decide
    have w4:IntKind.i64.wrap 4=4:=by decide
    have y1:=hy [13] (by decide)
    have y2:=hy [] (by simp)
    have n1:((12:Int)=(c.toNat:Int))=False:=eq_false (by omega)
    have n2:((13:Int)=(c.toNat:Int))=False:=eq_false (by omega)
    simp only[go_sem,reduceLT,reduceCtorEq,reduceEqDiff,reduceAdd,region0,kU,K0_P,hr,h0,d1,d2,hv,xX,vX Ce kv,ht,aA kv];rw[aq];rcases t with _|⟨a,_|⟨b,_|⟨d,_|⟨e,_|⟨e',t⟩⟩⟩⟩⟩
    ·exact absurd e2 (by rw[List.length_nil];omega)
    ·exact absurd e2 (by rw[List.length_cons,List.length_nil];omega)
    ·
     obtain rfl:b=c:=by simpa using hl
     simp[go_sem,reduceLT,reduceCtorEq,reduceEqDiff,reduceAdd,region0,kU,nn,tR,K0_P,sm,aA kv,a8 kv,ax kv,w1,w2,y1,n1,reach,ik]
    ·
     obtain rfl:d=c:=by simpa using hl
     simp[go_sem,reduceLT,reduceCtorEq,reduceEqDiff,reduceAdd,region0,kU,nn,tR,K0_P,sm,aA kv,a8 kv,ax kv,w2,w3,y2,n2,reach,ik]
    ·
     obtain rfl:e=c:=by simpa using hl
     simp[go_sem,reduceLT,reduceCtorEq,reduceEqDiff,reduceAdd,region0,nn,tR,K0_P,aA kv,w3,ik]
    ·exact absurd e4 (by simp only[List.length_cons];omega)
theorem wW (s:ByteArray) (pos:Nat) (h:pos<s.size):pos+(Utf8.decode s pos).2≤s.size:=by
 simp only[Utf8.decode]
 repeat' split
 all_goals simp_all
 all_goals omega
theorem vU (s:ByteArray) (pos:Nat) (h:pos<s.size) (ha:128≤(s[pos]'h).toNat):∀ j,pos≤j→j<pos+(Utf8.decode s pos).2→128≤(s.get! j).toNat:=by
 have hn:¬ (s[pos]'h).toNat<128:=by omega
 have h0:128≤(s.get! pos).toNat:=by have:=get_at s pos h;rw[Nat.add_zero] at this;rw[this];exact ha
 intro j h1 h2;obtain⟨k,rfl⟩:∃ k,j=pos+k:=⟨j - pos,by omega⟩
 have h3:k<(Utf8.decode s pos).2:=by omega
 clear h1 h2;simp only[Utf8.decode,get_at s pos h,hn,if_false] at h3;have key:k=0∨k=1∧(s.get! (pos+1)).toNat / 64=2∨k=2∧(s.get! (pos+2)).toNat / 64=2∨k=3∧(s.get! (pos+3)).toNat / 64=2:=by
  revert h3
  repeat' split
  all_goals simp_all
  all_goals omega
 rcases key with rfl|⟨rfl,e⟩|⟨rfl,e⟩|⟨rfl,e⟩
 ·exact h0
 all_goals omega
theorem uJ (s:List UInt8) (pos:Nat) (h:pos<s.length):∃ (r wd:Nat),Utf8.decode ⟨s.toArray⟩ pos=(r,wd)∧1≤wd∧pos+wd≤s.length∧r≤2147483647 ∧
  ((r<128∧wd=1∧∃ b,s[pos]? = some b∧b.toNat=r)∨(128≤r∧∀ j b,pos≤j→j<pos+wd→s[j]? = some b→128≤b.toNat)):=by
 have hs:(⟨s.toArray⟩:ByteArray).size=s.length:=by simp[ByteArray.size]
 have hp:pos<(⟨s.toArray⟩:ByteArray).size:=by rw[hs];exact h
 have hb:s[pos]? = some ((⟨s.toArray⟩:ByteArray)[pos]'hp):=by
  rw[List.getElem?_eq_getElem h];rfl
 have hw:=wW ⟨s.toArray⟩ pos hp
 have hle:=decode_le ⟨s.toArray⟩ pos
 rw[hs] at hw;by_cases hc:((⟨s.toArray⟩:ByteArray)[pos]'hp).toNat<128
 ·have e:=decode_ascii ⟨s.toArray⟩ pos hp hc
  refine⟨_,_,e,Nat.le_refl _,by omega,by omega,.inl ⟨hc,rfl,_,hb,rfl⟩⟩
 ·have e:=decode_high ⟨s.toArray⟩ pos hp (by omega)
  refine⟨_,_,rfl,e.2,hw,hle,.inr ⟨e.1,fun j b h1 h2 hj => ?_⟩⟩
  have h3:=vU ⟨s.toArray⟩ pos hp (by omega) j h1 h2
  have h4:(⟨s.toArray⟩:ByteArray).get! j=b:=by
   have hlt:j<s.length:=(List.getElem?_eq_some_iff.1 hj).1
   have:=get_at ⟨s.toArray⟩ j (by rw[hs];exact hlt)
   rw[Nat.add_zero] at this
   rw[this];rw[List.getElem?_eq_getElem hlt] at hj
   exact Option.some.inj hj
  rw[h4] at h3;exact h3
theorem AA {s chars:List UInt8} {i j:Nat} (h:Lib.NoAny s chars i) (h2:∀ k b,i≤k→k<j→s[k]? = some b→chars.contains b=false):Lib.NoAny s chars j:=fun k b hk hb=>by
 by_cases hki:k<i
 ·exact h k b hki hb
 ·exact h2 k b (by omega) hk hb
def iG (r:Nat):Code→Option Code
 | .loop a=>bif Nat.beq ((bg a).getD 0) r then some a else iG r a
 | .seq a b=>(iG r a).orElse fun _=>iG r b
 | .cond _ a b=>(iG r a).orElse fun _=>iG r b
 | .block _ a=>iG r a
 | .scope a=>iG r a
 | _=>none
def pm (fn:Func) (r:Nat):Code:=((fn.body.bind (iG r))).getD .skip
abbrev anyH (s:List UInt8) (i:Nat):St := { sl:=upd (upd bot 45 (.c (.iter s i))) 1 (.c (.pv (.str ik))),bx:=nobox,nt:=55 }
theorem FH {b:UInt8} (h:128≤b.toNat):ik.contains b=false:=by
 cases hc:ik.contains b
 ·rfl
 ·have:b∈ik:=by simpa using hc
  have:b=10∨b=12∨b=13:=by simpa[ik] using this
  rcases this with rfl|rfl|rfl<;>exact absurd h (by decide)
theorem El (s:List UInt8) (h8:s.length≤8):∀ (k i:Nat) (S:St),s.length - i≤k→i≤s.length→head ([1,45],[]) S=anyH s i→Lib.NoAny s ik i →
  Ends (exL K0 230 (.loop (pm Tryz.f230 18)) S) fun o S=>(o=.ret∧S.sl 4=.c (.pv (.int .i64 (Lib.indexAny s ik)))∨Lib.indexAny s ik = -1∧o=.exit 2)∧S.nt=55:=by
 intro k
 induction k with
 | zero =>
  intro i S hk hi hS hno;obtain rfl:i=s.length:=by omega
  have e:=Lib.indexAny_none hno
  conv in pm _ _=>whnf
  rw[aq];simp only[bg,Option.orElse_some,Option.getD_some,nn,qc,hS];simp only[go_sem,reduceLT,reduceCtorEq,reduceEqDiff,Nat.reduceBEq,reduceAdd,region0,ar,e]
 | succ k ih =>
  intro i S hk hi hS hno;by_cases hlt:i<s.length
  case neg=>exact ih i S (by omega) hi hS hno
  obtain⟨r,wd,hd,hw1,hw2,hr,hcase⟩:=uJ s i hlt;have hit:ji s i=i+wd:=by unfold ji;rw[hd]
  have hr0:(0:Int)≤(r:Int)∧(r:Int)≤2147483647:=by omega
  have hru:=EW (r:Int) hr0
  obtain⟨v,hv⟩:∃ v,(if (r:Int)<128 then Lib.indexByte ik (r:Int).toNat.toUInt8 else -1)=v:=⟨_,rfl⟩
  rw[hv] at hru;have ih':=ih (i+wd)
  conv at ih' in pm _ _=>whnf
  conv in pm _ _=>whnf
  rw[aq];simp only[bg,Option.orElse_some,Option.getD_some,nn,qc,hS];cases hdec:decide (0≤v)
  ·have hno':Lib.NoAny s ik (i+wd):=by
    refine AA hno fun j b h1 h2 hj => ?_
    rcases hcase with⟨hr1,rfl,b',hb',hbr⟩|⟨hr1,hall⟩
    ·obtain rfl:j=i:=by omega
     rw[hj] at hb';cases hb';rw[if_pos (by omega)] at hv
     have hback:((r:Int)).toNat.toUInt8=b:=by rw[←hbr];simp
     rw[hback] at hv;rw[Lib.contains_iff_indexByte,hv,hdec]
    ·exact FH (hall j b h1 h2 hj)
   simp only[go_sem,reduceLT,reduceEqDiff,Nat.reduceBEq,reduceAdd,region0,kU,zd,hlt,hd,hit,hru,hdec];refine ih' _ (by omega) hw2 ?_ hno'
   rfl
  ·have hgo:Lib.indexAny s ik=(i:Int):=by
    rcases hcase with⟨hr1,rfl,b',hb',hbr⟩|⟨hr1,hall⟩
    ·rw[if_pos (by omega)] at hv
     have hback:((r:Int)).toNat.toUInt8=b':=by rw[←hbr];simp
     rw[hback] at hv;exact Lib.indexAny_hit hno hb' (by rw[Lib.contains_iff_indexByte,hv,hdec])
    ·rw[if_neg (by omega)] at hv
     rw[←hv] at hdec;cases hdec
   simp only[go_sem,reduceLT,reduceCtorEq,reduceEqDiff,Nat.reduceBEq,reduceAdd,region0,kU,zd,hlt,hd,hit,hru,hdec,ar,hgo]
theorem F4 (s:List UInt8) (h8:s.length≤8):den K0 230 [.c (.pv (.str s)),.c (.pv (.str ik))] []=some (.ret (.c (.pv (.int .i64 (Lib.indexAny s ik)))) []):=by
 have hr:Tryz.f230.results=#[.tmp 4]:=rfl
 have hu:=HZ (s.length:Int)
 have h8d:decide ((8:Int)<(s.length:Int))=false:=decide_eq_false (by omega)
 rw[h8d] at hu;have hloop:=El s h8 s.length 0
 conv at hloop in pm _ _=>whnf
 refine mm rfl Tryz.func230 rfl Tryz.ntmps230 ⟨by simp,by simp[LK]⟩ ?_
 have e0:(ik==[])=false:=by decide
 have e1:(((3:Nat):Int)==1)=false:=by decide
 simp only[go_sem,reduceLT,reduceCtorEq,reduceEqDiff,Nat.reduceBEq,reduceAdd,region0,kU,K0_P,FK,hr,hu,aA kv,kf kv,e0,e1];obtain⟨o,S',e,hq,hn⟩:=hloop (anyH s 0) (by omega) (Nat.zero_le _) rfl (Lib.NoAny.zero _ _)
 rw[aq] at e ⊢
 simp only[bg,Option.orElse_some,Option.getD_some,nn,qc] at e ⊢
 rw[show head ([1,45],[]) (anyH s 0)=anyH s 0 from rfl] at e
 simp only[head,bm,bh,upd,AV.live,CV.live,reduceIte,reduceEqDiff];erw [e];rcases hq with⟨rfl,hv⟩|⟨hv,rfl⟩
 ·simp only[go_sem,hv]
 ·simp only[go_sem,reduceLT,region0,hv,hn]
end Go.Abs
namespace Go.Abs
open Go Go.Proofs Go.RowKit
def li:Prim
 | [.c (.pv (.str s)),.c (.pv (.str p))],[]=>if p=[10,12,13]∧s.length<4294967281 then some (.c (.pv (.int .i64 (Lib.indexAny s p))),[]) else none
 | _,_=>none
def Gq (P:Program) (f:Nat):Bool :=
 match P.funcs[f]? with
 | some fn => fn.name != "runtime.NumGoroutine" && (match fn.body with | some c => fW (fun _ => false) c | none => false)
 | none=>false
theorem Fj:[230,235,199,220,179].all (Gq Tryz.prog)=true:=by kernel_rfl
theorem I5:Prog K0:=by
 refine⟨by kernel_rfl,fun g hg => ?_,fun f F args bxs x _ hF hx => ?_,fun f F args bxs r call _ hF=>by cases hF⟩
 ·have h1:g∈[230,235,199,220,179]:=by simpa[K0] using hg
  have h2:=List.all_eq_true.1 Fj g h1
  unfold Gq at h2;split at h2
  ·rename_i fn hfn;simp only[Bool.and_eq_true] at h2;obtain⟨h3,h4⟩:=h2;split at h4
   ·rename_i c hc;exact⟨fn,c,hfn,by simpa using h3,hc,h4⟩
   ·cases h4
  ·cases h2
 ·have h2:pr0 f=some F:=hF
  unfold pr0 at h2;split at h2
  ·rename_i hf;cases h2;have:f=179:=by simpa using hf
   subst this;exact nU hx
  ·cases h2
theorem h116:(Tryz.prog.info? 161).map (fun i=>(i.zero,i.size))=some (some (.agg (Array.replicate 256 (.bool false))),256):=by kernel_rfl
theorem QZf {args:List AV} {bxs:List (List CV)} {x:AV×List (List CV)} (h:li args bxs=some x):Contract Tryz.prog 230 args bxs (.ret x.1 x.2):=by
 unfold li at h;split at h
 case h_2=>cases h
 rename_i s p;split at h
 case isFalse=>cases h
 rename_i hs;cases h;obtain⟨rfl,hs⟩:=hs;by_cases h8:s.length≤8
 ·exact tC I5 (by rfl) (F4 s h8)
 ·refine dI fun G w cargs hw hargs => ?_
  obtain⟨x,y,rfl,hx,hy⟩:=gf hargs;cases hx.strv;cases hy.strv;have hsz:(⟨s.toArray⟩:ByteArray).size=s.length:=by simp[ByteArray.size]
  refine(Tryz.strings_IndexAny_long (zero_of_info h116).1 ⟨s.toArray⟩ ⟨([10,12,13]:List UInt8).toArray⟩ w (by decide) (by rw[hsz];omega) (by rw[hsz];exact hs) (by decide) ?_).mono ?_
  ·intro j b hb;have:b∈([10,12,13]:List UInt8):=List.mem_of_getElem? hb
   have:b=10∨b=12∨b=13:=by simpa using this
   rcases this with rfl|rfl|rfl<;>decide
  ·rintro e w' ⟨rfl,rfl⟩
   exact⟨_,rfl,.int _ _,((Below.refl _ _).alloc (Nat.le_refl _) _).alloc (by simp) _⟩
end Go.Abs
namespace Go.Abs
open Go Go.Proofs Go.RowKit
set_option maxRecDepth 100000 in
theorem mg (be:Nat) (older:List PanicEntry) (w:World) (y:Value) (te:TypeId) (h2:w.heap[be]? = some (.cells #[y] te (0,0))) :
  CallsD Tryz.prog 69 #[.pointer (some ⟨be,0,none⟩)] (.panicking ({ v:=.iface 115 (.agg #[]),recovered:=false }::older)) w fun e u' w' =>
   e=.returned (.tuple #[])∧u'=.panicking ({ v:=.iface 115 (.agg #[]),recovered:=true }::older) ∧
    w'=(w.alloc (.cells #[] 115)).setCell ⟨be,0,none⟩ (.int .i64 40):=by
 have hta:∀ w:World,(Instr.typeAssert (.iface 115 (.agg #[])) 20 115 true).run Tryz.prog w=.ok (.tuple #[.agg #[],.bool true]) w:=fun _=>by kernel_rfl
 have k2:(w.alloc (.cells #[] 115)).heap[be]? = some (.cells #[y] te (0,0)):=(cv w _ be (Array.getElem?_eq_some_iff.1 h2).1).trans h2
 have c3:(w.alloc (.cells #[] 115)).cell? ⟨be,0,none⟩=some y:=bO k2 0
 have f3:=fT k2 0
 clear k2 h2;refine callsD_of_wpS Tryz.func69 rfl fun c₀ cs hu => ?_
 apply wpS_seq
 apply wpS_region
 simp[wpOpsS,go_sem,recoverD,hu,Tryz.ntmps69,Exit.thenS];refine wpS_of_wp ?_
 go_wp2
 simp[bodyPostS,results,Tryz.results69]
theorem A9 (pe:Addr) (w:World) :
  CallsD Tryz.prog 69 #[.pointer (some pe)] .returning w fun e u' w'=>e=.returned (.tuple #[])∧u'=.returning∧w'=w:=by
 refine callsD_of_wpS Tryz.func69 rfl fun c₀ cs hu => ?_
 apply wpS_seq
 apply wpS_region
 simp[wpOpsS,go_sem,recoverD,hu,Tryz.ntmps69,Exit.thenS];refine wpS_of_wp ?_
 go_wp2
 cases c₀
 simp_all [bodyPostS,results,Tryz.results69]
abbrev Hq:Value:=.iface 115 (.agg #[])
theorem uL (b:Bool) (w:World) :
  Calls Tryz.prog 40 #[.bool b] w fun e w'=>w'=w∧e=(if b then .returned (.tuple #[]) else .panicked [{ v:=Hq,recovered:=false }]):=by
 go_enter Tryz.func40,Tryz.ntmps40
 cases b
 ·go_wp2
  rw[show (Instr.panic (.iface 115 (.agg #[]))).run Tryz.prog w=.halt (.panic (.iface 115 (.agg #[]))) w from rfl]
  simp only[Result.andThen];rw[Oper.upon_panic];exact⟨rfl,by simp⟩
 ·go_wp2
  simp[bodyPost,results,Tryz.results40]
noncomputable def K0W:Cfg := { P:=Tryz.prog,pr:=fun _=>none,keep:=fun _ _=>([],[]),ownRet:=fun _=>false,good:=fun _=>false,hook:=fun _ _=>false }
abbrev rdS (x:Value):Obj:=.cells #[x] 118
structure DoOut (b0:Nat) (Ret:Nat→World→World→Prop) (Pan:World→World→Prop) (w1:World) (e:Ending) (w2:World):Prop where
 e0:w2.heap[b0]? = some inE
 out:(∃ v a n c ty,e=.returned v∧w2.heap[w1.heap.size]? = some (.cells #[.slice a n c] ty (0,0))∧Ret n w1 w2)∨(e=.panicked [{ v:=Hq,recovered:=false }]∧Pan w1 w2)
set_option maxRecDepth 100000 in
theorem sF (x : Value) (g : FuncId) (fn : Func) (hfn : Tryz.prog.funcs[g]? = some fn) (hnm : fn.name ≠ "runtime.NumGoroutine") (hbd : fn.body.isSome = true) (vs : List Value) (w : World)
  (Tr:Option Addr→Nat→Nat→World→Prop) (Ret:Nat→World→World→Prop) (Pan:World→World→Prop)
  (hT:Calls Tryz.prog 70 #[x] (w.alloc inE) fun e w1=>w1.heap[w.heap.size]? = some inE∧∃ a n c,e=.returned (.slice a n c)∧Tr a n c w1)
  (hD:∀ a n c w1,Tr a n c w1→w1.heap[w.heap.size]? = some inE→Calls Tryz.prog g (.pointer (some ⟨w1.heap.size,0,none⟩)::vs).toArray (w1.alloc (rdS (.slice a n c))) fun e w2=>DoOut w.heap.size Ret Pan w1 e w2) :
  Calls Tryz.prog 37 #[x,.func (.func g) #[] vs.toArray] w fun e w'' =>
   (∃ w1 w2,Ret 0 w1 w2∧e=.returned (.int .i64 0)∧w''=w2.setCell ⟨w.heap.size,0,none⟩ (.int .i64 0)) ∨
   (∃ n w1 w2,Ret n w1 w2∧n≠0∧e=.returned (.int .i64 40)∧w''=(w2.alloc (.cells #[] 115)).setCell ⟨w.heap.size,0,none⟩ (.int .i64 40)) ∨
   (∃ w1 w2,Pan w1 w2∧e=.returned (.int .i64 40)∧w''=(w2.alloc (.cells #[] 115)).setCell ⟨w.heap.size,0,none⟩ (.int .i64 40)):=by
 have hmf:∀ (fn:Fn) (first cap:Array Value) (w:World),(Instr.makeFunc fn first cap).run Tryz.prog w=.ok (.func fn first cap) w:=fun _ _ _ _=>rfl
 go_enter_defers Tryz.func37,Tryz.ntmps37
 have hcf:∀ (args:Array Value) (w:World),(callFunc g args).run Tryz.prog w=.ok (.enter g args) w:=fun args w=>pu (K:=K0W) hfn hnm hbd
 go_wp2_with (go_at_call 70;refine hT.mono ?_)
 rintro e w1 ⟨k0,ya,yn,yc,rfl,hy⟩
 have hDD:=hD ya yn yc w1 hy k0
 go_wp2_with (refine hDD.mono ?_)
 rintro e w2 ⟨e0,⟨v,ra,rn,rc,ty,rfl,hr0,hR⟩|⟨rfl,hP⟩⟩
 ·have c1:w2.cell? ⟨w1.heap.size,0,none⟩=some (.slice ra rn rc):=bO hr0 0
  have c0:w2.cell? ⟨w.heap.size,0,none⟩=some (.int .i64 0):=bO e0 0
  have f0:=fT e0 0
  by_cases hn:rn=0
  ·subst hn;have hm:=uL true w2
   go_wp2_with (go_at_call 40;refine hm.mono ?_)
   refine leaves_cons (f:=69) (args:=#[.pointer (some ⟨w.heap.size,0,none⟩)]) (by simp) (by simp[go_sem]) ?_
   refine(A9 _ _).mono ?_
   rintro e u' w'' ⟨rfl,rfl,rfl⟩
   have e2:(w2.setCell ⟨w.heap.size,0,none⟩ (.int .i64 0)).cell? ⟨w.heap.size,0,none⟩=some (.int .i64 0):=World.cell?_setCell_same _ _ _ c0
   refine⟨.int .i64 0,?_,.inl ⟨w1,w2,hR,rfl,rfl⟩⟩
   simp[results,Tryz.results37,go_sem,e2]
  ·have hne:((rn:Int)==0)=false:=by rw[beq_eq_false_iff_ne];omega
   have hm:=uL false w2
   go_wp2_with (go_at_call 40;refine hm.mono ?_)
   refine leaves_cons (f:=69) (args:=#[.pointer (some ⟨w.heap.size,0,none⟩)]) (by simp) (by simp[go_sem]) ?_
   refine(mg _ [] _ _ _ e0).mono ?_
   rintro e u' w'' ⟨rfl,rfl,rfl⟩
   have g2:(w2.alloc (.cells #[] 115)).heap[w.heap.size]? = some inE:=(cv w2 _ _ (Array.getElem?_eq_some_iff.1 e0).1).trans e0
   have d3:(w2.alloc (.cells #[] 115)).cell? ⟨w.heap.size,0,none⟩=some (.int .i64 0):=bO g2 0
   have e2:((w2.alloc (.cells #[] 115)).setCell ⟨w.heap.size,0,none⟩ (.int .i64 40)).cell? ⟨w.heap.size,0,none⟩=some (.int .i64 40):=World.cell?_setCell_same _ _ _ d3
   refine⟨.int .i64 40,?_,.inr (.inl ⟨rn,w1,w2,hR,hn,rfl,rfl⟩)⟩
   simp[results,Tryz.results37,go_sem,e2]
 ·go_wp2
  refine leaves_cons (f:=69) (args:=#[.pointer (some ⟨w.heap.size,0,none⟩)]) (by simp) (by simp[go_sem]) ?_
  refine(mg _ [] _ _ _ e0).mono ?_
  rintro e u' w'' ⟨rfl,rfl,rfl⟩
  have g2:(w2.alloc (.cells #[] 115)).heap[w.heap.size]? = some inE:=(cv w2 _ _ (Array.getElem?_eq_some_iff.1 e0).1).trans e0
  have d3:(w2.alloc (.cells #[] 115)).cell? ⟨w.heap.size,0,none⟩=some (.int .i64 0):=bO g2 0
  have e2:((w2.alloc (.cells #[] 115)).setCell ⟨w.heap.size,0,none⟩ (.int .i64 40)).cell? ⟨w.heap.size,0,none⟩=some (.int .i64 40):=World.cell?_setCell_same _ _ _ d3
  refine⟨.int .i64 40,?_,.inr (.inr ⟨w1,w2,hP,rfl,rfl⟩)⟩
  simp[results,Tryz.results37,go_sem,e2]
end Go.Abs
namespace Go.Abs
open Go Go.Proofs Go.RowKit
def iY:Nat→List (List CV)→List Nat
 | _,[]=>[]
 | k,_::l=>k::iY (k+1) l
theorem GR:∀ {l:List (List CV)} {k i:Nat},i<l.length→(iY k l)[i]? = some (k+i)
 | [],_,_,h=>by simp at h
 | _::l,k,0,_=>by simp[iY]
 | _::l,k,i+1,h=>by
  rw[iY,List.getElem?_cons_succ,GR (by simpa using h)]
  congr 1
  omega
theorem A5:∀ {l:List (List CV)} {k s:Nat},s∈iY k l→k≤s
 | [],_,_,h=>by cases h
 | _::l,k,s,h=>by
  rw[iY] at h;rcases List.mem_cons.1 h with rfl|h
  ·exact Nat.le_refl _
  ·have:=A5 h;omega
theorem y7:∀ (l:List (List CV)) (k:Nat),(iY k l).Nodup
 | [],_=>List.nodup_nil
 | _::l,k=>by
  rw[iY];exact List.nodup_cons.2 ⟨fun h=>by have:=A5 h;omega,y7 l (k+1)⟩
theorem Hp:∀ (l:List (List CV)) (k:Nat),(iY k l).length=l.length
 | [],_=>rfl
 | _::l,k=>by rw[iY,List.length_cons,Hp l (k+1),List.length_cons]
theorem zZ {bx:Nat→Option (List CV)}:∀ (l:List (List CV)) (k:Nat),(∀ i c,l[i]? = some c→bx (k+i)=some c)→bw bx (iY k l)=some l
 | [],_,_=>rfl
 | c::l,k,h=>by
  have h0:=h 0 c rfl
  have h1:=zZ (bx:=bx) l (k+1) fun i d hd=>by
   have:=h (i+1) d (by simpa using hd)
   rw[show k+1+i=k+(i+1) by omega];exact this
  rw[iY,bw,show bx k=some c from h0,h1]
def dD (bxs:List (List CV)):List Nat:=0::iY LK bxs
def j0 (bxs bs:List (List CV)):List (List CV):=bs.map fun b=>(b.map (CV.ren (back (dD bxs)))).map (CV.ren bv)
def f8 (good:FuncId→Bool):List AV→List (List CV)→Plan
 | [.c (.pv (.sl c)),.c (.fn g caps)],bxs =>
  .call 70 [.c (.pv (.sl c))] [] fun r=>match r with
   | .ret (.c (.pv (.sl t))) [] =>
    if good g then
     .call g ((AV.c (.loc 0 0)::caps.map fun x=>AV.c (.loc x.1 x.2)).map fun a=>(a.deg).ren (lend (dD bxs))) (([.pv (.sl t)]::bxs).map fun b=>b.map (CV.ren (lend (dD bxs)))) fun r2=>match r2 with
      | .ret _ ([v]::bs)=>(match v.pv? with
       | some (.sl m)=>.done (.ret (.c (.pv (.int .i64 (if m.isEmpty then 0 else 40)))) (j0 bxs bs))
       | _=>.fail)
      | .pan (.pv (.ifa x [])) (_::bs)=>if x=115 then .done (.ret (.c (.pv (.int .i64 40))) (j0 bxs bs)) else .fail
      | _=>.fail
    else .fail
   | _=>.fail
 | _,_=>.fail
section
variable {G G1 G3:Gh} {w w1 w2 w'':World}
theorem Mb {o:Obj} (hw:WI G w) {dd:Nat} (hd:dd<LK) (hbb:G.bb dd=none):Gr (fun _=>False) G w (G.box dd w.heap.size) (w.alloc o):=by
 refine⟨⟨fun _ _ _ h=>h,fun c hc ho=>⟨?_,cv w _ c hc,fun _=>rfl⟩,by rw[bK];omega,rfl,rfl,rfl,fun k hk => ?_⟩,fun s b hb => ?_,fun b ℓ hb _=>⟨?_,cv w _ b (gq hw hb),fun _=>rfl⟩⟩
 ·show upd G.ow w.heap.size _ c=none
  unfold upd;rw[if_neg (by omega)];exact ho
 ·show upd G.bb dd _ k=_
  unfold upd;rw[if_neg (by omega)]
 ·show upd G.bb dd _ s=_
  unfold upd;rw[if_neg (fun e=>by rw[e,hbb] at hb;cases hb)];exact hb
 ·show upd G.ow w.heap.size _ b=_
  have:=gq hw hb
  unfold upd;rw[if_neg (by omega)];exact hb
structure WFin (G:Gh) (w:World) (bs:List (List CV)) (G3:Gh) (w2:World):Prop where
 ext:Ext G w G3 w2
 wi:WI G3 w2
 ow:G3.ow w.heap.size=none
 no:∀ o,G3.I w.heap.size o=none
 lt:w.heap.size<w2.heap.size
 box:∀ (i:Nat) (l:List CV),bs[i]? = some l→BoxR G3 w2 (LK+i) l
theorem Ht {bs:List (List CV)} (hw:WI G w) (hbb:∀ s b,G.bb s=some b→LK≤s) (h:WFin G w bs G3 w2)
  (hs:w2.heap.size≤w''.heap.size) (ho:w''.os=w2.os) (hp:w''.output=w2.output) (ht:w''.tape=w2.tape) (hh:∀ b,b<w2.heap.size→b≠w.heap.size→w''.heap[b]? = w2.heap[b]?) :
  Ext G w { G3 with bb:=G.bb } w''∧WI { G3 with bb:=G.bb } w''∧∀ (i:Nat) (l:List CV),(bs.map fun b=>b.map (CV.ren bv))[i]? = some l→BoxR { G3 with bb:=G.bb } w'' (LK+i) l:=by
 have hlent:∀ k,LK≤k→G3.bb k=G.bb k:=h.ext.lent
 have hold:∀ b,b<w.heap.size→G.ow b=none→G3.ow b=none∧w''.heap[b]? = w.heap[b]? ∧ ∀ o,G3.I b o=G.I b o:=fun b hb hn=>by
  have h3:=h.ext.old b hb hn
  have:=h.ext.size
  exact⟨h3.1,(hh b (by omega) (by omega)).trans h3.2.1,h3.2.2⟩
 have how:∀ b ℓ,G3.ow b=some ℓ→w''.heap[b]? = w2.heap[b]? := fun b ℓ hb=>by
  refine hh b (gq h.wi hb) fun e => ?_
  rw[e,h.ow] at hb;cases hb
 have hsz:=h.ext.size
 refine⟨⟨h.ext.I,hold,by omega,ho.trans h.ext.os,hp.trans h.ext.output,ht.trans h.ext.tape,fun _ _=>rfl⟩,⟨fun b o y hI => ?_,fun b hb=>h.wi.fresh b (by omega),h.wi.boxI,fun s b hb => ?_,hw.tab.map fun b hb hn=>⟨(hold b hb hn).1,(hold b hb hn).2.1⟩⟩,fun i l hl => ?_⟩
 ·have h1:G3.I b o=some y:=hI
  have e:w''.heap[b]? = w2.heap[b]? := hh b (I_lt h.wi h1) (fun e=>by rw[e,h.no] at h1;cases h1)
  have:=h.wi.cell b o y h1
  unfold World.cell? at this ⊢
  rw[e];exact this
 ·have hb':G.bb s=some b:=hb
  exact h.wi.bbow s b (by rw[hlent s (hbb s b hb')];exact hb')
 ·rw[List.getElem?_map,Option.map_eq_some_iff] at hl
  obtain⟨l0,hl0,rfl⟩:=hl;obtain⟨b,cs,ty,h1,h2,h3,h4⟩:=h.box i l0 hl0;have hb3:=h.wi.bbow _ b h1
  refine⟨b,cs,ty,?_,(how b _ hb3).trans h2,⟨by simpa using h3.1,h3.2.map (fun v e=>rB e)⟩,fun k u hu => ?_⟩
  ·show G.bb (LK+i)=some b
   rw[←hlent (LK+i) (by omega)];exact h1
  ·rw[List.getElem?_map,Option.map_eq_some_iff] at hu
   obtain⟨u',hu',rfl⟩:=hu;obtain⟨y,h5,h6⟩:=h4 k u' hu';refine⟨y,h5,?_⟩
   by_cases hpl:u'.plain=true
   ·refine .of_RN (RN.ren (G:=G3) (G1 := { G3 with bb:=G.bb }) (fun _ _ _ h=>h) (fun s k b hs hb => ?_) (h6.to_RN hpl))
    unfold bv at hs;split at hs
    ·rename_i hk;cases hs
     show G.bb s=some b
     rw[←hlent s hk];exact hb
    ·cases hs
   ·cases u'<;>simp[CV.plain] at hpl
    case iter s2 pos=>exact IterAt.one h6
    case cmap es =>
     obtain⟨b',clock,k1,k2,k3⟩:=(h6:MapAt G3 w2 _ es y);exact⟨b',clock,k1,k2,(how b' _ k2).trans k3⟩
    rename_i e c;have h7:OwnAt G3 w2 (.cell (LK+i) k) e c y:=h6
    show OwnAt { G3 with bb:=G.bb } w'' (.cell (LK+i) k) e c y
    rcases h7 with⟨h7,ad,h8,h9⟩|⟨hne,b',cap,cur,sz,k1,k2,k3,k4⟩
    ·exact .inl ⟨h7,ad,h8,h9.map fun b' hb'=>⟨hb',how b' _ hb'⟩⟩
    ·exact .inr ⟨hne,b',cap,cur,sz,k1,k2,(how b' _ k2).trans k3,k4⟩
theorem Gz {ℓ:Own} {v:CV} {x:Value} {m:List (List PV)} (h:RC G w ℓ v x) (hv:v.pv? = some (.sl m)):∃ a c,x=.slice a m.length c:=by
 cases v<;>simp only[CV.pv?] at hv<;>try cases hv
 ·obtain⟨a,cap,rfl,_⟩:=RP.slice_inv (show RP G.I (.sl m) x from h)
  exact⟨a,cap,rfl⟩
 ·obtain⟨a,cap,rfl,_⟩:=RP.slice_inv (OwnAt.rp (show OwnAt G w ℓ _ m x from h))
  exact⟨a,cap,rfl⟩
 ·have:x=.slice none 0 0:=h
  exact⟨none,0,this⟩
 ·obtain⟨a,cap,rfl,_⟩:=RP.slice_inv (show RP G.I (.sl m) x from h.1)
  exact⟨a,cap,rfl⟩
theorem Mt {g:Nat→Option Nat} {v:CV} {p:PV} (hv:v.pv? = some p):v.ren g=v:=by
 cases v<;>simp only[CV.pv?] at hv<;>first|rfl|cases hv
end
theorem Fc {good:FuncId→Bool} {call:CallF} {args:List AV} {bxs:List (List CV)} {r:Res} (h:(f8 good args bxs).run call=some r) :
    ∃ (c:List (List PV)) (g:FuncId) (caps:List (Nat×Nat)) (t:List (List PV)) (r2:Res),args=[.c (.pv (.sl c)),.c (.fn g caps)]∧good g=true ∧
      call 70 [.c (.pv (.sl c))] []=some (.ret (.c (.pv (.sl t))) []) ∧
      call g ((AV.c (.loc 0 0)::caps.map fun x=>AV.c (.loc x.1 x.2)).map fun a=>(a.deg).ren (lend (dD bxs))) (([.pv (.sl t)]::bxs).map fun b=>b.map (CV.ren (lend (dD bxs))))=some r2 ∧
      ((∃ u v bs m,r2=.ret u ([v]::bs)∧v.pv? = some (.sl m)∧r=.ret (.c (.pv (.int .i64 (if m.isEmpty then 0 else 40)))) (j0 bxs bs)) ∨
       (∃ b bs,r2=.pan (.pv (.ifa 115 [])) (b::bs)∧r=.ret (.c (.pv (.int .i64 40))) (j0 bxs bs))):=by
  unfold f8 at h;split at h
  case h_2=>simp[Plan.run] at h
  rename_i c g caps;rw[Plan.run] at h;split at h
  case h_2=>cases h
  rename_i r1 hr1;split at h
  case h_2=>simp[Plan.run] at h
  rename_i t;split at h
  case isFalse=>simp[Plan.run] at h
  rename_i hg;rw[Plan.run] at h;split at h
  case h_2=>cases h
  rename_i r2 hr2;refine⟨c,g,caps,t,r2,rfl,hg,hr1,hr2,?_⟩
  split at h
  · rename_i u v bs;split at h
    · rename_i m hm;simp only[Plan.run,Option.some.injEq] at h;exact .inl ⟨u,v,bs,m,rfl,hm,h.symm⟩
    · simp[Plan.run] at h
  · rename_i x b bs;split at h
    · rename_i hx;subst hx;simp only[Plan.run,Option.some.injEq] at h;exact .inr ⟨b,bs,rfl,h.symm⟩
    · simp[Plan.run] at h
  · simp[Plan.run] at h
/-- THE CONTRACT -/
theorem GL {good : FuncId → Bool} (hgd : ∀ g, good g = true → ∃ fn, Tryz.prog.funcs[g]? = some fn ∧ fn.name ≠ "runtime.NumGoroutine" ∧ fn.body.isSome = true) (hT : good 70 = true) {call : CallF}
  (hc:∀ g args bxs r,good g=true→call g args bxs=some r→Contract Tryz.prog g args bxs r) {args:List AV} {bxs:List (List CV)} {r:Res} (h:(f8 good args bxs).run call=some r) :
  Contract Tryz.prog 37 args bxs r:=by
 obtain⟨c,g,caps,t,r2,rfl,hg,hr1,hr2,hfin⟩:=Fc h;intro G w cargs hw hargs hno hb hbb;obtain⟨x,y,rfl,hx,hy⟩:=gf hargs;obtain⟨vs,rfl,hcaps⟩:∃ vs:List Value,y=.func (.func g) #[] vs.toArray∧All2 (fun (c:Nat×Nat) (v:Value)=>∃ b,G.bb c.1=some b∧v=Value.pointer (some ⟨b,c.2,none⟩)) caps vs:=hy
 obtain⟨fn,hfn,hnm,hbd⟩:=hgd g hg;have hge:∀ s b,G.bb s=some b→LK≤s:=fun s b e=>by
  obtain⟨i,_,rfl⟩:=hbb s b e;omega
 have hn0:G.bb 0=none:=by
  cases e:G.bb 0 with
  | none=>rfl
  | some b=>have:=hge 0 b e;unfold LK at this;omega
 obtain⟨g0,hw0⟩:=iK (w':=w.alloc inE) hw ((Below.refl _ _).alloc (Nat.le_refl _) _);have hs0:(w.alloc inE).heap.size=w.heap.size+1:=bK w _
 have hE:∀ {G1:Gh} {w1:World},Ext G (w.alloc inE) G1 w1→w1.heap[w.heap.size]? = some inE∧G1.ow w.heap.size=none∧(∀ o,G1.I w.heap.size o=none)∧w.heap.size<w1.heap.size:=fun {G1 w1} hx=>by
  have h1:=hx.old w.heap.size (by rw[hs0];omega) (hw.fresh _ (Nat.le_refl _)).2
  have h2:=hx.size
  rw[hs0] at h2;exact⟨h1.2.1.trans (heap_alloc_new w _),h1.1,fun o=>(h1.2.2 o).trans ((hw.fresh _ (Nat.le_refl _)).1 o),by omega⟩
 let bx0:Nat→Option (List CV):=fun k=>if LK≤k then bxs[k - LK]? else none
 have hbx0:∀ s l,bx0 s=some l→LK≤s∧bxs[s - LK]? = some l:=fun s l e=>by
  simp only[bx0] at e
  split at e
  ·rename_i hk;exact⟨hk,e⟩
  ·cases e
 have hbox0:∀ s l,bx0 s=some l→BoxR G w s l:=fun s l e=>by
  obtain⟨h1,h2⟩:=hbx0 s l e;have:=hb (s - LK) l h2
  rw[show LK+(s - LK)=s by omega] at this
  exact this
 have hf0:FR G (w.alloc inE) { sl:=bot,bx:=bx0,nt:=0 } { tmps:=#[],defers:=[] } :=
  ⟨rfl,fun _=>trivial,fun s l e=>(hbox0 s l e).gr hw g0 (fun h=>h) (fun _ h=>h),fun s e hlt=>by
   cases hq:G.bb s with
   | none=>rfl
   | some b=>have:=hge s b hq;omega⟩
 have hcT:Contract Tryz.prog 70 ([AV.c (.pv (.sl c))].map fun a=>(a.deg).ren (lend [])) (([]:List (List CV)).map fun c=>c.map (CV.ren (lend []))) (.ret (.c (.pv (.sl t))) []):=hc _ _ _ _ hT hr1
 have hTr:=m9 (L:=[]) (o:=.ret) List.nodup_nil hf0 hw0 (fun s e=>by cases e) rfl (.cons ⟨.ret,RA.gr_plain (ℓ':=.ret) hx g0 rfl⟩ .nil:All2 (fun v x=>∃ ℓ,RA G (w.alloc inE) ℓ v x) [AV.c (.pv (.sl c))] [x]) hcT
 let Tr:Option Addr→Nat→Nat→World→Prop:=fun a n cc w1=>∃ G1,Gr (pZ []) G (w.alloc inE) G1 w1∧WI G1 w1∧G1.bb=G.bb∧RP G1.I (.sl t) (.slice a n cc)
 have hT':Calls Tryz.prog 70 #[x] (w.alloc inE) fun e w1=>w1.heap[w.heap.size]? = some inE∧∃ a n cc,e=.returned (.slice a n cc)∧Tr a n cc w1:=by
  refine hTr.mono ?_
  rintro e w1 ⟨G1,g1,hw1,hbb1,z,rfl,hz,_⟩
  have hz':RP G1.I (.sl t) z:=hz
  obtain⟨a,cap,rfl,_⟩:=hz'.slice_inv;exact⟨(hE g1.ext).1,a,_,cap,rfl,G1,g1,hw1,hbb1,hz'⟩
 have hD:∀ a n cc w1,Tr a n cc w1→Calls Tryz.prog g (.pointer (some ⟨w1.heap.size,0,none⟩)::vs).toArray (w1.alloc (rdS (.slice a n cc))) fun e w2=>∃ G3,Ext G (w.alloc inE) G3 w2∧WI G3 w2∧G3.bb 0=some w1.heap.size ∧
   match r2 with
   | .ret u cs=>∃ z,e=.returned z∧cs.length=(dD bxs).length∧∀ (i s:Nat) (l:List CV),(dD bxs)[i]? = some s→cs[i]? = some l→BoxR G3 w2 s (l.map (CV.ren (back (dD bxs))))
   | .pan u cs=>∃ z,e=.panicked [{ v:=z,recovered:=false }]∧RN G3 (u.ren (back (dD bxs))) z∧cs.length=(dD bxs).length∧∀ (i s:Nat) (l:List CV),(dD bxs)[i]? = some s→cs[i]? = some l→BoxR G3 w2 s (l.map (CV.ren (back (dD bxs)))):=by
  rintro a n cc w1 ⟨G1,g1,hw1,hbb1,hz⟩
  have hno1:G1.bb 0=none:=by rw[hbb1];exact hn0
  have g2:=Mb (o:=rdS (.slice a n cc)) hw1 (dd:=0) (by unfold LK;omega) hno1
  have hw2:=F8 (o:=rdS (.slice a n cc)) hw1 hno1
  have hbb2:(G1.box 0 w1.heap.size).bb 0=some w1.heap.size:=by simp[Gh.box,upd]
  have hbbs:∀ s,s≠0→(G1.box 0 w1.heap.size).bb s=G.bb s:=fun s hs=>by
   show upd G1.bb 0 _ s=_
   unfold upd;rw[if_neg hs,hbb1]
  have hf2:FR (G1.box 0 w1.heap.size) (w1.alloc (rdS (.slice a n cc))) { sl:=bot,bx:=upd bx0 0 (some [.pv (.sl t)]),nt:=0 } { tmps:=#[],defers:=[] }:=by
   refine⟨rfl,fun _=>trivial,fun s l e => ?_,fun s e hlt => ?_⟩
   ·have e':upd bx0 0 (some [.pv (.sl t)]) s=some l:=e
    unfold upd at e'
    split at e'
    ·rename_i hs;subst hs;cases e';refine⟨w1.heap.size,_,_,hbb2,heap_alloc_new w1 _,⟨rfl,fun e=>by simp at e⟩,fun k v hk => ?_⟩
     match k with
     | 0 =>
      simp only[List.getElem?_cons_zero,Option.some.injEq] at hk
      subst hk;exact⟨_,rfl,hz⟩
     | k+1=>simp at hk
    ·have h1:=((hbox0 s l e').gr hw g0 (fun h=>h) (fun _ h=>h)).gr hw0 g1 (fun ⟨_,hm,_⟩=>by cases hm) (fun _ ⟨_,hm,_⟩=>by cases hm)
     exact h1.gr hw1 g2 (fun h=>h) (fun _ h=>h)
   ·have e':upd bx0 0 (some [.pv (.sl t)]) s=none:=e
    unfold upd at e'
    split at e'
    ·cases e'
    ·rename_i hs;rw[hbbs s hs];cases hq:G.bb s with
     | none=>rfl
     | some b=>have:=hge s b hq;omega
  have hnd:(dD bxs).Nodup:=List.nodup_cons.2 ⟨fun hm=>by have:=A5 hm;unfold LK at this;omega,y7 bxs LK⟩
  have hgB:bw (upd bx0 0 (some [.pv (.sl t)])) (dD bxs)=some ([.pv (.sl t)]::bxs):=by
   unfold dD;rw[bw,show upd bx0 0 (some [CV.pv (.sl t)]) 0=some [CV.pv (.sl t)] by simp[upd],zZ bxs LK fun i c hi=>by
    show upd bx0 0 _ (LK+i)=_
    unfold upd;rw[if_neg (by unfold LK;omega)]
    simp only[bx0];rw[if_pos (by omega),Nat.add_sub_cancel_left]
    exact hi]
  have hargs2:All2 (fun v x=>∃ ℓ,RA (G1.box 0 w1.heap.size) (w1.alloc (rdS (.slice a n cc))) ℓ v x) (AV.c (.loc 0 0)::caps.map fun x=>AV.c (.loc x.1 x.2)) (.pointer (some ⟨w1.heap.size,0,none⟩)::vs) :=
   .cons ⟨.ret,w1.heap.size,hbb2,rfl⟩ (All2.fo (hcaps.imp fun cp v _ ⟨b,h1,h2⟩=>⟨.ret,b,(hbbs cp.1 (fun e=>by rw[e,hn0] at h1;cases h1)).trans h1,h2⟩))
  refine(m9 (o:=.ret) hnd hf2 hw2 (fun s e=>by cases e) hgB hargs2 (hc g _ _ r2 hg hr2)).mono ?_
  rintro e w2 ⟨G3,g3,hw3,hbb3,hq⟩
  refine⟨G3,g1.ext.trans (g2.ext.trans g3.ext),hw3,by rw[hbb3];exact hbb2,?_⟩
  cases r2 with
  | ret u cs =>
   obtain⟨z,h1,_,h3,h4⟩:=hq;exact⟨z,h1,h3,h4⟩
  | pan u cs=>exact hq
 have hlk:∀ i,i<bxs.length→(dD bxs)[i+1]? = some (LK+i):=fun i hi=>by
  unfold dD;rw[List.getElem?_cons_succ,GR hi]
 have hll:(dD bxs).length=bxs.length+1:=by unfold dD;rw[List.length_cons,Hp]
 have hbs:∀ {bs:List (List CV)} {G3:Gh} {w2:World},bs.length=bxs.length→Ext G (w.alloc inE) G3 w2→WI G3 w2→(∀ (i:Nat) (l:List CV),i<bxs.length→bs[i]? = some l→BoxR G3 w2 (LK+i) (l.map (CV.ren (back (dD bxs))))) →
   WFin G w (bs.map fun b=>b.map (CV.ren (back (dD bxs)))) G3 w2:=fun {bs G3 w2} hln hx hwi hbo=>by
  obtain⟨_,h2,h3,h4⟩:=hE hx;refine⟨g0.ext.trans hx,hwi,h2,h3,h4,fun i l hl => ?_⟩
  rw[List.getElem?_map,Option.map_eq_some_iff] at hl
  obtain⟨l0,hl0,rfl⟩:=hl;exact hbo i l0 (by rw[←hln];exact(List.getElem?_eq_some_iff.1 hl0).1) hl0
 have hwB:∀ bs:List (List CV),j0 bxs bs=(bs.map fun b=>b.map (CV.ren (back (dD bxs)))).map fun b=>b.map (CV.ren bv):=fun bs=>by
  unfold j0;rw[List.map_map];rfl
 rcases hfin with⟨u,v,bs,m,rfl,hm,rfl⟩|⟨b,bs,rfl,rfl⟩
 ·let Rt:Nat→World→World→Prop:=fun n _ w2=>n=m.length∧bs.length=bxs.length∧∃ G3,WFin G w (bs.map fun b=>b.map (CV.ren (back (dD bxs)))) G3 w2
  have hW:=sF x g fn hfn hnm hbd vs w Tr Rt (fun _ _=>False) hT' (fun a n cc w1 hTr1 k0=>by
   refine(hD a n cc w1 hTr1).mono ?_
   rintro e w2 ⟨G3,hx3,hw3,hb3,z,rfl,hln,hbo⟩
   rw[List.length_cons,hll] at hln;obtain⟨b',cs,ty,e1,e2,⟨e3,_⟩,e4⟩:=hbo 0 0 [v] rfl rfl;rw[hb3] at e1
   cases e1
   obtain⟨zz,e5,e6⟩:=e4 0 (v.ren (back (dD bxs))) rfl;rw[Mt hm] at e6
   obtain⟨ra,rc,rfl⟩:=Gz e6 hm;have ecs:cs=#[.slice ra m.length rc]:=by
    have hsz:cs.size=1:=by simpa using e3
    apply Array.ext
    ·simpa using hsz
    ·intro i h1 h2;have hi:i=0:=by omega
     subst hi;rw[Array.getElem?_eq_getElem h1] at e5
     simpa using e5
   subst ecs;exact⟨(hE hx3).1,.inl ⟨z,ra,m.length,rc,ty,rfl,e2,rfl,by omega,G3,hbs (by omega) hx3 hw3 fun i l hi hl=>hbo (i+1) (LK+i) l (hlk i hi) (by simpa using hl)⟩⟩)
  refine hW.mono ?_
  have fin:∀ {w2 w'':World} {k:Int},(bs.length=bxs.length∧∃ G3,WFin G w (bs.map fun b=>b.map (CV.ren (back (dD bxs)))) G3 w2)→w2.heap.size≤w''.heap.size→w''.os=w2.os→w''.output=w2.output→w''.tape=w2.tape →
    (∀ b,b<w2.heap.size→b≠w.heap.size→w''.heap[b]? = w2.heap[b]?)→∃ G',Ext G w G' w''∧WI G' w''∧REnd bxs.length G' w'' (.returned (.int .i64 k)) (.ret (.c (.pv (.int .i64 k))) (j0 bxs bs)):=fun {w2 w'' k} ⟨hln,G3,hF⟩ h1 h2 h3 h4 h5=>by
   obtain⟨k1,k2,k3⟩:=Ht hw hge hF h1 h2 h3 h4 h5;refine⟨_,k1,k2,_,rfl,.int _ _,by rw[hwB];simpa using hln,?_⟩
   rw[hwB];exact k3
  rintro e w'' (⟨w1,w2,⟨hn,hR⟩,rfl,rfl⟩|⟨n,w1,w2,⟨hn,hR⟩,hne,rfl,rfl⟩|⟨_,_,hf,_⟩)
  ·have:m.isEmpty=true:=by
    cases m with
    | nil=>rfl
    | cons _ _=>simp at hn
   rw[this,if_pos rfl];exact fin hR (by rw[jY];exact Nat.le_refl _) rfl rfl rfl fun b _ h2=>eS _ _ _ (by simpa using h2)
  ·have:m.isEmpty=false:=by
    cases m with
    | nil=>exact absurd hn hne
    | cons _ _=>rfl
   rw[this,if_neg (by simp)]
   exact fin hR (by rw[jY,bK];omega) rfl rfl rfl fun b hb h2=>(eS _ _ _ (by simpa using h2)).trans (cv _ _ _ hb)
  ·exact hf.elim
 ·have hW:=sF x g fn hfn hnm hbd vs w Tr (fun _ _ _=>False) (fun _ w2=>bs.length=bxs.length∧∃ G3,WFin G w (bs.map fun b=>b.map (CV.ren (back (dD bxs)))) G3 w2) hT' (fun a n cc w1 hTr1 k0=>by
   refine(hD a n cc w1 hTr1).mono ?_
   rintro e w2 ⟨G3,hx3,hw3,hb3,z,rfl,hrn,hln,hbo⟩
   rw[List.length_cons,hll] at hln;have hz:RP G3.I (.ifa 115 []) z:=hrn
   cases hz
   exact⟨(hE hx3).1,.inr ⟨rfl,by omega,G3,hbs (by omega) hx3 hw3 fun i l hi hl=>hbo (i+1) (LK+i) l (hlk i hi) (by simpa using hl)⟩⟩)
  refine hW.mono ?_
  rintro e w'' (⟨_,_,hf,_⟩|⟨_,_,_,hf,_⟩|⟨w1,w2,⟨hln,G3,hF⟩,rfl,rfl⟩)
  ·exact hf.elim
  ·exact hf.elim
  ·obtain⟨k1,k2,k3⟩:=Ht (w'':=(w2.alloc (.cells #[] 115)).setCell ⟨w.heap.size,0,none⟩ (.int .i64 40)) hw hge hF (by rw[jY,bK];omega) rfl rfl rfl fun b hb h2=>(eS _ _ _ (by simpa using h2)).trans (cv _ _ _ hb)
   refine⟨_,k1,k2,_,rfl,.int _ _,by rw[hwB];simpa using hln,?_⟩
   rw[hwB];exact k3
end Go.Abs
namespace Go.Abs
open Go Go.Proofs Go.RowKit
set_option maxRecDepth 10000
def parse1P:List AV→List (List CV)→Plan
 | [.c (.loc s 0),.c (.loc t 0)],[[.pv (.sl m)],[.own e c]] =>
  if s=100000∧t=100001 then
   .call 47 [.c (.loc 100000 0)] [[.pv (.sl m)]] fun r=>match r with
    | .pan (.pv p) [[.pv (.sl m2)]]=>.done (.pan (.pv p) [[.pv (.sl m2)],[.top]])
    | .ret (.agg [.pv (.sl q),.pv (.str z)]) [[.pv (.sl m2)]] =>
     if (e=47∨c.isEmpty=true)∧lens 2 c=true∧c.length+1<cw then .done (.ret (.tup []) [[.pv (.sl m2)],[.own 47 (c++[[.sl q,.str z]])]]) else .fail
    | _=>.fail
  else .fail
 | _,_=>.fail
noncomputable def K1 (good:FuncId→Bool):Cfg := { P:=Tryz.prog,pr:=fun _=>none,keep:=fun _ _=>([],[]),ownRet:=fun _=>false,good:=good,hook:=fun _ _=>false }
def p1A : Oper := { dst := some 3, op := Op.load 31 (Operand.tmp 1), type := 31, pos := "sels.go:301", after := #[], guard := none }
def p1B : Oper := { dst := some 4, op := Op.move (Operand.tmp 0), type := 72, pos := "sels.go:301", after := #[], guard := none }
def p1C : Oper := { dst := some 5, op := Op.call { callee := Callee.value (Operand.func 47), args := #[Operand.tmp 4], argTypes := #[72] }, type := 47, pos := "sels.go:301", after := #[{ on := 1, ground := Ground.data }], guard := none }
def p1D:List Oper:=[
  { dst := some 6, op := Op.buildSlice 31 1 #[(0, Operand.tmp 5)], type := 31, pos := "sels.go:301", after := #[{ on := 2, ground := Ground.data }], guard := none },
  { dst := some 7, op := Op.call { callee := Callee.builtin Builtin.append, args := #[Operand.tmp 3, Operand.tmp 6], argTypes := #[31, 31] }, type := 31, pos := "sels.go:301",
    after:=#[{ on:=0,ground:=Ground.data }, { on:=3,ground:=Ground.data }, { on:=2,ground:=Ground.chain }],guard:=none },
  { dst := none, op := Op.store 31 (Operand.tmp 1) (Operand.tmp 7), type := 0, pos := "sels.go:301",
    after:=#[{ on:=4,ground:=Ground.data }, { on:=4,ground:=Ground.chain }, { on:=0,ground:=Ground.phase }, { on:=1,ground:=Ground.phase }, { on:=2,ground:=Ground.phase }, { on:=3,ground:=Ground.phase }, { on:=4,ground:=Ground.phase }],guard:=none }]
def p1Ops:Array Oper:=(p1A::p1B::p1C::p1D).toArray
theorem ry:Tryz.f46.body=some (Code.region 0 p1Ops true):=rfl
theorem MB:fW (fun _=>false) (Code.region 0 p1Ops true)=true:=by kernel_rfl
theorem Cp:bz p1Ops.toList=[3]:=rfl
section
variable {good:FuncId→Bool} {call:CallF} {G:Gh} {w:World} {S:St} {a:Act} {Q:Exit→Act→World→Prop}
structure P1S (S:St) (m:List (List PV)):Prop where
 nt:S.nt=8
 s0:S.sl 0=.c (.loc 100000 0)
 s1:S.sl 1=.c (.loc 100001 0)
 b0:S.bx 100000=some [.pv (.sl m)]
 bn:∀ s,s<LK→S.bx s=none
theorem yv {m:List (List PV)} {e:TypeId} {c:List (List PV)} (h:P1S S m) (hb:S.bx 100001=some [.own e c]):∃ S',ce (K1 good) call p1Ops.toList p1A S=some (.norm,S')∧P1S S' m∧S'.sl 4=S.sl 4∧∃ v,S'.bx 100001=some [v]:=by
 have hsh:dF Tryz.prog 31=some none:=by kernel_rfl
 have hP:(K1 good).P=Tryz.prog:=rfl
 refine⟨{ sl:=upd S.sl 3 (.c (.own e c)),bx:=upd S.bx 100001 (some [(CV.own e c).deg]),nt:=S.nt },by
  unfold ce;simp only[cF,p1A,Cp,c8,opd,h.s1,cz,hP,hsh,hb,cT,List.getElem?_cons_zero,AV.isIter]
  simp[St.degAt,St.put,h.nt,aM,c9,CV.plain],⟨h.nt,h.s0,h.s1,h.b0,fun s hs => ?_⟩,rfl,_,rfl⟩
 have:s≠100001:=by unfold LK at hs;omega
 simp[upd,this,h.bn s hs]
theorem yC {m:List (List PV)} (h:P1S S m):∃ S',ce (K1 good) call p1Ops.toList p1B S=some (.norm,S')∧P1S S' m∧S'.sl 4=.c (.loc 100000 0)∧S'.bx 100001=S.bx 100001:=by
 refine⟨{ sl:=upd S.sl 4 (.c (.loc 100000 0)),bx:=S.bx,nt:=S.nt },by
  unfold ce;simp only[cF,p1B,Cp,c8,opd,h.s0,bS,AV.isIter,steal,cR,cT];simp[St.degAt,St.put,h.nt,aM],⟨h.nt,h.s0,h.s1,h.b0,h.bn⟩,rfl,rfl⟩
theorem HO {m m2:List (List PV)} {p:PV} (hg:good 47=true) (h:P1S S m) (h4:S.sl 4=.c (.loc 100000 0))
  (hc:call 47 [.c (.loc 100000 0)] [[.pv (.sl m)]]=some (.pan (.pv p) [[.pv (.sl m2)]])) :
  ∃ S',ce (K1 good) call p1Ops.toList p1C S=some (.pan (.pv p),S')∧P1S S' m2∧S'.bx 100001=S.bx 100001:=by
 have hG:(K1 good).good=good:=rfl
 have hO:∀ f,(K1 good).ownRet f=false:=fun _=>rfl
 refine⟨{ sl:=S.sl,bx:=upd S.bx 100000 (some [.pv (.sl m2)]),nt:=S.nt },by
  unfold ce;simp only[cF,p1C,c8,opd,h4,co,cO,hG,hO,hg,if_true,List.map_cons,List.map_nil,List.append_nil,List.all_cons,List.all_nil,AV.flat,CV.flat,Bool.and_true,List.flatMap_cons,List.flatMap_nil,AV.ptrs,CV.ptrs,dedup,List.contains_nil,bw,h.b0,AV.deg,CV.deg,AV.ren,CV.ren,lend,idx,Option.map_some,LK,Nat.add_zero,Bool.false_eq_true,if_false,hc];simp[cX,CV.ren,aM],⟨h.nt,h.s0,h.s1,rfl,fun s hs => ?_⟩,rfl⟩
 have:s≠100000:=by unfold LK at hs;omega
 simp[upd,this,h.bn s hs]
def p1Fin (m2:List (List PV)):St := { sl:=fun _=>.c .top,bx:=fun k=>if k=100000 then some [.pv (.sl m2)] else if k=100001 then some [.top] else none,nt:=8 }
theorem Lp {m2:List (List PV)} {v:CV} (h:P1S S m2) (hb:S.bx 100001=some [v]) (hf:FR G w S a):FR G w (p1Fin m2) a:=by
 refine⟨by rw[hf.size,h.nt];rfl,fun t=>trivial,fun s l hl => ?_,fun s hs hlk=>hf.nob s (h.bn s hlk) hlk⟩
 have hl:(if s=100000 then some [CV.pv (.sl m2)] else if s=100001 then some [CV.top] else none)=some l:=hl
 split at hl
 ·rename_i e;cases hl;exact hf.box s _ (by rw[e];exact h.b0)
 split at hl
 ·rename_i e;cases hl;obtain⟨b,cs,ty,h1,h2,⟨h3,_⟩,h4⟩:=hf.box s _ (by rw[e];exact hb)
  refine⟨b,cs,ty,h1,h2,⟨h3,?_⟩,fun k v' hv => ?_⟩
  ·first|trivial|exact fun h=>by simp at h|simp[Bld]
  ·cases k with
   | zero =>
    cases hv
    obtain⟨x,h5,h6⟩:=h4 0 v rfl;exact⟨x,h5,h6.one⟩
   | succ k=>simp at hv
 ·cases hl
theorem Ls (hs:Sound (K1 good) call) (hm:Tryz.prog.follows .mixedOrders=true) {m m2:List (List PV)} {p:PV} {e:TypeId} {c:List (List PV)} (hg:good 47=true)
  (hc:call 47 [.c (.loc 100000 0)] [[.pv (.sl m)]]=some (.pan (.pv p) [[.pv (.sl m2)]]))
  (h:P1S S m) (hb:S.bx 100001=some [.own e c]) (hf:FR G w S a) (hw:WI G w) (hp:Post G w a.defers (.pan (.pv p),p1Fin m2) Q):(Code.region 0 p1Ops true).wp Tryz.prog Q a w:=by
 refine wp_region_any hm ?_
 obtain⟨gd,hwd⟩:=gP hw;have hfd:=hf.gr0 hw gd rfl
 have hpd:Post G w.drew a.defers (.pan (.pv p),p1Fin m2) Q:=fun a2 w2 G2 h1 h2 h3 h4=>hp a2 w2 G2 (gd.ext.trans h1) h2 h3 h4
 have atC:∀ {S1:St} {G1:Gh} {w1:World} {a1:Act} (N:Act→World→Prop),P1S S1 m→S1.sl 4=.c (.loc 100000 0)→(∃ v,S1.bx 100001=some [v])→FR G1 w1 S1 a1→WI G1 w1→Post G1 w1 a1.defers (.pan (.pv p),p1Fin m2) Q→wpOp Tryz.prog p1Ops Q 2 N a1 w1:=by
  intro S1 G1 w1 a1 N k1 k2 k3 k4 k5 k6;obtain⟨S2,e1,e2,e3⟩:=HO (call:=call) hg k1 k2 hc;obtain⟨v,k3⟩:=k3;exact kB (K:=K1 good) (ops:=p1Ops.toList) (o:=p1C) (r:=(.pan (.pv p),S2)) hs e1 k4 k5 rfl N fun a2 w2 G2 j1 j2 j3 j4=>k6 a2 w2 G2 j1 j2 (Lp e2 (by rw[e3];exact k3) j3) j4
 have r0:Region.ready .any p1Ops (Array.replicate 6 false)=[0,1]:=by kernel_rfl
 have r1:Region.ready .any p1Ops ((Array.replicate 6 false).setIfInBounds 0 true)=[1]:=by kernel_rfl
 have r2:Region.ready .any p1Ops ((Array.replicate 6 false).setIfInBounds 1 true)=[0,2]:=by kernel_rfl
 have r3:Region.ready .any p1Ops (((Array.replicate 6 false).setIfInBounds 0 true).setIfInBounds 1 true)=[2]:=by kernel_rfl
 have r4:Region.ready .any p1Ops (((Array.replicate 6 false).setIfInBounds 1 true).setIfInBounds 0 true)=[2]:=by kernel_rfl
 show wpAny Tryz.prog .any p1Ops Q 6 (Array.replicate 6 false) a w.drew
 refine⟨fun h0=>(by rw[r0] at h0;cases h0),fun i hi => ?_⟩
 rw[r0] at hi;simp only[List.mem_cons,List.not_mem_nil,or_false] at hi;rcases hi with rfl|rfl
 ·obtain⟨S1,e1,e2,e3,e4⟩:=yv (good:=good) (call:=call) h hb;refine kB (K:=K1 good) (ops:=p1Ops.toList) (r:=(.norm,S1)) hs e1 hfd hwd rfl _ fun a1 w1 G1 j1 j2 j3 j4 => ?_
  refine⟨fun h0=>(by rw[r1] at h0;cases h0),fun i hi => ?_⟩
  rw[r1] at hi;obtain rfl:=List.mem_singleton.1 hi;obtain⟨S2,f1,f2,f3,f4⟩:=yC (good:=good) (call:=call) e2;refine kB (K:=K1 good) (ops:=p1Ops.toList) (r:=(.norm,S2)) hs f1 j3 j2 rfl _ fun a2 w2 G2 l1 l2 l3 l4 => ?_
  refine⟨fun h0=>(by rw[r3] at h0;cases h0),fun i hi => ?_⟩
  rw[r3] at hi;obtain rfl:=List.mem_singleton.1 hi;exact atC _ f2 f3 (by rw[f4];exact e4) l3 l2 (by rw[l4,j4];exact hpd.ext (j1.trans l1))
 ·obtain⟨S1,e1,e2,e3,e4⟩:=yC (good:=good) (call:=call) h;refine kB (K:=K1 good) (ops:=p1Ops.toList) (r:=(.norm,S1)) hs e1 hfd hwd rfl _ fun a1 w1 G1 j1 j2 j3 j4 => ?_
  refine⟨fun h0=>(by rw[r2] at h0;cases h0),fun i hi => ?_⟩
  rw[r2] at hi;simp only[List.mem_cons,List.not_mem_nil,or_false] at hi;rcases hi with rfl|rfl
  ·obtain⟨S2,f1,f2,f3,f4⟩:=yv (good:=good) (call:=call) e2 (by rw[e4];exact hb)
   refine kB (K:=K1 good) (ops:=p1Ops.toList) (r:=(.norm,S2)) hs f1 j3 j2 rfl _ fun a2 w2 G2 l1 l2 l3 l4 => ?_
   refine⟨fun h0=>(by rw[r4] at h0;cases h0),fun i hi => ?_⟩
   rw[r4] at hi;obtain rfl:=List.mem_singleton.1 hi;exact atC _ f2 (by rw[f3];exact e3) f4 l3 l2 (by rw[l4,j4];exact hpd.ext (j1.trans l1))
  ·exact atC _ e2 e3 ⟨_,by rw[e4];exact hb⟩ j3 j2 (by rw[j4];exact hpd.ext j1)
end
namespace P1
attribute [local go_sem] c7 cD bW bZ db cJ cE a7 ck ce cF c8 bS opd avOf cvOf St.degAt St.put okPV d6 okAV du dv dt cU aM if_true Bool.false_eq_true if_false Option.map_some Option.map_none Option.bind_some Option.bind_none dY dV upd List.toList_toArray cR steal bz mvB dE cV cT AV.deg CV.deg AV.gv AV.isIter cN cI bU List.length_nil List.length_cons List.filterMap_cons List.filterMap_nil beq_iff_eq List.getElem?_cons_zero List.getElem?_cons_succ Option.getD_some Bool.false_and Bool.and_false Bool.and_self co cO bw lend back idx dedup AV.ren CV.ren TV.ren AV.ptrs CV.ptrs cX AV.flat CV.flat cz cg bc c9 dk eo cj aY cm bt bH cf br eF CV.pv? content bA ownT bd reps pvs chunks cd leave eB cK dr bT bv TV.deg TV.av LK CV.plain CV.noBld c5 eA bound List.map_cons List.map_nil List.all_cons List.all_nil List.any_cons List.any_nil List.contains_cons List.contains_nil List.elem_cons List.elem_nil List.cons_append List.nil_append List.append_nil List.flatMap_cons List.flatMap_nil List.zip_cons_cons List.zip_nil_left List.zip_nil_right List.take_succ_cons List.take_zero List.take_nil List.drop_succ_cons List.drop_zero List.drop_nil List.isEmpty_nil List.isEmpty_cons Bool.and_true Bool.true_and Bool.or_true Bool.true_or Bool.or_false Bool.false_or Bool.not_true Bool.not_false Nat.add_zero Nat.zero_add Option.isNone_none Option.isNone_some Option.getD_none true_and and_true not_true_eq_false not_false_eq_true decide_true decide_false Nat.le_refl and_self Bool.not_eq_true Nat.sub_self or_true true_or Option.some.injEq List.length_map List.nil_eq and_false false_and AV.live CV.live CV.liveIn bg Option.orElse_some Option.orElse_none head bm bh Int.lt_irrefl List.length_append ite_self dZ cA dc bC Key.clash Key.sees Key.writes Nat.lt_irrefl gt_iff_lt cH dH false_or or_false beq_self_eq_true Bool.true_beq Bool.false_beq
theorem lM:dF Tryz.prog 31=Option.some Option.none:=by kernel_rfl
theorem aQ:cZ Tryz.prog 31=Option.some (Go.Abs.Desc.sl 47 Bool.false):=by kernel_rfl
theorem fG:szOf Tryz.prog 47=Option.some 2:=by kernel_rfl
theorem a6:zeroCells Tryz.prog 47=Option.some [Go.Abs.CV.nils,Go.Abs.CV.pv (Go.Abs.PV.str [])]:=by kernel_rfl
theorem kP:iQ Tryz.prog 31=Option.some (47,2):=by kernel_rfl
theorem BT:szOf Tryz.prog 31=Option.some 1:=by kernel_rfl
theorem FA (a b:PV):lens 2 [[a,b]]=true:=rfl
theorem KB {good:FuncId→Bool} {call:CallF} (hg:good 47=true) {m m2 q c:List (List PV)} {z:List UInt8} {e:TypeId}
  (hc:call 47 [.c (.loc 100000 0)] [[.pv (.sl m)]]=some (.ret (.agg [.pv (.sl q),.pv (.str z)]) [[.pv (.sl m2)]]))
  (he:e=47∨c.isEmpty=true) (hl:lens 2 c=true) (hlen:c.length+1<cw) :
  leave (K1 good) 46 Tryz.f46 2 (dq (K1 good) call 0 46 (.region 0 p1Ops true) (cd 8 [.c (.loc 100000 0),.c (.loc 100001 0)] [[.pv (.sl m)],[.own e c]]))=some (.ret (.tup []) [[.pv (.sl m2)],[.own 47 (c++[[.sl q,.str z]])]]):=by
 have hP:(K1 good).P=Tryz.prog:=rfl
 have hG:(K1 good).good=good:=rfl
 have hO:∀ f,(K1 good).ownRet f=false:=fun _=>rfl
 have hh:∀ f i,(K1 good).hook f i=false:=fun _ _=>rfl
 have hr:Tryz.f46.results=#[]:=rfl
 simp only[dq,p1Ops,p1A,p1B,p1C,p1D,hh,hP,hG,hO,go_sem,reduceLT,reduceCtorEq,reduceEqDiff,Nat.reduceBEq,reduceAdd,reduceSub,reduceLeDiff,reduceMul,lM,ao (len:=1) aQ fG a6 ⟨rfl,by decide,by decide⟩,bB kP,aX aQ,BT,hr,hg,hc,he,hl,hlen,FA]
 rw[aR (by kernel_rfl)]
 simp only[go_sem,reduceEqDiff,reduceSub,reduceLeDiff]
end P1
open Classical in
/-- how the closure's text ends where what it calls goes up -/
noncomputable def p1Ex (m m2:List (List PV)) (p:PV) (e:TypeId) (c:List (List PV)):Code→St→Option (Out×St):=fun _ S=>if P1S S m∧S.bx 100001=some [.own e c] then some (.pan (.pv p),p1Fin m2) else none
theorem E6 {good : FuncId → Bool} (hgd : ∀ g, good g = true → ∃ fn, Tryz.prog.funcs[g]? = some fn ∧ fn.name ≠ "runtime.NumGoroutine" ∧ fn.body.isSome = true) (hg : good 47 = true) {call : CallF}
  (hc:∀ g args bxs r,good g=true→call g args bxs=some r→Contract Tryz.prog g args bxs r) {args:List AV} {bxs:List (List CV)} {r:Res} (h:(parse1P args bxs).run call=some r) :
  Contract Tryz.prog 46 args bxs r:=by
 have hs:Sound (K1 good) call:=⟨hgd,hc⟩
 have hm:Tryz.prog.follows .mixedOrders=true:=by kernel_rfl
 unfold parse1P at h;split at h
 case h_2=>cases h
 rename_i s t m e c;split at h
 case isFalse=>cases h
 rename_i hst;obtain⟨rfl,rfl⟩:=hst;simp only[Plan.run] at h;split at h
 case h_2=>cases h
 rename_i r1 hr1;split at h
 ·rename_i p m2;simp only[Plan.run,Option.some.injEq] at h;subst h;have hP:P1S (cd 8 [.c (.loc 100000 0),.c (.loc 100001 0)] [[.pv (.sl m)],[.own e c]]) m∧(cd 8 [.c (.loc 100000 0),.c (.loc 100001 0)] [[.pv (.sl m)],[.own e c]]).bx 100001=some [.own e c] :=
   ⟨⟨rfl,rfl,rfl,rfl,fun s hs=>by show (if LK≤s then _ else none)=none;rw[if_neg (by omega)]⟩,rfl⟩
  have hx:enter (K1 good) (p1Ex m m2 p e c) 46 [.c (.loc 100000 0),.c (.loc 100001 0)] [[.pv (.sl m)],[.own e c]]=some (.pan (.pv p) [[.pv (.sl m2)],[.top]]):=by
   unfold enter;have hf:(K1 good).P.funcs[46]? = some Tryz.f46:=Tryz.func46
   have hn:Tryz.f46.ntmps=8:=rfl
   rw[hf];simp only[ry,hn];rw[if_pos ⟨by simp,by simp[LK]⟩]
   unfold p1Ex;rw[if_pos hP];rfl
  exact tJ (K:=K1 good) hx fun fn b hfn hb {Q S G w a r} hr hf hw hp=>by
   have hfn:Tryz.prog.funcs[46]? = some fn:=hfn
   rw[Tryz.func46] at hfn;cases hfn;rw[ry] at hb;cases hb;unfold p1Ex at hr;split at hr
   case isFalse=>cases hr
   rename_i hPS;cases hr;exact Ls hs hm hg hr1 hPS.1 hPS.2 hf hw hp
 ·rename_i q z m2;split at h
  case isFalse=>cases h
  rename_i hE;simp only[Plan.run,Option.some.injEq] at h;subst h;obtain⟨he,hl,hlen⟩:=hE;have hx:enter (K1 good) (dq (K1 good) call 0 46) 46 [.c (.loc 100000 0),.c (.loc 100001 0)] [[.pv (.sl m)],[.own e c]]=some (.ret (.tup []) [[.pv (.sl m2)],[.own 47 (c++[[.sl q,.str z]])]]):=by
   unfold enter;have hf:(K1 good).P.funcs[46]? = some Tryz.f46:=Tryz.func46
   have hn:Tryz.f46.ntmps=8:=rfl
   rw[hf];simp only[ry,hn];rw[if_pos ⟨by simp,by simp[LK]⟩]
   exact P1.KB hg hr1 he hl hlen
  exact tJ (K:=K1 good) hx fun fn b hfn hb {Q S G w a r} hr hf hw hp=>by
   have hfn:Tryz.prog.funcs[46]? = some fn:=hfn
   rw[Tryz.func46] at hfn;cases hfn;rw[ry] at hb;cases hb;exact CH hs hm 0 _ _ hr MB hf hw hp
 ·cases h
end Go.Abs
namespace Go.Abs
open Go Go.Proofs Go.RowKit Go.Shelf
theorem zE (n:Nat) (w:World) (hn:n≤1000000000) :
  Calls Tryz.prog 226 #[.slice none 0 0,.int .i64 n] w fun e w'=>∃ v',e=.returned v'∧w'.ownsRow w.heap.size 93 5 v' 0 []∧Below w.heap.size w w':=by
 obtain⟨i,z,hi,hz,hzs,hs,hb⟩:=s9;by_cases h0:n=0
 ·subst h0;refine(Any8.slices_Grow_room Tryz.growV none 0 0 0 w (Nat.le_refl _) (by omega) (by omega) (by omega)).mono ?_
  rintro e w' ⟨rfl,rfl⟩
  exact⟨_,rfl,World.ownsRow_nil _ _ _ _,.refl _ _⟩
 ·refine(Any8.slices_Grow_grow Tryz.growV i z hi hz (by omega) none 0 0 n [] w (Nat.le_refl _) (by omega) (by rw[hb];omega) (by omega) (by simp) (fun _=>rfl) (fun a h=>by cases h)).mono ?_
  rintro e w' ⟨rfl,rfl⟩
  have hg:0+n≤grownCap w (0+n) 0 93:=grownCap_ge w _ _ _
  have hm:=grownCap_le_maxLen w (0+n) 0 93 (by unfold maxLen;omega)
  have:=World.ownsRow_made (base:=w.heap.size) (e:=93) (size:=5) w.drew (([]:List Value).toArray++Builtin.zeroCells z.cells (0+n - 0)++Builtin.zeroCells z.cells (grownCap w (0+n) 0 93 - (0+n))) _ (Nat.le_refl _) hm (by
   simp only[Array.size_append,size_zeroCells,hzs,List.size_toArray,List.length_nil];omega)
  exact⟨_,rfl,this,((Below.refl _ w).drew).alloc (Nat.le_refl _) _⟩
structure Pt where
 ad:Addr
 n:Nat
 cap:Nat
 row:List Value
def gj:List Pt→Nat
 | []=>0
 | p::ps=>p.n+gj ps
def lu:List Pt→List Value
 | []=>[]
 | p::ps=>p.row++lu ps
theorem jk:∀ {ps:List Pt} {k:Nat} {p:Pt},ps[k]? = some p→gj (ps.take (k+1))=gj (ps.take k)+p.n
 | [],_,_,h=>by simp at h
 | q::ps,0,p,h=>by
  simp at h;subst h;simp[gj]
 | q::ps,k+1,p,h=>by
  have:=jk (ps:=ps) (k:=k) (p:=p) (by simpa using h)
  simp only[List.take_succ_cons,gj];omega
theorem qo:∀ {ps:List Pt} {k:Nat} {p:Pt},ps[k]? = some p→lu (ps.take (k+1))=lu (ps.take k)++p.row
 | [],_,_,h=>by simp at h
 | q::ps,0,p,h=>by
  simp at h;subst h;simp[lu]
 | q::ps,k+1,p,h=>by
  have:=qo (ps:=ps) (k:=k) (p:=p) (by simpa using h)
  simp only[List.take_succ_cons,lu,this,List.append_assoc]
theorem pY:∀ (ps:List Pt) (k:Nat),gj (ps.take k)≤gj ps
 | [],k=>by simp
 | q::ps,0=>by simp[gj]
 | q::ps,k+1=>by
  have:=pY ps k
  simp only[List.take_succ_cons,gj];omega
structure Lies (w:World) (ba:Addr) (i:Nat) (p:Pt):Prop where
 cell:w.cell? (ba.add i)=some (.slice (some p.ad) p.n p.cap)
 len:p.row.length=p.n*5
 row:∀ j u,p.row[j]? = some u→w.cell? (p.ad.add j)=some u
 one:∀ u∈p.row,u.oneCell'=true
set_option maxRecDepth 100000 in
theorem qF (ba:Addr) (cap:Nat) (ps:List Pt) (w:World) (h:∀ i p,ps[i]? = some p→Lies w ba i p) (hk:ps.length≤1000000000) (hn:gj ps≤1000000000) :
  Calls Tryz.prog 205 #[.slice (some ba) ps.length cap] w fun e w'=>∃ v',e=.returned v'∧w'.ownsRow w.heap.size 93 5 v' (gj ps) (lu ps)∧Below w.heap.size w w':=by
 obtain⟨i,z,hi,hz,hzs,hs,hb⟩:=s9
 go_enter Tryz.func205,Tryz.ntmps205
 go_wp2
 go_loopw [3,11] (fun v3 v11 wr=>∃ k:Nat,k≤ps.length∧v3=.int .i64 (gj (ps.take k):Nat)∧v11=.int .i64 k∧wr=w) (fun _ v11 _=>ps.length - (RowKit.intOf v11).toNat)
 case atStart=>exact⟨0,Nat.zero_le _,rfl,rfl,rfl⟩
 case round =>
  obtain⟨k,hkl,rfl,rfl,hw⟩:=hrel;obtain rfl:w=wr:=hw.symm;clear hw;by_cases hlt:k<ps.length
  ·obtain⟨p,hp⟩:∃ p,ps[k]? = some p:=⟨_,List.getElem?_eq_getElem hlt⟩
   have hL:=(h k p hp).cell
   have hle:=pY ps (k+1)
   rw[jk hp] at hle
   go_wp2
   go_roundw
   case rel=>exact⟨k+1,by omega,by rw[jk hp];go_num,by go_num,trivial⟩
   case measure=>simp[RowKit.intOf];omega
  ·obtain rfl:k=ps.length:=by omega
   rw[List.take_length];have hgw:=zE (gj ps) w hn
   go_wp2_with (go_at_call 226;refine hgw.mono ?_)
   rintro e w1 ⟨v6,rfl,hown,hbel⟩
   go_wp2
   go_loopw [6,27] (fun v6 v27 wr=>∃ k:Nat,k≤ps.length∧v27=.int .i64 k∧Hid (wr.ownsRow w.heap.size 93 5 v6 (gj (ps.take k)) (lu (ps.take k))∧Below w.heap.size w wr)) (fun _ v27 _=>ps.length - (RowKit.intOf v27).toNat)
   case atStart=>exact⟨0,Nat.zero_le _,rfl,hown,hbel⟩
   case round =>
    obtain⟨k,hkl2,rfl,HI⟩:=hrel;by_cases hlt2:k<ps.length
    ·obtain⟨p,hp⟩:∃ p,ps[k]? = some p:=⟨_,List.getElem?_eq_getElem hlt2⟩
     have L:Hid (Lies w ba k p):=h k p hp
     have hold:∀ {a:Addr} {v:Value},w.cell? a=some v→wr.cell? a=some v:=fun {a v} e=>by
      rw[HI.out.2.cell (World.block_lt_of_cell? w a e)];exact e
     have hc:=hold L.out.cell
     have hle:=pY ps (k+1)
     rw[jk hp] at hle
     go_wp2_with (at_builtin;refine wpList_append_own _ rfl _ _ 23 rfl w.heap.size 93 i z 5 64 Tryz.underlying23 hi hz hs hb hzs (by decide) _ _ _ rfl HI.out.1 p.ad p.n p.cap p.row rfl L.out.len ?_ L.out.one ?_ ?_ ?_ ?_)
     ·exact fun j u e=>hold (L.out.row j u e)
     ·simp only[maxLen];omega
     ·omega
     ·exact HI.out.2.size
     ·intro v' w3 hown3 hgrow hne;have hbl:Below w.heap.size w w3:=HI.out.2.grown hgrow HI.out.2.size (fun b e=>(HI.out.1.lt b e).1)
      have hr:Hid (w3.ownsRow w.heap.size 93 5 v' (gj (ps.take (k+1))) (lu (ps.take (k+1)))∧Below w.heap.size w w3):=by
       rw[jk hp,qo hp];exact⟨hown3,hbl⟩
      clear hown3 hgrow hne hbl
      go_wp2
      go_roundw
      case rel=>exact⟨k+1,by omega,by go_num,hr⟩
      case measure=>simp[RowKit.intOf];omega
    ·obtain rfl:k=ps.length:=by omega
     rw[List.take_length] at HI
     go_wp2
     go_ret
     exact⟨_,rfl,HI.out⟩
set_option maxRecDepth 100000 in
theorem yd (cap:Nat) (w:World) :
  Calls Tryz.prog 205 #[.slice none 0 cap] w fun e w'=>∃ v',e=.returned v'∧w'.ownsRow w.heap.size 93 5 v' 0 []∧Below w.heap.size w w':=by
 go_enter Tryz.func205,Tryz.ntmps205
 go_wp2
 go_loopw [3,11] (fun v3 v11 wr=>v3=.int .i64 0∧v11=.int .i64 0∧wr=w) (fun _ _ _=>0)
 case atStart=>exact⟨rfl,rfl,rfl⟩
 case round =>
  obtain⟨rfl,rfl,hw⟩:=hrel;obtain rfl:w=wr:=hw.symm;clear hw;have hgw:=zE 0 w (by omega)
  go_wp2_with (go_at_call 226;refine hgw.mono ?_)
  rintro e w1 ⟨v6,rfl,hown,hbel⟩
  have H:Hid (w1.ownsRow w.heap.size 93 5 v6 0 []∧Below w.heap.size w w1):=⟨hown,hbel⟩
  clear hown hbel
  go_wp2
  go_loopw [6,27] (fun x6 v27 wr=>Hid (x6=v6)∧v27=.int .i64 0∧wr=w1) (fun _ _ _=>0)
  case atStart=>exact⟨rfl,rfl,rfl⟩
  case round =>
   obtain⟨hx6,rfl,hw⟩:=hrel;cases hx6.out;obtain rfl:w1=wr:=hw.symm;clear hw
   go_wp2
   go_ret
   exact⟨_,rfl,H.out⟩
theorem Hy {I:Nat→Nat→Option Value} {w:World} (hw:∀ b o y,I b o=some y→w.cell? ⟨b,o,none⟩=some y):∀ {cs:List (List (List PV))} {ys:List Value},All2 (RP I) (cs.map PV.sl) ys→(∀ c∈cs,c≠[]∧∀ el∈c,el.length=5) →
  ∃ ps:List Pt,ps.length=cs.length∧(∀ (i:Nat) (p:Pt),ps[i]? = some p→ys[i]? = some (.slice (some p.ad) p.n p.cap)∧p.row.length=p.n*5∧(∀ (j:Nat) (u:Value),p.row[j]? = some u→w.cell? (p.ad.add j)=some u)∧∀ u∈p.row,u.oneCell'=true) ∧
   gj ps=cs.flatten.length∧All2 (RP I) cs.flatten.flatten (lu ps)
 | [],[],_,_=>⟨[],rfl,fun i p h=>by simp at h,rfl,.nil⟩
 | [],_::_,h,_=>by cases h
 | _::_,[],h,_=>by cases h
 | c::cs,y::ys,.cons h1 h2,hc=>by
  obtain⟨ps,k1,k2,k3,k4⟩:=Hy hw h2 fun c' h=>hc c' (List.mem_cons_of_mem _ h)
  obtain⟨hne,h5⟩:=hc c (by simp)
  obtain⟨pa,cap,rfl,_,hs⟩:=RP.slice_inv (show RP I (.sl c) y from h1)
  obtain⟨b,o,sz,rfl,hsz',hseg⟩:=hs hne;have e5:sz=5:=by
   cases c with
   | nil=>exact absurd rfl hne
   | cons el c=>rw[←hsz' el (by simp),h5 el (by simp)]
  subst e5;obtain⟨zs,hl,hI,hv⟩:=iT (by decide) h5 hseg
  refine⟨⟨⟨b,o,none⟩,c.length,cap,zs⟩::ps,by simp[k1],fun i p h => ?_,?_,?_⟩
  ·cases i with
   | zero =>
    simp at h;subst h;refine⟨rfl,hl,fun j u e => ?_,kt hv⟩
    have e':(⟨b,o,none⟩:Addr).add j=⟨b,o+j,none⟩:=by simp only[Addr.add];split<;>simp_all
    rw[e'];exact hw _ _ _ (hI j u e)
   | succ i=>exact k2 i p (by simpa using h)
  ·simp[gj,k3]
  ·rw[List.flatten_cons,List.flatten_append];exact hv.append k4
def AM:List PV→Option (List (List PV))
 | [.sl c]=>if c≠[]∧c.all (fun el=>el.length==5)=true then some c else none
 | _=>none
def lC:List (List PV)→Option (List (List (List PV)))
 | []=>some []
 | el::ls=>match AM el,lC ls with
  | some c,some cs=>some (c::cs)
  | _,_=>none
def pB:Prim
 | [.c (.pv (.sl ls))],[]=>match lC ls with
  | some cs=>if ls.length≤1000000000∧cs.flatten.length≤1000000000 then some (.c (.pv (.sl cs.flatten)),[]) else none
  | none=>none
 | _,_=>none
theorem o4:∀ {ls:List (List PV)} {cs:List (List (List PV))},lC ls=some cs→ls=cs.map (fun c=>[.sl c])∧∀ c∈cs,c≠[]∧∀ el∈c,el.length=5
 | [],cs,h=>by cases h;exact⟨rfl,fun c h=>by cases h⟩
 | el::ls,cs,h=>by
  rw[lC] at h;split at h
  case h_2=>cases h
  rename_i c cs' h1 h2;cases h;obtain⟨k1,k2⟩:=o4 h2;unfold AM at h1;split at h1
  case h_2=>cases h1
  split at h1
  case isFalse=>cases h1
  rename_i hc;cases h1;refine⟨by rw[k1];rfl,fun c' h' => ?_⟩
  rcases List.mem_cons.1 h' with rfl|h'
  ·exact⟨hc.1,fun el hel=>by simpa using List.all_eq_true.1 hc.2 el hel⟩
  ·exact k2 c' h'
theorem C4:∀ cs:List (List (List PV)),(cs.map fun c=>[PV.sl c]).flatten=cs.map PV.sl
 | []=>rfl
 | c::cs=>by rw[List.map_cons,List.flatten_cons,C4 cs];rfl
theorem BM {args:List AV} {bxs:List (List CV)} {x:AV×List (List CV)} (h:pB args bxs=some x):Contract Tryz.prog 205 args bxs (.ret x.1 x.2):=by
 unfold pB at h;split at h
 case h_2=>cases h
 rename_i ls;split at h
 case h_2=>cases h
 rename_i cs hcs;split at h
 case isFalse=>cases h
 rename_i hc;cases h;obtain⟨rfl,h5⟩:=o4 hcs;intro G w cargs hw hargs _ _ _;obtain⟨x,rfl,hx⟩:=gc hargs;obtain⟨pa,cap,rfl,_,hs⟩:=RP.slice_inv (show RP G.I (.sl (cs.map fun c=>[PV.sl c])) x from hx)
 by_cases hc0:cs=[]
 ·subst hc0;have fin:∀ {e:Ending} {w':World},(∃ v',e=.returned v'∧w'.ownsRow w.heap.size 93 5 v' 0 []∧Below w.heap.size w w')→∃ G',Ext G w G' w'∧WI G' w'∧REnd 0 G' w' e (.ret (.c (.pv (.sl (([]:List (List (List PV))).flatten)))) []):=by
   rintro e w' ⟨v',rfl,hown,hb⟩
   obtain⟨G',h1,h2,h3,_,_⟩:=o0 hw hb hown (c:=[]) rfl (fun el hel=>by cases hel) .nil
   exact⟨G',h1,h2,_,rfl,h3,rfl,fun i l h=>by simp at h⟩
  cases pa with
  | none=>exact(yd cap w).mono fun e w' h=>fin h
  | some ba=>exact(qF ba cap [] w (fun i p e=>by simp at e) (by simp) (by simp[gj])).mono fun e w' h=>fin h
 obtain⟨b,o,sz,rfl,hsz',hseg⟩:=hs (by simpa using hc0)
 have h1:∀ el∈cs.map (fun c=>[PV.sl c]),el.length=1:=fun el hel=>by
  obtain⟨c,_,rfl⟩:=List.mem_map.1 hel;rfl
 have e1:sz=1:=by
  cases cs with
  | nil=>exact absurd rfl hc0
  | cons c cs=>rw[←hsz' [PV.sl c] (by simp)];rfl
 subst e1;obtain⟨ys,hl,hI,hv⟩:=iT (by decide) h1 hseg
 rw[C4] at hv;obtain⟨ps,k1,k2,k3,k4⟩:=Hy (fun b o y e=>hw.cell b o y e) hv h5
 have hlen:(cs.map fun c=>[PV.sl c]).length=ps.length:=by rw[List.length_map,k1]
 rw[hlen];refine(qF ⟨b,o,none⟩ cap ps w (fun i p e => ?_) (by rw[←hlen];exact hc.1) (by rw[k3];exact hc.2)).mono ?_
 ·obtain⟨j1,j2,j3,j4⟩:=k2 i p e;refine⟨?_,j2,j3,j4⟩
  have e':(⟨b,o,none⟩:Addr).add i=⟨b,o+i,none⟩:=by simp only[Addr.add];split<;>simp_all
  rw[e'];exact hw.cell _ _ _ (hI i _ j1)
 ·rintro e w' ⟨v',rfl,hown,hb⟩
  obtain⟨G',h1,h2,h3,_,_⟩:=o0 hw hb hown k3.symm (fun el hel=>by
   obtain⟨c,hc',hel'⟩:=List.mem_flatten.1 hel;exact(h5 c hc').2 el hel') k4
  exact⟨G',h1,h2,_,rfl,h3,rfl,fun i l h=>by simp at h⟩
end Go.Abs
namespace Go.Abs
open Go Go.Proofs
def ML:List (Nat×Nat×List Nat×List Nat):=[
 (15,3,[0,1,5,6],[]),
 (15,7,[0,1,5,6,7],[]),
 (31,3,[1,3,7,8,9],[1,3]),
 (29,3,[3,6,7,8],[]),
 (22,4,[0,1,5],[]),
 (22,9,[0,1,5,6],[]),
 (99,2,[3],[6]),
 (33,3,[0,3,4],[]),
 (58,3,[0,3,4],[]),
 (43,2,[0,1,2,7],[]),
 (35,1,[0,8,9,10],[100000]),
 (63,1,[0,6,7,8],[100000]),
 (60,12,[0,1,5,39,40,41],[]),
 (60,22,[1,8,63,64,65],[8]),
 (18,4,[4,5,6],[]),
 (52,4,[0,1,5],[]),
 (65,5,[0,4,6],[4]),
 (231,5,[5,15,16,17],[]),
 (34,2,[0,3,4],[]),
 (34,4,[0,3,4],[]),
 (26,4,[0,1,5,6,7],[]),
 (48,4,[2,4,5,6],[2,5,10]),
 (48,6,[2,4,5,7],[2,5,7,10]),
 (182,2,[0,1,2,7],[100000]),
 (186,6,[0,2,3,4,29],[100000]),
 (115,2,[0,5],[]),
 (117,2,[0,1,5],[]),
 (118,1,[0,1],[]),
 (120,4,[0,1,4,6,7],[4]),
 (64,2,[0,2,3,8,9],[8,9]),
 (142,3,[3,4],[]),
 (145,3,[0,2,4,5],[2,9]),
 (146,2,[0,3],[100000]),
 (214,15,[0,1,5,6,7,8,9,10],[]),
 (230,12,[0,6,8],[6]),
 (230,18,[1,45],[]),
 (196,1,[0,1,4],[]),
 (197,11,[0,1,3,4,10,11,12,13,14,15,16],[12]),
 (197,18,[0,1,3,4,10,11,12,13,17],[12]),
 (232,5,[0,1,5,6,7,8,9],[]),
 (232,11,[0,1,5,6,7,8,10],[]),
 (199,5,[0,7,8,9],[]),
 (199,12,[0,7,8,9,12],[]),
 (199,25,[0,7,8,9,14,15],[]),
 (199,29,[0,7,8,9,14,15,16],[]),
 (199,38,[175],[]),
 (128,2,[0,2,4],[2]),
 (236,3,[0,4,5],[]),
 (236,8,[4,6,7,8],[]),
 (101,5,[0,3,4],[]),
 (59,3,[0,3,4],[]),
 (42,4,[0,1,2,7],[]),
 (148,2,[0,1,2,7],[100000,100001]),
 (70,1,[0],[]),
 (70,3,[0],[]),
 (25,3,[0,1,5,6],[]),
 (137,2,[0,1,7,8],[100000]),
 (5,18,[9,11,13,14,15,16],[]),
 (8,11,[1,5,7,8,9,10],[9]),
 (17,3,[4,9,10,11],[4]),
 (24,2,[0,3],[]),
 (24,7,[0,3,4,5,6],[4]),
 (47,3,[0,2,3,4],[2,3,100000]),
 (55,3,[1,3,11,12,13],[1]),
 (56,2,[0,3],[]),
 (81,4,[1,2,15,16,17],[100000]),
 (83,4,[1,2,15,16,17],[100000]),
 (85,4,[1,2,15,16,17],[100000]),
 (91,2,[0,4],[100000]),
 (104,2,[0,1,7,8],[100000]),
 (105,2,[0,1,7,8,9],[]),
 (141,2,[0,3],[100000]),
 (151,2,[0,1,7,8],[]),
 (170,3,[3,8,9,10],[]),
 (1000000,0,[],[])]
def dT (f r:Nat):List Nat×List Nat:=match ML.find? (fun x=>x.1==f&&x.2.1==r) with|some x=>x.2.2|none=>([],[])
def prL:List (Nat×Prim):=[
 (177,lK),
 (179,ir),
 (193,rK),
 (230,li),
 (68,yL),
 (142,pLow),
 (170,pw),
 (98,rZ),
 (124,xe),
 (45,pAt),
 (206,wB),
 (79,zO),
 (80,zJ),
 (205,pB),
 (1000000,fun _ _=>none)]
def prF (f:Nat):Option Prim:=(prL.find? (fun x=>x.1==f)).map (·.2)
def eV (f i:Nat):Bool:=f==145&&i==6
def ownB (f:Nat):Bool :=
 f==227 ||
 f==1000000
def GN (P:Program) (f:Nat):Bool :=
 match P.funcs[f]? with
 | some fn => fn.name != "runtime.NumGoroutine" && (match fn.body with | some c => fW (eV f) c | none => false)
 | none=>false
def goods:List Nat:=[3,4,5,6,7,8,9,10,11,12,13,14,15,16,17,18,19,20,21,22,23,24,25,26,27,28,29,30,31,32,33,34,35,36,37,38,39,40,41,42,43,44,45,46,47,48,49,50,51,52,53,54,55,56,57,58,59,60,61,62,63,64,65,66,67,68,69,70,71,72,73,74,75,76,77,78,79,80,81,82,83,84,85,86,87,88,89,90,91,92,93,94,95,96,97,98,99,100,101,102,103,104,105,106,107,108,109,110,111,112,113,114,115,116,117,118,119,120,121,122,123,124,125,126,127,128,129,130,131,132,133,134,135,136,137,138,139,140,141,142,143,144,145,146,147,148,149,150,151,152,153,154,155,156,157,159,160,161,162,163,164,165,166,167,168,169,170,171,172,173,174,175,176,177,178,179,180,181,182,183,184,185,186,187,188,189,190,191,193,194,195,196,197,198,199,200,201,202,203,204,205,206,207,208,209,210,211,212,213,214,215,216,217,218,219,220,221,223,224,225,226,227,228,230,231,232,233,234,235,236,266]
theorem zI:goods.all (GN Tryz.prog)=true:=by kernel_rfl
theorem xO {g : Nat} (hg : goods.contains g = true) : ∃ fn, Tryz.prog.funcs[g]? = some fn ∧ fn.name ≠ "runtime.NumGoroutine" ∧ fn.body.isSome = true := by
 have h1:g∈goods:=by simpa using hg
 have h2:=List.all_eq_true.1 zI g h1
 unfold GN at h2;split at h2
 ·rename_i fn hfn;simp only[Bool.and_eq_true] at h2;obtain⟨h3,h4⟩:=h2;split at h4
  ·rename_i c hc;exact⟨fn,hfn,by simpa using h3,by rw[hc];rfl⟩
  ·cases h4
 ·cases h2
def hpL:List (Nat×(List AV→List (List CV)→Plan)):=[
 (37,f8 goods.contains),
 (46,parse1P),
 (1000000,fun _ _=>.fail)]
def hpF (f:Nat):Option (List AV→List (List CV)→Plan):=(hpL.find? (fun x=>x.1==f)).map (·.2)
noncomputable def K:Cfg := { P:=Tryz.prog,pr:=prF,keep:=dT,ownRet:=ownB,good:=goods.contains,hook:=eV,hp:=hpF }
theorem LA:Prog K:=by
 refine⟨by kernel_rfl,fun g hg => ?_,fun f F args bxs x _ hF hx => ?_,fun f F args bxs r call _ hF hc hr => ?_⟩
 ·have h1:g∈goods:=by simpa[K] using hg
  have h2:=List.all_eq_true.1 zI g h1
  unfold GN at h2;split at h2
  ·rename_i fn hfn;simp only[Bool.and_eq_true] at h2;obtain⟨h3,h4⟩:=h2;split at h4
   ·rename_i c hc;exact⟨fn,c,hfn,by simpa using h3,hc,h4⟩
   ·cases h4
  ·cases h2
 ·have h1:∀ y∈prL, ∀ args bxs x,y.2 args bxs=some x→Contract Tryz.prog y.1 args bxs (.ret x.1 x.2):=by
   intro y hy;simp only[prL,List.mem_cons,List.not_mem_nil,or_false] at hy
   repeat' (first|(rcases hy with rfl|hy)|(cases hy))
   all_goals first
    | exact fun _ _ _ h=>uj h
    | exact fun _ _ _ h=>nU h
    | exact fun _ _ _ h=>Dx h
    | exact fun _ _ _ h=>QZf h
    | exact fun _ _ _ h=>Ir h
    | exact fun _ _ _ h=>Kh h
    | exact fun _ _ _ h=>pSmall_ok h
    | exact fun _ _ _ h=>AR h
    | exact fun _ _ _ h=>Ej h
    | exact fun _ _ _ h=>Du h
    | exact fun _ _ _ h=>LJ h
    | exact fun _ _ _ h=>Fp h
    | exact fun _ _ _ h=>Iv h
    | exact fun _ _ _ h=>GP h
    | exact fun _ _ _ h=>BM h
    | exact fun _ _ _ h=>by cases h
  have h2:prF f=some F:=hF
  unfold prF at h2;rw[Option.map_eq_some_iff] at h2;obtain⟨y,hy,rfl⟩:=h2;have h3:=List.mem_of_find?_eq_some hy
  have h4:y.1=f:=by simpa using List.find?_some hy
  rw[←h4];exact h1 y h3 args bxs x hx
 ·have h1:∀ y∈hpL, ∀ args bxs r,(y.2 args bxs).run call=some r→Contract Tryz.prog y.1 args bxs r:=by
   intro y hy;simp only[hpL,List.mem_cons,List.not_mem_nil,or_false] at hy
   repeat' (first|(rcases hy with rfl|hy)|(cases hy))
   all_goals first
    | exact fun _ _ _ h=>GL (fun _=>xO) (by kernel_rfl) hc h
    | exact fun _ _ _ h=>E6 (fun _=>xO) (by kernel_rfl) hc h
    | exact fun _ _ _ h=>by cases h
  have h2:hpF f=some F:=hF
  unfold hpF at h2;rw[Option.map_eq_some_iff] at h2;obtain⟨y,hy,rfl⟩:=h2;have h3:=List.mem_of_find?_eq_some hy
  have h4:y.1=f:=by simpa using List.find?_some hy
  rw[←h4];exact h1 y h3 args bxs r hr
end Go.Abs
namespace Go.Abs
inductive Sim where
 | mk (kind:Int) (name value:List UInt8) (a b:Int) (l:List Sim)
def Sim.kind:Sim→Int
 | .mk k _ _ _ _ _=>k
structure Prt where
 comb:Int
 l:List Sim
structure Cpx where
 parts:List Prt
 pseudo:List UInt8
namespace Sl
def aW (s:List UInt8):Val→Bool
 | .mk k t _=>k==1&&decide (t=⟨7,s,0⟩)
def ay:Val→Bool
 | .mk k t _=>k==1&&t.kind==8
def trim (l:List Val):List Val:=((l.dropWhile ay).reverse.dropWhile ay).reverse
def tokK (kind:Int):List Val→Option Tok
 | .mk k t _::_=>if k=1∧t.kind=kind then some t else none
 | []=>none
def sign (s:List UInt8):List Val→Option (List Val)
 | v::r=>if aW s v then some r else none
 | []=>none
def name (l:List Val):Option (List UInt8×List Val):=(tokK 1 l).map fun t=>(t.text,l.tail)
def eP (kind:Int):List Val→Option ((Tok×List Val)×List Val)
 | .mk k t c::r=>if k=kind then some ((t,c),r) else none
 | []=>none
def digits (s:List UInt8):Int:=if s.length<1∨4<s.length then -1 else if s.all Tk.digit then s.foldl (fun n c=>10*n+((c.toNat:Int) - 48)) 0 else -1
def nth1 (t:Tok):Option (Int×Int) :=
  if t.kind=1 then(if t.text=[111,100,100] then some (2,1) else if t.text=[101,118,101,110] then some (2,0) else if t.text=[110] then some (1,0) else none)
  else if t.kind=5 then
    (if t.text=[] then some (0,t.n) else if t.text=[110] then some (t.n,0)
     else if 2<t.text.length∧t.text.take 2=[110,45]∧0≤digits (t.text.drop 2) then some (t.n,-digits (t.text.drop 2)) else none)
  else none
def nth (v:List Val):Option (Int×Int) :=
 match trim v with
 | [.mk k t _]=>if k=1 then nth1 t else none
 | [.mk k t _,s,.mk k' u _]=>if k=1∧t.kind=5∧t.text=[110]∧aW [43] s=true∧k'=1∧u.kind=5∧u.text=[]∧0≤u.n then some (t.n,u.n) else none
 | _=>none
def few (n:Int):Prop := -9999≤n∧n≤9999
instance (n:Int):Decidable (few n):=by unfold few;infer_instance
def nthM (v:List Val):Option (Int×Int) :=
 match nth v with
 | some x=>if few x.1∧few x.2 then some x else none
 | none=>none
def attr (l:List Val):Option Sim :=
 match l.filter (fun v => !ay v) with
 | [.mk k t _]=>if k=1∧t.kind=1 then some (.mk 5 t.text [] 0 0 []) else none
 | [.mk k t _,e,.mk k' u _]=>if k=1∧t.kind=1∧aW [61] e=true∧k'=1∧(u.kind=1∨u.kind=6) then some (.mk 6 t.text u.text 0 0 []) else none
 | _=>none
def mM:List UInt8:=[104,111,118,101,114]
def mW:List UInt8:=[102,111,99,117,115]
def kJ:List UInt8:=[97,99,116,105,118,101]
def jn:List UInt8:=[99,104,101,99,107,101,100]
def zR:List UInt8:=[114,111,111,116]
def ta:List UInt8:=[101,109,112,116,121]
def tP:List UInt8:=[102,105,114,115,116,45,99,104,105,108,100]
def nthT:List UInt8:=[110,116,104,45,99,104,105,108,100]
def notT:List UInt8:=[110,111,116]
def fg:List UInt8:=[98,101,102,111,114,101]
def fZ:List UInt8:=[97,102,116,101,114]
def eW (s:List UInt8):Prop:=s=mM∨s=mW∨s=kJ∨s=jn
instance (s:List UInt8):Decidable (eW s):=by unfold eW;infer_instance
def gL (s:List UInt8):Option Sim :=
 if eW s then some (.mk 7 s [] 0 0 []) else if s=zR then some (.mk 9 [] [] 0 0 []) else if s=ta then some (.mk 10 [] [] 0 0 [])
 else if s=tP then some (.mk 8 [] [] 0 1 []) else none
def low1 (c:UInt8):UInt8:=if 65≤c.toNat∧c.toNat≤90 then c+32 else c
def low (s:List UInt8):List UInt8:=s.map low1
def colon (g:List Val→Option (Sim×List Val)) (l:List Val):Option (Sim×List Val) :=
  match eP 5 l with
  | some ((t,c),r) =>
    if t.text=nthT then(nthM c).map fun x=>(.mk 8 [] [] x.1 x.2 [],r)
    else if t.text=notT then
      (match g (trim c) with
       | some (x,[])=>if x.kind=11 then none else some (.mk 11 [] [] 0 0 [x],r)
       | _=>none)
    else none
  | none =>
    match name l with
    | some (s,r)=>(gL s).map fun x=>(x,r)
    | none=>none
def simple:Nat→Bool→List Val→Option (Sim×List Val)
 | 0,_,_=>none
 | f+1,first,l =>
  match (if first then tokK 1 l else none) with
  | some t=>some (.mk 2 (low t.text) [] 0 0 [],l.tail)
  | none =>
  match (if first then sign [42] l else none) with
  | some r=>some (.mk 1 [] [] 0 0 [],r)
  | none =>
  match tokK 4 l with
  | some t=>some (.mk 3 t.text [] 0 0 [],l.tail)
  | none =>
  match sign [46] l with
  | some r=>(name r).map fun x=>(.mk 4 x.1 [] 0 0 [],x.2)
  | none =>
  match sign [58] l with
  | some r=>colon (simple f true) r
  | none =>
  match eP 3 l with
  | some x=>(attr x.1.2).map fun y=>(y,x.2)
  | none=>none
def over:List Val→Bool
 | []=>true
 | v::_=>ay v||aW [62] v||aW [43] v||aW [126] v
def double:List Val→Bool
 | v::w::_=>aW [58] v&&aW [58] w
 | _=>false
def part:Nat→Bool→List Val→Option (List Sim×List Val)
 | 0,_,_=>none
 | f+1,first,l =>
  if over l||double l then some ([],l)
  else match simple (Ne.size l) first l with
   | none=>none
   | some (x,r)=>(part f false r).map fun y=>(x::y.1,y.2)
def comb (l:List Val):Int×List Val :=
 let m:=l.dropWhile ay
 match sign [62] m with
 | some r=>(2,r.dropWhile ay)
 | none =>
 match sign [43] m with
 | some r=>(3,r.dropWhile ay)
 | none =>
 match sign [126] m with
 | some r=>(4,r.dropWhile ay)
 | none=>(1,m.dropWhile ay)
def cpx:Nat→Int→List Val→Option Cpx
  | 0,_,_=>none
  | n+1,c,l =>
    match part (l.length+1) true l with
    | none=>none
    | some (ps,r) =>
      if double r then
        (match name (r.drop 2) with
         | some (s,[])=>if (s=fg∨s=fZ)∧ps.length≤8 then some ⟨[⟨c,ps⟩],s⟩ else none
         | _=>none)
      else if 8<ps.length∨ps=[] then none
      else if r.isEmpty then some ⟨[⟨c,ps⟩],[]⟩
      else(cpx n (comb r).1 (comb r).2).map fun x=>⟨⟨c,ps⟩::x.parts,x.pseudo⟩
def at_ (s:List UInt8):List Val→List (List Val)
 | []=>[[]]
 | v::l=>if aW s v then []::at_ s l else match at_ s l with
  | []=>[[v]]
  | p::ps=>(v::p)::ps
def all_:List (List Val)→Option (List Cpx)
 | []=>some []
 | p::ps=>match cpx 16 0 (trim p),all_ ps with
  | some c,some cs=>some (c::cs)
  | _,_=>none
def parse (l:List Val):Option (List Cpx):=if (at_ [44] l).length≤32 then all_ (at_ [44] l) else none
def read (s:List UInt8):Option (List Cpx):=(Ne.parse 60 (Tk.all s)).bind fun v=>parse (trim v)
end Sl
end Go.Abs
namespace Go.Abs.Tk
open Go
theorem zi:within 0=false:=by decide
theorem sY:digit 0=false:=by decide
theorem nI {c:UInt8} (h:begins c=true):within c=true:=by simp[within,h]
theorem r9 {c d:UInt8} (h:digit c=true) (hd:digit d=false):c≠d:=fun e=>by rw[e,hd] at h;cases h
theorem zX {c:UInt8} (h:blank c=true):c=32∨c=10∨c=9∨c=12∨c=13:=by simpa[blank,or_assoc] using h
theorem vY {c:UInt8} (h:within c=true):blank c=false:=by
 cases hb:blank c
 ·rfl
 ·rcases zX hb with rfl|rfl|rfl|rfl|rfl<;>revert h<;>decide
theorem wk {c:UInt8} (h:digit c=true):within c=true:=by simp[within,h]
theorem xw {c:UInt8} (h:digit c=true):blank c=false:=vY (wk h)
section run
variable {p:UInt8→Bool}
theorem rj:run p []=0:=rfl
theorem run_le:∀ l:List UInt8,run p l≤l.length
 | []=>Nat.le_refl _
 | c::r=>by
  rw[run];have:=run_le r
  split<;>simp<;>omega
theorem Jm {c:UInt8} {r:List UInt8} (h:p c=true):0<run p (c::r):=by rw[run,if_pos h];omega
theorem oo:∀ l:List UInt8, ∀ b∈l.take (run p l),p b=true
 | [],b,h=>by simp at h
 | c::r,b,h=>by
  rw[run] at h;split at h
  ·rename_i hc;rw[List.take_succ_cons] at h;rcases List.mem_cons.1 h with rfl|h
   ·exact hc
   ·exact oo r b h
  ·simp at h
theorem zu (h0:p 0=false):∀ l:List UInt8,p (at0 (l.drop (run p l)))=false
 | []=>h0
 | c::r=>by
  rw[run];split
  ·rw[List.drop_succ_cons];exact zu h0 r
  ·rename_i hc
   simpa[at0] using hc
theorem qx {y:List UInt8} (h0:p 0=false):0<run p y↔p (at0 y)=true:=by
 cases y with
 | nil=>simp[run,at0,h0]
 | cons c r =>
  rw[run,at0];cases p c<;>simp
end run
def jV (x:List UInt8):Prop:=gy x=true∧∀ b∈x,within b=true
theorem FD:gy []=false:=by decide
theorem jC {x:List UInt8} (h:gy x=true):within (at0 x)=true:=by
 simp only[gy,Bool.or_eq_true,Bool.and_eq_true,beq_iff_eq] at h;rcases h with h|⟨h,_⟩
 ·exact nI h
 ·rw[h];decide
theorem iW {y:List UInt8} (h:gy y=false):name y=0:=by rw[name,h];rfl
theorem xB {l:List UInt8} (h:0<name l):gy l=true:=by
 rw[name] at h;split at h
 ·assumption
 ·omega
theorem lN {l:List UInt8}:0<name l↔gy l=true:=by
 refine⟨xB,fun h => ?_⟩
 rw[name,if_pos h];exact(qx zi).2 (jC h)
theorem nv (l:List UInt8):name l≤l.length:=by
 rw[name];split
 ·exact run_le l
 ·omega
theorem ng {l:List UInt8} (h:0<name l):jV (l.take (name l)):=by
 have hb:=xB h
 have e:name l=run within l:=by rw[name,if_pos hb]
 refine⟨?_,by rw[e];exact oo l⟩
 rw[e]
 match l,hb with
 | [],hb=>rw[FD] at hb;cases hb
 | [c],hb =>
  have:run within [c]=1:=by rw[run,if_pos (show within c=true from jC hb)];rfl
  rw[this];exact hb
 | c::d::r,hb =>
  have hc:within c=true:=jC hb
  by_cases hd:within d=true
  ·have:run within (c::d::r)=run within r+2:=by rw[run,if_pos hc,run,if_pos hd]
   rw[this];exact hb
  ·have hd':within d=false:=by simpa using hd
   have:run within (c::d::r)=1:=by rw[run,if_pos hc,run,if_neg hd]
   rw[this];simp only[gy,at0,List.tail_cons,Bool.or_eq_true,Bool.and_eq_true,beq_iff_eq] at hb;have hbc:begins c=true:=by
    rcases hb with hb|⟨_,hb|hb⟩
    ·exact hb
    ·rw[nI hb] at hd';cases hd'
    ·exact absurd hd' (by rw[hb];decide)
   simp[gy,at0,hbc]
theorem rg:∀ {l:List UInt8} {n:Nat},shut l=some n→n≤l.length∧2≤n
 | c::r,n,h=>by
  rw[shut] at h;split at h
  ·rename_i hc;cases h;cases r with
   | nil=>exact absurd hc.2 (by decide)
   | cons d r=>simp
  ·rw[Option.map_eq_some_iff] at h;obtain⟨m,hm,rfl⟩:=h;have:=rg hm
   simp;omega
theorem Ab (r:List UInt8):2≤comment r:=by unfold comment;split<;>omega
theorem pq {q:UInt8}:∀ {l:List UInt8} {n:Nat},inner q l=some n→n+1≤l.length
 | c::r,n,h=>by
  rw[inner] at h;split at h
  ·cases h;simp
  ·split at h
   ·cases h
   ·rw[Option.map_eq_some_iff] at h;obtain⟨m,hm,rfl⟩:=h;have:=pq hm
    simp;omega
theorem tl {q:UInt8}:∀ {l:List UInt8} {n:Nat},inner q l=some n→∀ b∈l.take n,b≠q∧ending b=false
 | c::r,n,h,b,hb=>by
  rw[inner] at h;split at h
  ·cases h;simp at hb
  ·rename_i hq;split at h
   ·cases h
   ·rename_i he;rw[Option.map_eq_some_iff] at h;obtain⟨m,hm,rfl⟩:=h;rw[List.take_succ_cons] at hb;rcases List.mem_cons.1 hb with rfl|hb
    ·exact⟨hq,by simpa using he⟩
    ·exact tl hm b hb
theorem Cy:∀ {a y:List UInt8} {n:Int},(∀ b∈a,digit b=true)→num n (a++y)=num (num n a) y
 | [],_,_,_=>rfl
 | c::a,y,n,h=>by
  rw[List.cons_append,num,if_pos (h c (by simp)),num,if_pos (h c (by simp)),Cy fun b hb=>h b (by simp[hb])]
theorem FS {y:List UInt8} {n:Int} (h:digit (at0 y)=false):num n y=n:=by
 cases y with
 | nil=>rfl
 | cons c r=>rw[num,if_neg];simpa[at0] using h
theorem nl:∀ {l:List UInt8} {n:Int},0≤n→n≤999999999→0≤num n l∧num n l≤999999999
 | [],n,h1,h2=>⟨h1,h2⟩
 | c::r,n,h1,h2=>by
  rw[num];split
  ·rename_i hc;have:48≤c.toNat:=by simp only[digit,decide_eq_true_eq] at hc;omega
   exact nl (by omega) (by omega)
  ·exact⟨h1,h2⟩
end Go.Abs.Tk
namespace Go.Abs.Tk
open Go
inductive Good:Tok→Prop
 | ident (x:List UInt8):jV x→Good ⟨1,x,0⟩
 | func (x:List UInt8):jV x→Good ⟨2,x,0⟩
 | word (x:List UInt8):jV x→Good ⟨3,x,0⟩
 | hash (x:List UInt8):x≠[]→(∀ b∈x,within b=true)→Good ⟨4,x,0⟩
 | num (x:List UInt8) (n:Int) : -999999999≤n→n≤999999999→(x=[]∨x=[37]∨jV x)→Good ⟨5,x,n⟩
 | str (x:List UInt8) (q:UInt8):q=34∨q=39→(∀ b∈x,b≠q∧ending b=false)→Good ⟨6,x,q.toNat⟩
 | delim (c:UInt8):begins c=false→digit c=false→blank c=false→Good ⟨7,[c],0⟩
 | white:Good ⟨8,[10],0⟩
theorem E4 (l:List UInt8):l.take (unit l)=[]∨l.take (unit l)=[37]∨jV (l.take (unit l)):=by
 unfold unit;split
 ·rename_i h;cases l with
  | nil=>exact absurd h (by decide)
  | cons c r=>right;left;rw[at0] at h;rw[h];rfl
 ·by_cases h:0<name l
  ·exact .inr (.inr (ng h))
  ·left;rw[show name l=0 by omega];rfl
theorem QZe (l:List UInt8):unit l≤l.length:=by
 unfold unit;split
 ·rename_i h;cases l with
  | nil=>exact absurd h (by decide)
  | cons c r=>simp
 ·exact nv l
theorem qT (neg:Bool) (l:List UInt8):Good (number neg l).1:=by
 have hb:=nl (l:=l) (n:=0) (by omega) (by omega)
 unfold number;refine .num _ _ ?_ ?_ (E4 _)
 ·cases neg<;>simp<;>omega
 ·cases neg<;>simp<;>omega
theorem vr (neg:Bool) (l:List UInt8):(number neg l).2≤l.length:=by
 unfold number;have h1:=run_le (p:=digit) l
 have h2:=QZe (l.drop (run digit l))
 simp only[List.length_drop] at h2;simp only;omega
theorem AI (neg:Bool) (l:List UInt8) (h:digit (at0 l)=true):1≤(number neg l).2:=by
 unfold number;have:=(qx (y:=l) sY).2 h
 simp only;omega
theorem FE {c:UInt8} {r:List UInt8} {t:Tok} (h:(step c r).1=some t):Good t:=by
 unfold step at h;split at h
 ·cases h
 split at h
 ·cases h;exact .white
 split at h
 ·rename_i hq;cases h;obtain⟨n,hn⟩:=Option.isSome_iff_exists.1 hq.2;rw[hn];exact .str _ c hq.1 (tl hn)
 split at h
 ·rename_i hq;cases h;exact .hash _ (fun e=>by
   have h1:=congrArg List.length e
   rw[List.length_take,List.length_nil] at h1;have h2:=run_le (p:=within) r
   have h3:=hq.2
   omega) (oo r)
 split at h
 ·rename_i hq;cases h;exact .word _ (ng hq.2)
 split at h
 ·cases h;exact qT _ _
 split at h
 ·cases h;exact qT _ _
 split at h
 ·rename_i hn;split at h
  ·cases h;exact .func _ (ng hn)
  ·cases h;exact .ident _ (ng hn)
 ·rename_i h1 h2 h3 h4 h5 h6 h7 h8;cases h;refine .delim c ?_ (by simpa using h6) (by simpa using h2)
  cases hb:begins c
  ·rfl
  ·exact absurd (lN.2 (show gy (c::r)=true by simp[gy,at0,hb])) h8
theorem kW (c:UInt8) (r:List UInt8):1≤(step c r).2:=by
 unfold step;split
 ·have:=Ab r.tail;simp only;omega
 split
 ·rename_i h;exact Jm h
 split
 ·rename_i h;obtain⟨n,hn⟩:=Option.isSome_iff_exists.1 h.2;simp only;omega
 split
 ·simp only;omega
 split
 ·simp only;omega
 split
 ·rename_i h;exact AI false (c::r) h
 split
 ·simp only;omega
 split
 ·split<;>simp only<;>omega
 ·exact Nat.le_refl _
theorem A3 {r:List UInt8}:comment r≤r.length+2:=by
 unfold comment;split
 ·rename_i n h;have:=rg h;omega
 ·omega
theorem wP (c:UInt8) (r:List UInt8):(step c r).2≤(c::r).length:=by
 unfold step;split
 ·rename_i h;have:=A3 (r:=r.tail)
  cases r with
  | nil=>exact absurd h.2 (by decide)
  | cons d r=>simp only[List.tail_cons,List.length_cons] at *;omega
 split
 ·exact run_le _
 split
 ·rename_i h;obtain⟨n,hn⟩:=Option.isSome_iff_exists.1 h.2;have:=pq hn
  rw[hn];simp;omega
 split
 ·have:=run_le (p:=within) r;simp;omega
 split
 ·have:=nv r;simp;omega
 split
 ·exact vr false _
 split
 ·have:=vr true r;simp;omega
 split
 ·rename_i h;split
  ·rename_i h40;have h1:=nv (c::r)
   have:name (c::r)≠(c::r).length:=fun e=>by
    rw[e,List.drop_length] at h40;exact absurd h40 (by decide)
   simp only;omega
  ·exact nv _
 ·simp
theorem KI:∀ (k j:Nat) (l:List UInt8),l.length≤k→l.length≤j→allN k l=allN j l:=by
 intro k
 induction k with
 | zero =>
  intro j l h _;obtain rfl:l=[]:=List.length_eq_zero_iff.1 (by omega)
  cases j<;>rfl
 | succ k ih =>
  intro j l hk hj;cases l with
  | nil=>cases j<;>rfl
  | cons c r =>
   cases j with
   | zero=>simp at hj
   | succ j =>
    have hp:=kW c r
    have hd:((c::r).drop (step c r).2).length≤r.length:=by rw[List.length_drop];simp;omega
    simp only[List.length_cons] at hk hj;rw[allN,allN,ih j _ (by omega) (by omega)]
theorem all_nil:all []=[]:=rfl
theorem all_cons (c:UInt8) (r:List UInt8):all (c::r)=(step c r).1.toList++all ((c::r).drop (step c r).2):=by
 have hp:=kW c r
 have hd:((c::r).drop (step c r).2).length≤r.length:=by rw[List.length_drop];simp;omega
 rw[all,List.length_cons,allN];rw[KI r.length _ _ hd (Nat.le_refl _),←all]
theorem rm {Q:List UInt8→Prop} (h0:Q []) (h1:∀ c r,Q ((c::r).drop (step c r).2)→Q (c::r)):∀ l,Q l:=by
 have:∀ (k:Nat) (l:List UInt8),l.length≤k→Q l:=by
  intro k
  induction k with
  | zero=>intro l h;obtain rfl:l=[]:=List.length_eq_zero_iff.1 (by omega);exact h0
  | succ k ih =>
   intro l h;cases l with
   | nil=>exact h0
   | cons c r =>
    have hp:=kW c r
    exact h1 c r (ih _ (by rw[List.length_drop];simp at *;omega))
 exact fun l=>this l.length l (Nat.le_refl _)
theorem mA (c:UInt8) (r:List UInt8):at0 (c::r)=c:=rfl
theorem sV {c:UInt8} {y:List UInt8} (h:at0 y=c) (hc:within c=false):gy y=false:=by
 cases hn:gy y
 ·rfl
 ·have:=jC hn;rw[h,hc] at this;cases this
theorem qy {c:UInt8} {r:List UInt8} (h:digit c=true):step c r=(some (number false (c::r)).1,(number false (c::r)).2):=by
 have hne:∀ d,digit d=false→c≠d:=fun d hd=>r9 h hd
 unfold step;rw[if_neg (fun e=>hne 47 (by decide) e.1),if_neg (by simp[xw h]),if_neg (fun e=>by
  rcases e.1 with e|e
  ·exact hne 34 (by decide) e
  ·exact hne 39 (by decide) e),if_neg (fun e=>hne 35 (by decide) e.1),if_neg (fun e=>hne 64 (by decide) e.1),if_pos h]
theorem tw {r:List UInt8} (h:digit (at0 r)=true):step 45 r=(some (number true r).1,(number true r).2+1):=by
 unfold step;rw[if_neg (fun e=>absurd e.1 (by decide)),if_neg (by decide),if_neg (by simp),if_neg (by simp),if_neg (by simp),if_neg (by decide),if_pos ⟨rfl,h⟩]
end Go.Abs.Tk
namespace Go.Abs.Tk
open Go
theorem m8 (l:List UInt8):(all l).length≤l.length:=by
 refine rm (Q:=fun l=>(all l).length≤l.length) (Nat.le_refl _) (fun c r ih => ?_) l
 rw[all_cons,List.length_append];have h1:=kW c r
 have h2:=wP c r
 have h3:(step c r).1.toList.length≤1:=by cases (step c r).1<;>simp
 rw[List.length_drop] at ih;simp only[List.length_cons] at *
 omega
section both
variable {R R':List UInt8}
end both
end Go.Abs.Tk
namespace Go.Abs
open Go
theorem js:∀ {l:List Val} {k:Int} {t:Tok} {l':List Val},Val.mk k t l'∈l→Ne.size l'<Ne.size l
 | v::l,k,t,l',h=>by
  rw[Ne.size];rcases List.mem_cons.1 h with rfl|h
  ·rw[Ne.oQ];omega
  ·have:=js h;omega
theorem sM {Q:List Val→Prop} (h:∀ l,(∀ k t l',Val.mk k t l'∈l→Q l')→Q l) (l:List Val):Q l:=by
 have key:∀ (m:Nat) (l:List Val),Ne.size l≤m→Q l:=by
  intro m
  induction m with
  | zero =>
   intro l hl;refine h l fun k t l' hm => ?_
   have:=js hm;omega
  | succ m ih =>
   intro l hl;refine h l fun k t l' hm=>ih l' ?_
   have:=js hm;omega
 exact key _ l (Nat.le_refl _)
theorem pS (deep left:Int) (k:Int) (t:Tok) (l r:List Val):Ne.fewL deep left (.mk k t l::r) =
  if left<0 then left else if 100<t.text.length then -1 else Ne.fewL deep (if 0≤left - 1∧l.isEmpty=false then Ne.few (deep - 1) (left - 1) l else left - 1) r:=by
 rw[Ne.fewL,Ne.fewV];rfl
theorem Ek:∀ (l:List Val) (deep left:Int),-1≤left → -1≤Ne.fewL deep left l∧Ne.fewL deep left l≤left∧(0≤left → -1≤Ne.few deep left l∧Ne.few deep left l≤left):=by
 have key:∀ (l:List Val),(∀ k t l',Val.mk k t l'∈l→∀ deep left:Int,-1≤left → -1≤Ne.fewL deep left l'∧Ne.fewL deep left l'≤left)→∀ deep left:Int,-1≤left → -1≤Ne.fewL deep left l∧Ne.fewL deep left l≤left:=by
  intro l
  induction l with
  | nil=>intro _ deep left h;rw[Ne.fewL];omega
  | cons v r ih =>
   obtain⟨k,t,l⟩:=v;intro hin deep left h;rw[pS];split
   ·omega
   ·split
    ·omega
    ·have hr:=ih (fun k t l' hm=>hin k t l' (by simp[hm])) deep
     split
     ·have h1:=hin k t l (by simp) (deep - 1) (left - 1) (by omega)
      have h2 : -1≤Ne.few (deep - 1) (left - 1) l∧Ne.few (deep - 1) (left - 1) l≤left - 1:=by
       unfold Ne.few;split<;>omega
      have:=hr _ h2.1
      omega
     ·have:=hr (left - 1) (by omega)
      omega
 intro l deep left h;have hl:∀ deep left:Int,-1≤left → -1≤Ne.fewL deep left l∧Ne.fewL deep left l≤left:=sM (fun l hin=>key l hin) l
 have h1:=hl deep left h
 refine⟨h1.1,h1.2,fun h0 => ?_⟩
 unfold Ne.few;split
 ·omega
 ·exact h1
mutual
def Ne.allV (p:Tok→Prop):Val→Prop
 | .mk _ t l=>p t∧Ne.allT p l
def Ne.allT (p:Tok→Prop):List Val→Prop
 | []=>True
 | v::l=>Ne.allV p v∧Ne.allT p l
end
mutual
theorem Ne.flatV_all {p:Tok→Prop} (hd:∀ c:UInt8,p ⟨7,[c],0⟩):∀ v:Val,Ne.allV p v→∀ t∈Ne.nR v,p t
 | .mk k t l,h=>by
  rw[Ne.allV] at h;rw[Ne.nR];intro x hx;split at hx
  ·obtain rfl:x=t:=by simpa using hx
   exact h.1
  ·split at hx
   ·simp only[List.mem_cons,List.mem_append,List.not_mem_nil,or_false] at hx;rcases hx with rfl|hx|rfl
    ·exact h.1
    ·exact Ne.flat_all hd l h.2 x hx
    ·exact hd _
   ·split at hx
    ·simp only[List.mem_cons,List.mem_append,List.not_mem_nil,or_false] at hx;rcases hx with rfl|hx|rfl
     ·exact hd _
     ·exact Ne.flat_all hd l h.2 x hx
     ·exact hd _
    ·cases hx
theorem Ne.flat_all {p:Tok→Prop} (hd:∀ c:UInt8,p ⟨7,[c],0⟩):∀ l:List Val,Ne.allT p l→∀ t∈Ne.flat l,p t
 | [],_=>by rw[Ne.flat];intro t ht;cases ht
 | v::l,h=>by
  rw[Ne.allT] at h;rw[Ne.flat];intro t ht;rcases List.mem_append.1 ht with ht|ht
  ·exact Ne.flatV_all hd v h.1 t ht
  ·exact Ne.flat_all hd l h.2 t ht
end
theorem BL (l:List Val):∀ (deep left:Int),0≤Ne.fewL deep left l→(Ne.size l:Int)≤left - Ne.fewL deep left l∧Ne.allT (fun t=>t.text.length≤100) l:=by
 have key:∀ (l:List Val),(∀ k t l',Val.mk k t l'∈l→∀ deep left:Int,0≤Ne.fewL deep left l'→(Ne.size l':Int)≤left - Ne.fewL deep left l'∧Ne.allT (fun t=>t.text.length≤100) l') →
   ∀ deep left:Int,0≤Ne.fewL deep left l→(Ne.size l:Int)≤left - Ne.fewL deep left l∧Ne.allT (fun t=>t.text.length≤100) l:=by
  intro l
  induction l with
  | nil =>
   intro _ deep left h;rw[Ne.fewL,Ne.size,Ne.allT];exact⟨by omega,trivial⟩
  | cons v r ih =>
   obtain⟨k,t,l⟩:=v;intro hin deep left h;rw[pS] at h ⊢;rw[Ne.size,Ne.oQ,Ne.allT,Ne.allV];split at h
   ·omega
   ·rename_i h0;rw[if_neg h0];split at h
    ·omega
    ·rename_i h1;rw[if_neg h1];have hr:=ih (fun k t l' hm=>hin k t l' (by simp[hm])) deep _ h
     split at h
     ·rename_i h2;rw[if_pos h2] at hr ⊢;have hnext:0≤Ne.few (deep - 1) (left - 1) l:=by omega
      have hf:Ne.few (deep - 1) (left - 1) l=Ne.fewL (deep - 1) (left - 1) l:=by
       unfold Ne.few at hnext ⊢;split at hnext
       ·omega
       ·rename_i h3;rw[if_neg h3]
      rw[hf] at hnext hr ⊢;have hl:=hin k t l (by simp) (deep - 1) (left - 1) hnext
      exact⟨by omega,⟨by omega,hl.2⟩,hr.2⟩
     ·rename_i h2;rw[if_neg h2] at hr ⊢;have hn:0≤left - 1:=by omega
      have hl:l=[]:=by
       cases l with
       | nil=>rfl
       | cons a b=>exact absurd ⟨hn,rfl⟩ h2
      subst hl;rw[Ne.size,Ne.allT];exact⟨by omega,⟨by omega,trivial⟩,hr.2⟩
 exact sM (Q:=fun l=>∀ (deep left:Int),0≤Ne.fewL deep left l→(Ne.size l:Int)≤left - Ne.fewL deep left l∧Ne.allT (fun t=>t.text.length≤100) l) (fun l hin=>key l hin) l
theorem EB {l:List Val} {deep left:Int} (h:0≤Ne.few deep left l):(Ne.size l:Int)≤left∧Ne.allT (fun t=>t.text.length≤100) l:=by
 unfold Ne.few at h;split at h
 ·omega
 ·have:=BL l deep left h
  exact⟨by omega,this.2⟩
end Go.Abs
namespace Go.Abs.Sl
def cut (p:Val→Bool):List Val→List (List Val)
 | []=>[[]]
 | v::l=>if p v then []::cut p l else match cut p l with
  | []=>[[v]]
  | q::qs=>(v::q)::qs
theorem wX (p:Val→Bool) (l:List Val):∃ q qs,cut p l=q::qs:=by
 cases l with
 | nil=>exact⟨_,_,rfl⟩
 | cons v l =>
  rw[cut];split
  ·exact⟨_,_,rfl⟩
  ·split
   ·exact⟨_,_,rfl⟩
   ·exact⟨_,_,rfl⟩
theorem rA {p:Val→Bool} {v:Val} (h:p v=true) (l:List Val):cut p (v::l)=[]::cut p l:=by rw[cut,if_pos h]
theorem sC {p:Val→Bool} {v:Val} (h:p v=false) {l q:List Val} {qs:List (List Val)} (e:cut p l=q::qs):cut p (v::l)=(v::q)::qs:=by
 rw[cut,if_neg (by rw[h];simp),e]
def fulls (ss:List (List Val)):List (List Val):=ss.filter fun s => !s.isEmpty
theorem uG (ss:List (List Val)):fulls ([]::ss)=fulls ss:=by simp[fulls]
theorem nZ (v:Val) (q:List Val) (ss:List (List Val)):fulls ((v::q)::ss)=(v::q)::fulls ss:=by simp[fulls]
def words (l:List Val):List (List Val):=fulls (cut ay l)
theorem tu:∀ l:List Val,(fulls (cut ay l)).flatten=l.filter fun v => !ay v
 | []=>rfl
 | v::l=>by
  cases h:ay v with
  | true=>rw[rA h,uG,tu l,List.filter_cons,if_neg (by rw[h];simp)]
  | false =>
   obtain⟨q,qs,e⟩:=wX ay l;have ih:=tu l
   rw[sC h e,nZ,List.filter_cons,if_pos (by rw[h];rfl),←ih,e]
   cases q with
   | nil=>rw[uG];rfl
   | cons x q=>rw[nZ];rfl
theorem B2 (l:List Val):(words l).flatten=l.filter fun v => !ay v:=tu l
theorem rk:∀ l:List Val, ∀ q∈cut ay l, ∀ v∈q,ay v=false
 | [],q,hq,v,hv=>by
  rw[cut,List.mem_singleton] at hq;subst hq;cases hv
 | x::l,q,hq,v,hv=>by
  cases h:ay x with
  | true =>
   rw[rA h] at hq;rcases List.mem_cons.1 hq with rfl|hq
   ·cases hv
   ·exact rk l q hq v hv
  | false =>
   obtain⟨r,rs,e⟩:=wX ay l;rw[sC h e] at hq;rcases List.mem_cons.1 hq with rfl|hq
   ·rcases List.mem_cons.1 hv with rfl|hv
    ·exact h
    ·exact rk l r (by rw[e];simp) v hv
   ·exact rk l q (by rw[e];simp[hq]) v hv
theorem CR:∀ {l:List Val},(∀ v∈l,ay v=false)→cut ay l=[l]
 | [],_=>rfl
 | v::l,h=>sC (h v (by simp)) (CR fun x hx=>h x (by simp[hx]))
theorem Dd {l w:List Val} (h:w∈words l):w≠[]∧words w=[w]:=by
 unfold words fulls at h;rw[List.mem_filter] at h;have hne:w≠[]:=by
  intro e;rw[e] at h;simp at h
 refine⟨hne,?_⟩
 unfold words;rw[CR (rk l w h.1)];cases w with
 | nil=>exact absurd rfl hne
 | cons v w=>rw[nZ];rfl
theorem n9 (p:Val→Bool):∀ l:List Val,(cut p l).length≤l.length+1
 | []=>Nat.le_refl _
 | v::l=>by
  have h:=n9 p l
  obtain⟨q,qs,e⟩:=wX p l;cases hv:p v with
  | true=>rw[rA hv,List.length_cons,List.length_cons];omega
  | false =>
   rw[sC hv e,List.length_cons,List.length_cons];rw[e,List.length_cons] at h;omega
theorem vZ (l:List Val):(words l).length≤l.length+1:=Nat.le_trans (List.length_filter_le _ _) (n9 _ l)
theorem pW:∀ l:List Val, ∀ v r,l.dropWhile ay=v::r→ay v=false
 | [],v,r,h=>by cases h
 | x::l,v,r,h=>by
  rw[List.dropWhile_cons] at h;split at h
  ·exact pW l v r h
  ·rename_i hx;cases h
   simpa using hx
theorem EZ {l r:List Val} {v:Val} (h:trim l=r++[v]):ay v=false:=by
 unfold trim at h;have h2:=congrArg List.reverse h
 rw[List.reverse_reverse,List.reverse_append,List.reverse_singleton,List.singleton_append] at h2;exact pW _ v _ h2
theorem yB (l:List Val):(trim l).length≤l.length:=by
 unfold trim;rw[List.length_reverse];have h1:=(List.dropWhile_sublist ay (l:=(l.dropWhile ay).reverse)).length_le
 have h2:=(List.dropWhile_sublist ay (l:=l)).length_le
 rw[List.length_reverse] at h1;omega
end Go.Abs.Sl
namespace Go.Abs.Tk
open Go
theorem zg (l:List UInt8):(l.take (unit l)).length≤l.length:=by rw[List.length_take];omega
theorem E2 {c:UInt8} {r:List UInt8} {t:Tok} (h:(step c r).1=some t):t.text.length≤r.length+1:=by
 unfold step at h;split at h
 ·cases h
 split at h
 ·cases h;simp
 split at h
 ·cases h;simp only[List.length_take];omega
 split at h
 ·cases h;simp only[List.length_take];omega
 split at h
 ·cases h;simp only[List.length_take];omega
 split at h
 ·cases h
  have:=zg ((c::r).drop (run digit (c::r)))
  simp only[List.length_drop,List.length_cons] at this
  simp only[number];omega
 split at h
 ·cases h
  have:=zg (r.drop (run digit r))
  simp only[List.length_drop] at this
  simp only[number];omega
 split at h
 ·split at h
  ·cases h;simp only[List.length_take,List.length_cons];omega
  ·cases h;simp only[List.length_take,List.length_cons];omega
 ·cases h;simp
theorem ze (l:List UInt8):∀ t∈all l,t.text.length≤l.length:=by
 refine rm (Q:=fun l=>∀ t∈all l,t.text.length≤l.length) (fun t h=>by simp[all_nil] at h) (fun c r ih t ht => ?_) l
 rw[all_cons] at ht;rcases List.mem_append.1 ht with ht|ht
 ·have:=E2 (by simpa[Option.mem_toList] using ht)
  simpa using this
 ·have:=ih t ht
  rw[List.length_drop] at this
  omega
end Go.Abs.Tk
namespace Go.Abs.Sl
theorem jZ {n:Nat}:∀ {l:List Val},Ne.depth l≤n↔∀ v∈l,Ne.ku v≤n
 | []=>by rw[Ne.depth];simp
 | v::l=>by
  rw[Ne.depth,Nat.max_le,jZ (l:=l)];simp
theorem ED {l:List Val} {v:Val} (h:v∈trim l):v∈l:=by
 unfold trim at h;have h1:=List.mem_reverse.1 h
 have h2:=(List.dropWhile_sublist _).subset h1
 exact(List.dropWhile_sublist _).subset (List.mem_reverse.1 h2)
def Hi (s:List UInt8):Option (List Val):=(Ne.parse 60 (Tk.all s)).map trim
end Go.Abs.Sl
namespace Go.Abs
namespace Sl
open Tk (jV within digit begins at0 all)
theorem th:Ne.flat []=[]:=by rw[Ne.flat]
theorem ES (v:Val) (l:List Val):Ne.flat (v::l)=Ne.nR v++Ne.flat l:=by rw[Ne.flat]
end Sl
end Go.Abs
namespace Go.Abs
namespace Sl
open Tk (jV within digit begins at0 all)
theorem mR:∀ {l:List Val} {t:Tok},t∈Ne.flat l↔∃ v∈l,t∈Ne.nR v
 | [],t=>by rw[th];simp
 | v::l,t=>by
  rw[ES,List.mem_append,mR (l:=l)];simp
theorem tQ {k:Int} {l:List Val} {t:Tok} (h:tokK k l=some t):∃ c m,l=.mk 1 t c::m∧t.kind=k:=by
 cases l with
 | nil=>cases h
 | cons v m =>
  obtain⟨k',u,c⟩:=v;have h':(if k'=1∧u.kind=k then some u else none)=some t:=h
  split at h'
  ·rename_i hc;cases h';obtain⟨rfl,hk⟩:=hc;exact⟨c,m,rfl,hk⟩
  ·cases h'
theorem nx {s:List UInt8} {l r:List Val} (h:sign s l=some r):∃ v,l=v::r∧aW s v=true:=by
 cases l with
 | nil=>cases h
 | cons v m =>
  have h':(if aW s v=true then some m else none)=some r:=h
  split at h'
  ·rename_i hc;cases h';exact⟨v,rfl,hc⟩
  ·cases h'
theorem pP {l r:List Val} {s:List UInt8} (h:name l=some (s,r)):∃ t c,l=.mk 1 t c::r∧t.kind=1∧s=t.text:=by
 unfold name at h;rw[Option.map_eq_some_iff] at h;obtain⟨t,ht,e⟩:=h;obtain⟨c,m,rfl,hk⟩:=tQ ht;cases e;exact⟨t,c,rfl,hk,rfl⟩
theorem lF {k:Int} {l c r:List Val} {t:Tok} (h:eP k l=some ((t,c),r)):l=.mk k t c::r:=by
 cases l with
 | nil=>cases h
 | cons v m =>
  obtain⟨k',u,c'⟩:=v;have h':(if k'=k then some ((u,c'),m) else none)=some ((t,c),r):=h
  split at h'
  ·rename_i hc;cases h';subst hc;rfl
  ·cases h'
theorem G7 {l:List Val} {v:Val} (h:v∈trim l):v∈l:=by
 unfold trim at h;have h1:=List.mem_reverse.1 h
 have h2:=(List.dropWhile_sublist _).subset h1
 exact(List.dropWhile_sublist _).subset (List.mem_reverse.1 h2)
theorem Hk (s:List UInt8):∀ (l:List Val), ∀ p∈at_ s l, ∀ v∈p,v∈l
 | [],p,hp,v,hv=>by
  obtain rfl:p=[]:=by simpa[at_] using hp
  cases hv
 | w::l,p,hp,v,hv=>by
  have ih:=Hk s l
  rw[at_] at hp;split at hp
  ·rcases List.mem_cons.1 hp with rfl|hp
   ·cases hv
   ·simp[ih p hp v hv]
  ·split at hp
   ·obtain rfl:p=[w]:=by simpa using hp
    simpa using Or.inl (List.mem_singleton.1 hv)
   ·rename_i q qs e;rcases List.mem_cons.1 hp with rfl|hp
    ·rcases List.mem_cons.1 hv with rfl|hv
     ·simp
     ·simp[ih q (by rw[e];simp) v hv]
    ·simp[ih p (by rw[e];simp[hp]) v hv]
end Sl
end Go.Abs
namespace Go.Abs
namespace Sl
def fE (s:List UInt8) (l:List Val):Bool:=l.any (aW s)
def Fr (l:List Val):Prop:=∀ v r,l=v::r→ay v=false
theorem Fr.drop {l:List Val} (h:Fr l):l.dropWhile ay=l:=by
 cases l with
 | nil=>rfl
 | cons v r=>rw[List.dropWhile_cons,if_neg (by rw[h v r rfl];simp)]
theorem Al (l:List Val):Fr (trim l).reverse:=fun v r h=>by
 have:=congrArg List.reverse h
 rw[List.reverse_reverse,List.reverse_cons] at this
 exact EZ this
theorem Fr.pre {l a b:List Val} (h:Fr l) (e:l=a++b):Fr a:=fun v r h2=>by
 subst h2;exact h v (r++b) (by rw[e];rfl)
theorem JX (l:List Val):Fr (l.dropWhile ay):=fun v r h=>pW l v r h
theorem oY (s:List UInt8):∀ l:List Val, ∀ q∈at_ s l,(∀ v∈q,v∈l)∧fE s q=false
 | [],q,hq=>by
  rw[at_,List.mem_singleton] at hq;subst hq;exact⟨fun v hv=>hv,rfl⟩
 | x::l,q,hq=>by
  rw[at_] at hq;split at hq
  ·rcases List.mem_cons.1 hq with rfl|hq
   ·exact⟨(fun v hv=>by cases hv),rfl⟩
   ·obtain⟨h1,h2⟩:=oY s l q hq;exact⟨fun v hv=>by simp[h1 v hv],h2⟩
  ·rename_i hx;split at hq
   ·rename_i e;rw[List.mem_singleton] at hq;subst hq;exact⟨fun v hv=>by rw[List.mem_singleton] at hv;simp[hv],by simp[fE,hx]⟩
   ·rename_i p ps e;rcases List.mem_cons.1 hq with rfl|hq
    ·obtain⟨h1,h2⟩:=oY s l p (by rw[e];simp)
     refine⟨fun v hv => ?_,?_⟩
     ·rcases List.mem_cons.1 hv with rfl|hv
      ·simp
      ·simp[h1 v hv]
     ·unfold fE at h2 ⊢;rw[List.any_cons,h2]
      simpa using hx
    ·obtain⟨h1,h2⟩:=oY s l q (by rw[e];simp[hq])
     exact⟨fun v hv=>by simp[h1 v hv],h2⟩
end Sl
end Go.Abs
namespace Go.Abs
namespace Sl
theorem all_nil:all_ []=some []:=by rw[all_]
theorem all_cons (p:List Val) (ps:List (List Val)):all_ (p::ps)=match cpx 16 0 (trim p),all_ ps with
  | some c,some cs=>some (c::cs)
  | _,_=>none:=by
 rw[all_]
 all_goals (cases cpx 16 0 (trim p)<;>cases all_ ps<;>rfl)
theorem m8:∀ {ps:List (List Val)} {l:List Cpx},all_ ps=some l→l.length=ps.length
 | [],l,h=>by
  rw[all_nil] at h;cases h;rfl
 | p::ps,l,h=>by
  rw[all_cons] at h;split at h
  ·rename_i c cs _ hcs;cases h;rw[List.length_cons,List.length_cons,m8 hcs]
  ·cases h
end Sl
end Go.Abs
namespace Go.Abs
namespace Sl
open Tk (jV within digit begins at0 all)
theorem kx {v:Val}:∀ {l:List Val},v∈l→ay v=true∨v∈l.dropWhile ay
 | x::l,h=>by
  rw[List.dropWhile_cons];split
  ·rename_i hx;rcases List.mem_cons.1 h with rfl|h
   ·exact .inl hx
   ·exact kx h
  ·exact .inr h
theorem yY {v:Val} {l:List Val} (h:v∈l):ay v=true∨v∈trim l:=by
 unfold trim;rcases kx h with h|h
 ·exact .inl h
 ·rcases kx (List.mem_reverse.2 h) with h|h
  ·exact .inl h
  ·exact .inr (List.mem_reverse.2 h)
theorem gX {v:Val} {t:Tok} {c:List Val} (h:v=.mk 1 t c):Ne.ku v=0:=by
 subst h;rw[Ne.ku];rfl
theorem qk {v:Val} (h:ay v=true):Ne.ku v=0:=by
 obtain⟨k,t,c⟩:=v;have:(k==1&&t.kind==8)=true:=h
 simp only[Bool.and_eq_true,beq_iff_eq] at this
 obtain⟨rfl,_⟩:=this;exact gX rfl
theorem nQ {l:List Val} {n:Nat} (h:Ne.depth (trim l)≤n):Ne.depth l≤n:=by
 rw[jZ] at h ⊢;intro v hv;rcases yY hv with h1|h1
 ·rw[qk h1];omega
 ·exact h v h1
theorem Fz (k:Int) (t:Tok) (c:List Val):Ne.ku (.mk k t c)≤1+Ne.depth c:=by
 rw[Ne.ku];split
 ·omega
 ·omega
def Sv (n:Nat) (v:Val):Prop:=Ne.ku v≤n∧∀ t m,v=.mk 1 t m→Ne.ef 5 t=false
theorem wS {n:Nat} {t:Tok} {c:List Val} (h:t.kind≠7):Sv n (.mk 1 t c):=by
 refine⟨by rw[gX rfl];omega,fun u m e => ?_⟩
 cases e
 unfold Ne.ef;rw[Bool.and_eq_false_iff]
 right
 exact decide_eq_false fun e=>h (by rw[e];rfl)
theorem pC {n:Nat} {v:Val} {s:List UInt8} (h:aW s v=true) (hs:s≠[41]):Sv n v:=by
 obtain⟨k,t,c⟩:=v;have:(k==1&&decide (t=⟨7,s,0⟩))=true:=h
 simp only[Bool.and_eq_true,beq_iff_eq,decide_eq_true_eq] at this
 obtain⟨rfl,rfl⟩:=this;refine⟨by rw[gX rfl];omega,fun u m e => ?_⟩
 cases e
 unfold Ne.ef;rw[Bool.and_eq_false_iff]
 right
 exact decide_eq_false fun e=>hs (congrArg Tok.text e)
theorem tj {n:Nat} {k:Int} {t:Tok} {c:List Val} (hk:k≠1) (h:Ne.depth c≤n):Sv (n+1) (.mk k t c):=by
 refine⟨by have:=Fz k t c;omega,fun u m e => ?_⟩
 cases e
 exact absurd rfl hk
theorem sK {k:Int} {l:List Val} {t:Tok} (h:tokK k l=some t):∃ c r,l=.mk 1 t c::r∧t.kind=k:=by
 cases l with
 | nil=>cases h
 | cons v r =>
  obtain⟨k',t',c⟩:=v;have h':(if k'=1∧t'.kind=k then some t' else none)=some t:=h
  split at h'
  ·rename_i hc;cases h';obtain⟨rfl,h2⟩:=hc;exact⟨c,r,rfl,h2⟩
  ·cases h'
theorem fN {s:List UInt8} {l r:List Val} (h:sign s l=some r):∃ v,l=v::r∧aW s v=true:=by
 cases l with
 | nil=>cases h
 | cons v m =>
  have h':(if aW s v then some m else none)=some r:=h
  split at h'
  ·rename_i hv;cases h';exact⟨v,rfl,hv⟩
  ·cases h'
theorem vw {k:Int} {l r c:List Val} {t:Tok} (h:eP k l=some ((t,c),r)):l=.mk k t c::r:=by
 cases l with
 | nil=>cases h
 | cons v m =>
  obtain⟨k',t',c'⟩:=v;have h':(if k'=k then some ((t',c'),m) else none)=some ((t,c),r):=h
  split at h'
  ·rename_i hk;cases h';rw[hk]
  ·cases h'
theorem tW {l r:List Val} {s:List UInt8} (h:name l=some (s,r)):∃ t c,l=.mk 1 t c::r∧t.kind=1:=by
 unfold name at h;rw[Option.map_eq_some_iff] at h;obtain⟨t,ht,e⟩:=h;obtain⟨c,m,rfl,hk⟩:=sK ht;cases e;exact⟨t,c,rfl,hk⟩
theorem AQ {c:List Val} {x:Int×Int} (h:nthM c=some x):Ne.depth c≤0:=by
 refine nQ ?_
 unfold nthM at h;split at h
 case h_2=>cases h
 rename_i y hy;unfold nth at hy;rw[jZ];split at hy
 ·rename_i k t c' e;split at hy
  ·rename_i hk;subst hk;intro v hv;rw[e,List.mem_singleton] at hv;rw[gX hv];omega
  ·cases hy
 ·rename_i k t c' s k' u c'' e;split at hy
  ·rename_i hc;obtain⟨rfl,_,_,hs,rfl,_⟩:=hc;intro v hv;rw[e] at hv;simp only[List.mem_cons,List.not_mem_nil,or_false] at hv;rcases hv with hv|rfl|hv
   ·rw[gX hv];omega
   ·exact(pC (n:=0) hs (by decide)).1
   ·rw[gX hv];omega
  ·cases hy
 ·cases hy
theorem xo {c:List Val} {x:Sim} (h:attr c=some x):Ne.depth c≤0:=by
 have key:∀ v∈c.filter (fun v => !ay v),Ne.ku v≤0:=by
  unfold attr at h;split at h
  ·rename_i k t c' e;split at h
   ·rename_i hk;obtain⟨rfl,_⟩:=hk;intro v hv;rw[e,List.mem_singleton] at hv;rw[gX hv];omega
   ·cases h
  ·rename_i k t c' s k' u c'' e;split at h
   ·rename_i hc;obtain⟨rfl,_,hs,rfl,_⟩:=hc;intro v hv;rw[e] at hv;simp only[List.mem_cons,List.not_mem_nil,or_false] at hv;rcases hv with hv|rfl|hv
    ·rw[gX hv];omega
    ·exact(pC (n:=0) hs (by decide)).1
    ·rw[gX hv];omega
   ·cases h
  ·cases h
 rw[jZ];intro v hv;cases hb:ay v with
 | true=>rw[qk hb];omega
 | false=>exact key v (List.mem_filter.2 ⟨hv,by rw[hb];rfl⟩)
theorem ME {n m:Nat} (h:n≤m) {v:Val} (hv:Sv n v):Sv m v:=⟨Nat.le_trans hv.1 h,hv.2⟩
theorem nb:∀ (f:Nat) (first:Bool) (l:List Val) (x:Sim) (r:List Val),simple f first l=some (x,r)→∃ p,l=p++r∧(∀ v∈p,Sv 2 v)∧(x.kind≠11→∀ v∈p,Sv 1 v)
 | 0,_,_,_,_,h=>by rw[simple] at h;cases h
 | f+1,first,l,x,r,h=>by
  rw[simple] at h;have two:∀ {p:List Val},l=p++r→(∀ v∈p,Sv 1 v)→∃ p,l=p++r∧(∀ v∈p,Sv 2 v)∧(x.kind≠11→∀ v∈p,Sv 1 v):=fun {p} e hp=>⟨p,e,fun v hv=>ME (by decide) (hp v hv),fun _=>hp⟩
  split at h
  ·rename_i t ht;cases h;have ht':tokK 1 l=some t:=by
    split at ht
    ·exact ht
    ·cases ht
   obtain⟨c,m,rfl,hk⟩:=sK ht';exact two (p:=[.mk 1 t c]) rfl fun v hv=>by
    rw[List.mem_singleton] at hv;subst hv;exact wS (by omega)
  split at h
  ·rename_i m hm;cases h;have hm':sign [42] l=some r:=by
    split at hm
    ·exact hm
    ·cases hm
   obtain⟨v,rfl,hv⟩:=fN hm';exact two (p:=[v]) rfl fun w hw=>by
    rw[List.mem_singleton] at hw;subst hw;exact pC hv (by decide)
  split at h
  ·rename_i t ht;cases h;obtain⟨c,m,rfl,hk⟩:=sK ht;exact two (p:=[.mk 1 t c]) rfl fun v hv=>by
    rw[List.mem_singleton] at hv;subst hv;exact wS (by omega)
  split at h
  ·rename_i m hm;obtain⟨v,rfl,hv⟩:=fN hm;rw[Option.map_eq_some_iff] at h;obtain⟨⟨s,r'⟩,hn,e⟩:=h;cases e;obtain⟨t,c,rfl,hk⟩:=tW hn;exact two (p:=[v,.mk 1 t c]) rfl fun w hw=>by
    simp only[List.mem_cons,List.not_mem_nil,or_false] at hw;rcases hw with rfl|rfl
    ·exact pC hv (by decide)
    ·exact wS (by omega)
  split at h
  ·rename_i m hm;obtain⟨v,rfl,hv⟩:=fN hm;have hvs:∀ n,Sv n v:=fun n=>pC hv (by decide)
   unfold colon at h;split at h
   ·rename_i t c r' hval;obtain rfl:=vw hval;split at h
    ·rw[Option.map_eq_some_iff] at h;obtain⟨y,hy,e⟩:=h;cases e;have hd:=AQ hy
     exact two (p:=[v,.mk 5 t c]) rfl fun w hw=>by
      simp only[List.mem_cons,List.not_mem_nil,or_false] at hw;rcases hw with rfl|rfl
      ·exact hvs 1
      ·exact tj (by decide) hd
    ·split at h
     ·split at h
      ·rename_i y hy;split at h
       ·cases h
       ·rename_i hk;cases h;obtain⟨p,e,_,h1⟩:=nb f true (trim c) y [] hy;rw[List.append_nil] at e
        have hd:Ne.depth c≤1:=nQ (by
         rw[jZ,e];exact fun w hw=>(h1 hk w hw).1)
        refine⟨[v,.mk 5 t c],rfl,fun w hw => ?_,fun hx=>absurd rfl hx⟩
        simp only[List.mem_cons,List.not_mem_nil,or_false] at hw;rcases hw with rfl|rfl
        ·exact hvs 2
        ·exact tj (by decide) hd
      ·cases h
     ·cases h
   ·split at h
    ·rename_i s r' hn;rw[Option.map_eq_some_iff] at h;obtain⟨y,hy,e⟩:=h;cases e;obtain⟨t,c,rfl,hk⟩:=tW hn;exact two (p:=[v,.mk 1 t c]) rfl fun w hw=>by
      simp only[List.mem_cons,List.not_mem_nil,or_false] at hw;rcases hw with rfl|rfl
      ·exact hvs 1
      ·exact wS (by omega)
    ·cases h
  split at h
  ·rename_i y hy;obtain⟨⟨t,c⟩,r'⟩:=y;obtain rfl:=vw hy;rw[Option.map_eq_some_iff] at h;obtain⟨z,hz,e⟩:=h;cases e;have hd:=xo hz
   exact two (p:=[.mk 3 t c]) rfl fun w hw=>by
    rw[List.mem_singleton] at hw;subst hw;exact tj (by decide) hd
  ·cases h
end Sl
end Go.Abs
namespace Go.Abs
namespace Sl
def numP (l:List Val):Option (Int×List Val):=match tokK 5 l with
 | some t=>if t.text=[] then some (t.n,l.tail) else none
 | none=>none
def kQ (s:List UInt8):Option (Int×Int):=if s=[111,100,100] then some (2,1) else if s=[101,118,101,110] then some (2,0) else if s=[110] then some (1,0) else none
def vC (s:List UInt8):Option Int:=if s.take 2=[110,45]∧0≤digits (s.drop 2) then some (-digits (s.drop 2)) else none
def nthP (l:List Val):Option ((Int×Int)×List Val) :=
  match tokK 1 l with
  | some t=>(kQ t.text).map fun x=>(x,l.tail)
  | none =>
  match tokK 5 l with
  | none=>none
  | some t =>
    if t.text=[] then some ((0,t.n),l.tail)
    else if t.text=[110] then
      (match sign [43] l.tail with
       | some r=>(match numP r with
         | some (b,m)=>if 0≤b then some ((t.n,b),m) else none
         | none=>none)
       | none=>some ((t.n,0),l.tail))
    else(vC t.text).map fun b=>((t.n,b),l.tail)
def f8 {α:Type} (f:List Val→Option (α×List Val)) (l:List Val):Option α:=match f (trim l) with
 | some (x,[])=>some x
 | _=>none
theorem AW {s:List UInt8} (h:0≤digits s):0<s.length:=by
 unfold digits at h;split at h
 ·omega
 ·omega
theorem Dj (v:List Val):f8 nthP v=nth v:=by
 unfold f8 nth;generalize trim v=l
 match l with
 | []=>rfl
 | [.mk k t c] =>
  unfold nthP tokK nth1 kQ vC;simp only[List.tail_cons];by_cases hk:k=1
  ·subst hk;by_cases h1:t.kind=1
   ·simp only[h1,if_true,and_self];split
    ·rename_i x hx;split at hx
     ·cases hx;rename_i e;rw[if_pos e]
     ·rename_i e;rw[if_neg e];split at hx
      ·cases hx;rename_i e;rw[if_pos e]
      ·rename_i e;rw[if_neg e];split at hx
       ·cases hx;rename_i e;rw[if_pos e]
       ·cases hx
    ·rename_i hx;split at hx
     ·exact absurd rfl (hx _)
     ·rename_i e;rw[if_neg e];split at hx
      ·exact absurd rfl (hx _)
      ·rename_i e;rw[if_neg e];split at hx
       ·exact absurd rfl (hx _)
       ·rename_i e;rw[if_neg e]
   ·simp only[h1,and_false,if_false,true_and];by_cases h5:t.kind=5
    ·simp only[h5,if_true];by_cases ht:t.text=[]
     ·simp only[ht,if_true]
     ·simp only[ht,if_false];by_cases hn:t.text=[110]
      ·simp only[hn,if_true];rfl
      ·simp only[hn,if_false];by_cases hl:t.text.take 2=[110,45]∧0≤digits (t.text.drop 2)
       ·have h3:=AW hl.2
        rw[List.length_drop] at h3;rw[if_pos hl,if_pos ⟨by omega,hl⟩]
        rfl
       ·rw[if_neg hl,if_neg fun h=>hl h.2]
        rfl
    ·simp[h5]
  ·simp[hk]
 | [.mk k t c,s] =>
  unfold nthP tokK kQ vC;simp only[List.tail_cons];by_cases hk:k=1
  ·subst hk;by_cases h1:t.kind=1
   ·simp only[h1,and_self,if_true];split
    ·rename_i x hx;rw[Option.map_eq_some_iff] at hx;obtain⟨y,_,e⟩:=hx;cases e
    ·rfl
   ·simp only[h1,and_false,if_false,true_and];by_cases h5:t.kind=5
    ·simp only[h5,if_true];by_cases ht:t.text=[]
     ·simp only[ht,if_true]
     ·simp only[ht,if_false];by_cases hn:t.text=[110]
      ·simp only[hn,if_true,sign];cases hs:aW [43] s
       ·simp
       ·simp[numP,tokK]
      ·simp only[hn,if_false];split
       ·rename_i x hx;rw[Option.map_eq_some_iff] at hx;obtain⟨y,_,e⟩:=hx;cases e
       ·rfl
    ·simp[h5]
  ·simp[hk]
 | [.mk k t c,s,.mk k' u c'] =>
  unfold nthP tokK kQ vC;simp only[List.tail_cons];by_cases hk:k=1
  ·subst hk;by_cases h1:t.kind=1
   ·have h15:((1:Int)=5)=False:=by simp
    simp only[h1,h15,and_self,if_true,false_and,and_false,if_false];split
    ·rename_i x hx;rw[Option.map_eq_some_iff] at hx;obtain⟨y,_,e⟩:=hx;cases e
    ·rfl
   ·simp only[h1,and_false,if_false,true_and];by_cases h5:t.kind=5
    ·simp only[h5,if_true,true_and];by_cases ht:t.text=[]
     ·simp[ht]
     ·simp only[ht,if_false];by_cases hn:t.text=[110]
      ·simp only[hn,if_true,sign,true_and];cases hs:aW [43] s
       ·simp
       ·simp only[if_true,numP,tokK,true_and,List.tail_cons];by_cases hk':k'=1∧u.kind=5
        ·rw[if_pos hk'];simp only;by_cases hu:u.text=[]
         ·rw[if_pos hu];simp only;by_cases h0:0≤u.n
          ·rw[if_pos h0,if_pos ⟨hk'.1,hk'.2,hu,h0⟩]
          ·rw[if_neg h0,if_neg fun h=>h0 h.2.2.2]
         ·rw[if_neg hu,if_neg fun h=>hu h.2.2.1]
        ·rw[if_neg hk',if_neg fun h=>hk' ⟨h.1,h.2.1⟩]
      ·simp only[hn,if_false,false_and];split
       ·rename_i x hx;rw[Option.map_eq_some_iff] at hx;obtain⟨y,_,e⟩:=hx;cases e
       ·rfl
    ·simp[h5]
  ·simp[hk]
 | .mk k t c::s::w::z::m =>
  unfold nthP tokK kQ vC;simp only[List.tail_cons];by_cases hk:k=1
  ·subst hk;by_cases h1:t.kind=1
   ·simp only[h1,and_self,if_true];split
    ·rename_i x hx;rw[Option.map_eq_some_iff] at hx;obtain⟨y,_,e⟩:=hx;cases e
    ·rfl
   ·simp only[h1,and_false,if_false,true_and];by_cases h5:t.kind=5
    ·simp only[h5,if_true];by_cases ht:t.text=[]
     ·simp only[ht,if_true]
     ·simp only[ht,if_false];by_cases hn:t.text=[110]
      ·simp only[hn,if_true,sign];cases hs:aW [43] s
       ·simp
       ·simp only[if_true];split
        ·rename_i x hx;split at hx
         ·rename_i b q hq;split at hx
          ·cases hx
           unfold numP at hq;split at hq
           ·split at hq
            ·cases hq
            ·cases hq
           ·cases hq
          ·cases hx
         ·cases hx
        ·rfl
      ·simp only[hn,if_false];split
       ·rename_i x hx;rw[Option.map_eq_some_iff] at hx;obtain⟨y,_,e⟩:=hx;cases e
       ·rfl
    ·simp[h5]
  ·simp[hk]
def ol:List Val→Bool
 | []=>true
 | v::_=>ay v||(aW [44] v||(aW [62] v||(aW [43] v||aW [126] v)))
def mw (l:List Val):Option (List UInt8×List Val):=match name (l.drop 2) with
 | some (s,r)=>if s=fg∨s=fZ then some (s,r) else none
 | none=>none
def mT:Nat→List Sim→List Val→Option ((List Sim×List UInt8)×List Val)
 | 0,_,_=>none
 | f+1,acc,l =>
  if ol l then(if acc.isEmpty then none else some ((acc,[]),l))
  else if double l then(mw l).map fun x=>((acc,x.1),x.2)
  else if acc.length<8 then(match simple (Ne.size l) acc.isEmpty l with
   | some (x,r)=>mT f (acc++[x]) r
   | none=>none)
  else none
def kM (l:List Val):Int×List Val :=
 let m:=l.dropWhile ay
 match sign [62] m with
 | some r=>(2,r.dropWhile ay)
 | none =>
 match sign [43] m with
 | some r=>(3,r.dropWhile ay)
 | none =>
 match sign [126] m with
 | some r=>(4,r.dropWhile ay)
 | none=>if m.length<l.length∧m≠[] then(1,m) else(0,m)
def cpxP:Nat→Int→List Prt→List Val→Option (Cpx×List Val)
 | 0,_,_,_=>none
 | n+1,c,acc,l=>match mT (l.length+1) [] l with
  | none=>none
  | some ((ps,s),r) =>
   if s≠[] then some (⟨acc++[⟨c,ps⟩],s⟩,r)
   else if (kM r).1=0 then some (⟨acc++[⟨c,ps⟩],[]⟩,(kM r).2)
   else cpxP n (kM r).1 (acc++[⟨c,ps⟩]) (kM r).2
theorem Dl {l:List Val} (h:fE [44] l=false):ol l=over l:=by
 cases l with
 | nil=>rfl
 | cons v l =>
  unfold fE at h;rw[List.any_cons,Bool.or_eq_false_iff] at h
  show (ay v||(aW [44] v||(aW [62] v||(aW [43] v||aW [126] v))))=(ay v||aW [62] v||aW [43] v||aW [126] v)
  rw[h.1];simp only[Bool.false_or,Bool.or_assoc]
theorem qC:∀ (f:Nat) (first:Bool) (l:List Val) (ps:List Sim) (r:List Val),part f first l=some (ps,r)→∃ p,l=p++r
 | 0,_,_,_,_,h=>by cases h
 | f+1,first,l,ps,r,h=>by
  rw[part] at h;split at h
  ·cases h;exact⟨[],rfl⟩
  ·split at h
   ·cases h
   ·rename_i x m hs;rw[Option.map_eq_some_iff] at h;obtain⟨⟨qs,r'⟩,hp,e⟩:=h;cases e;obtain⟨p,rfl,_⟩:=nb _ _ _ _ _ hs;obtain⟨p',rfl⟩:=qC f false m qs r' hp;exact⟨p++p',by rw[List.append_assoc]⟩
theorem vv:∀ (f:Nat) (first:Bool) (l:List Val) (ps:List Sim) (r:List Val),part f first l=some (ps,r)→over r=true∨double r=true
 | 0,_,_,_,_,h=>by cases h
 | f+1,first,l,ps,r,h=>by
  rw[part] at h;split at h
  ·rename_i hc;cases h
   simpa using hc
  ·split at h
   ·cases h
   ·rename_i x m hs;rw[Option.map_eq_some_iff] at h;obtain⟨⟨qs,r'⟩,hp,e⟩:=h;cases e;exact vv f false m qs r' hp
theorem p8 {s:List UInt8} {p r:List Val} (h:fE s (p++r)=false):fE s r=false:=by
 unfold fE at h ⊢;rw[List.any_append,Bool.or_eq_false_iff] at h;exact h.2
theorem yQ {v:Val} {l:List Val} (h:double (v::l)=true):over (v::l)=false:=by
 obtain⟨k,t,c⟩:=v;cases l with
 | nil=>cases h
 | cons w l =>
  unfold double at h;rw[Bool.and_eq_true] at h;have h1:=h.1
  unfold aW at h1;simp only[Bool.and_eq_true,beq_iff_eq,decide_eq_true_eq] at h1;obtain⟨rfl,rfl⟩:=h1;rfl
def xk (acc:List Sim) (r:List Val):Option ((List Sim×List UInt8)×List Val) :=
 if 8<acc.length then none
 else if over r then(if acc.isEmpty then none else some ((acc,[]),r)) else(mw r).map fun x=>((acc,x.1),x.2)
theorem vl:∀ (f:Nat) (acc:List Sim) (l:List Val),fE [44] l=false→acc.length≤8→mT f acc l=(match part f acc.isEmpty l with
  | none=>none
  | some (ps,r)=>xk (acc++ps) r)
 | 0,_,_,_,_=>rfl
 | f+1,acc,l,hc,h8=>by
  rw[mT,part,Dl hc];cases ho:over l with
  | true =>
   simp only[Bool.true_or,if_true,List.append_nil];unfold xk;rw[if_neg (show ¬ 8<acc.length by omega),ho]
   rfl
  | false =>
   simp only[Bool.false_or,Bool.false_eq_true,if_false];cases hd:double l with
   | true =>
    simp only[if_true,List.append_nil];unfold xk;rw[if_neg (show ¬ 8<acc.length by omega),ho]
    rfl
   | false =>
    simp only[Bool.false_eq_true,if_false];cases hs:simple (Ne.size l) acc.isEmpty l with
    | none=>simp
    | some y =>
     obtain⟨x,m⟩:=y;simp only;obtain⟨p,rfl,_⟩:=nb _ _ _ _ _ hs;have hcm:=p8 hc
     have he:(acc++[x]).isEmpty=false:=by simp
     by_cases h7:acc.length<8
     ·rw[if_pos h7,vl f (acc++[x]) m hcm (by rw[List.length_append,List.length_singleton];omega),he]
      cases part f false m with
      | none=>rfl
      | some z =>
       simp only[Option.map_some,List.append_assoc,List.singleton_append]
     ·rw[if_neg h7];cases part f false m with
      | none=>rfl
      | some z =>
       simp only[Option.map_some];unfold xk;rw[if_pos (by simp;omega)]
theorem E7 {r:List Val} (ho:over r=true) (hne:r≠[]) (hr:Fr r.reverse) (hc:fE [44] r=false):kM r=comb r∧(comb r).1≠0:=by
 have hm:r.dropWhile ay≠[]:=fun e=>by
  have h1:∀ v∈r,ay v=true:=by
   intro v hv;rcases kx hv with h|h
   ·exact h
   ·rw[e] at h;cases h
  cases hrr:r.reverse with
  | nil=>exact hne (by simpa using hrr)
  | cons v q =>
   have:=hr v q hrr
   have hv:v∈r:=by
    have:v∈r.reverse:=by rw[hrr];simp
    simpa using this
   rw[h1 v hv] at this
   cases this
 unfold kM comb;simp only;cases h1:sign [62] (r.dropWhile ay) with
 | some x=>simp
 | none =>
  cases h2:sign [43] (r.dropWhile ay) with
  | some x=>simp
  | none =>
   cases h3:sign [126] (r.dropWhile ay) with
   | some x=>simp
   | none =>
    have hl:(r.dropWhile ay).length<r.length:=by
     cases r with
     | nil=>exact absurd rfl hne
     | cons v q =>
      cases hv:ay v with
      | true =>
       rw[List.dropWhile_cons,if_pos hv];have:=(List.dropWhile_sublist ay (l:=q)).length_le
       simp only[List.length_cons];omega
      | false =>
       exfalso
       rw[List.dropWhile_cons,if_neg (by rw[hv];simp)] at h1 h2 h3
       have ho:(ay v||aW [62] v||aW [43] v||aW [126] v)=true:=ho
       rw[hv] at ho;simp only[sign] at h1 h2 h3;simp only[Bool.false_or,Bool.or_eq_true] at ho;rcases ho with(ho|ho)|ho
       ·rw[if_pos ho] at h1;cases h1
       ·rw[if_pos ho] at h2;cases h2
       ·rw[if_pos ho] at h3;cases h3
    simp only;rw[if_pos ⟨hl,hm⟩,(JX r).drop];exact⟨rfl,by simp⟩
theorem zo (r:List Val):∃ p,r=p++(comb r).2:=by
 obtain⟨p,hp⟩:=List.dropWhile_suffix ay (l:=r);have key:∀ {s:List UInt8} {x:List Val},sign s (r.dropWhile ay)=some x→∃ p,r=p++x.dropWhile ay:=fun {s x} h=>by
  obtain⟨v,e,_⟩:=fN h;obtain⟨q,hq⟩:=List.dropWhile_suffix ay (l:=x);exact⟨p++(v::q),by rw[←hp,e,List.append_assoc,List.cons_append,hq]⟩
 unfold comb;simp only;cases h1:sign [62] (r.dropWhile ay) with
 | some x=>exact key h1
 | none =>
  cases h2:sign [43] (r.dropWhile ay) with
  | some x=>exact key h2
  | none =>
   cases h3:sign [126] (r.dropWhile ay) with
   | some x=>exact key h3
   | none =>
    obtain⟨q,hq⟩:=List.dropWhile_suffix ay (l:=r.dropWhile ay);refine⟨p++q,?_⟩
    show r=p++q++(r.dropWhile ay).dropWhile ay
    rw[List.append_assoc,hq,hp]
theorem uD {l p r:List Val} (h:Fr l.reverse) (e:l=p++r):Fr r.reverse:=by
 subst e;rw[List.reverse_append] at h;exact h.pre rfl
def fin {α:Type}:Option (α×List Val)→Option α
 | some (x,[])=>some x
 | _=>none
theorem CI:∀ (n:Nat) (c:Int) (acc:List Prt) (l:List Val),fE [44] l=false→Fr l.reverse →
  fin (cpxP n c acc l)=(cpx n c l).map fun x=>⟨acc++x.parts,x.pseudo⟩
 | 0,_,_,_,_,_=>rfl
 | n+1,c,acc,l,hc,hl=>by
  rw[cpxP,cpx,vl _ _ _ hc (by simp),List.isEmpty_nil]
  cases hp:part (l.length+1) true l with
  | none=>rfl
  | some z =>
   obtain⟨ps,r⟩:=z;obtain⟨p,rfl⟩:=qC _ _ _ _ _ hp;have hcr:=p8 hc
   have hlr:=uD hl rfl
   have hst:=vv _ _ _ _ _ hp
   simp only[List.nil_append];unfold xk;by_cases h8:8<ps.length
   ·rw[if_pos h8];cases hd:double r with
    | true =>
     simp only[if_true];have:∀ s, ¬ ((s=fg∨s=fZ)∧ps.length≤8):=fun s h=>by omega
     split
     ·rw[if_neg (this _)];rfl
     ·rfl
    | false =>
     simp only[Bool.false_eq_true,if_false];rw[if_pos (.inl h8)];rfl
   rw[if_neg h8];cases hd:double r with
   | true =>
    have ho:over r=false:=by
     cases r with
     | nil=>cases hd
     | cons v q=>exact yQ hd
    rw[ho];simp only[Bool.false_eq_true,if_false,if_true];unfold mw;cases hn:name (r.drop 2) with
    | none=>rfl
    | some y =>
     obtain⟨s,q⟩:=y;simp only;by_cases hs:s=fg∨s=fZ
     ·have hsn:s≠[]:=by
       rcases hs with rfl|rfl
       ·decide
       ·decide
      rw[if_pos hs];simp only[Option.map_some];rw[if_pos hsn];cases q with
      | nil =>
       simp only;rw[if_pos ⟨hs,by omega⟩];rfl
      | cons _ _=>rfl
     ·rw[if_neg hs];cases q with
      | nil =>
       simp only;rw[if_neg fun h=>hs h.1];rfl
      | cons _ _=>rfl
   | false =>
    have ho:over r=true:=by
     rcases hst with h|h
     ·exact h
     ·rw[hd] at h;cases h
    rw[ho];simp only[Bool.false_eq_true,if_false,if_true];cases ps with
    | nil=>simp[fin]
    | cons x ps =>
     simp only[List.isEmpty_cons,Bool.false_eq_true,if_false,ne_eq,not_true_eq_false];rw[if_neg (show ¬ (8<(x::ps).length∨x::ps=[]) by simp;simpa using h8)]
     cases hr:r with
     | nil=>rfl
     | cons v q =>
      rw[←hr];have hne:r≠[]:=by rw[hr];simp
      obtain⟨e1,e2⟩:=E7 ho hne hlr hcr;obtain⟨p',e3⟩:=zo r;have hre:r.isEmpty=false:=by rw[hr];rfl
      rw[e1,if_neg e2,hre];have hc2:fE [44] (comb r).2=false:=by
       rw[e3] at hcr;exact p8 hcr
      simp only[Bool.false_eq_true,if_false];rw[CI n _ _ _ hc2 (uD hlr e3),Option.map_map]
      congr 1
      funext x
      simp
theorem EN {l:List Val} (hc:fE [44] l=false):f8 (cpxP 16 0 []) l=cpx 16 0 (trim l):=by
 have hct:fE [44] (trim l)=false:=by
  unfold fE at hc ⊢;rw[List.any_eq_false] at hc ⊢;exact fun v hv=>hc v (ED hv)
 have h:=CI 16 0 [] (trim l) hct (Al l)
 unfold f8;unfold fin at h;rw[h];simp
end Sl
end Go.Abs
namespace Go.Abs
namespace Sl
def sw:List UInt8:=[48,49,50,51,52,53,54,55,56,57]
theorem B3 (c:UInt8):sw.contains c=Tk.digit c:=by
 have h:∀ n∈List.range 256,sw.contains (UInt8.ofNat n)=Tk.digit (UInt8.ofNat n):=by decide +kernel
 have:=h c.toNat (List.mem_range.2 c.toNat_lt)
 rwa [UInt8.ofNat_toNat] at this
theorem sN {p:UInt8→Bool} {l:List UInt8}:l.dropWhile p=[]↔l.all p=true:=by
 induction l with
 | nil=>simp
 | cons c l ih =>
  rw[List.dropWhile_cons,List.all_cons];split
  ·rename_i h;rw[h,Bool.true_and];exact ih
  ·rename_i h;simp[h]
theorem xJ (s:List UInt8):(Lib.trimS s sw==[])=s.all Tk.digit:=by
 have hf:(fun c=>sw.contains c)=Tk.digit:=funext B3
 unfold Lib.trimS Lib.trimLeftS Lib.trimRightS;rw[hf,Bool.eq_iff_iff,beq_iff_eq,sN,List.all_reverse];constructor
 ·intro h;rw[List.all_eq_true] at h ⊢;have h2:s.reverse.dropWhile Tk.digit=[]:=by
   cases hd:s.reverse.dropWhile Tk.digit with
   | nil=>rfl
   | cons c r =>
    have hc:=h c (by rw[hd];simp)
    have:¬ (Tk.digit c=true):=by
     have:=List.head?_dropWhile_not Tk.digit s.reverse
     rw[hd] at this
     simpa using this
    exact absurd hc this
  rw[sN,List.all_reverse,List.all_eq_true] at h2;exact h2
 ·intro h;have:s.reverse.dropWhile Tk.digit=[]:=by rw[sN,List.all_reverse];exact h
  rw[this];rfl
theorem lJ:∀ (s:List UInt8) (n:Nat),s.all Tk.digit=true→∃ m:Nat,Lib.decFrom n s=some m∧(m:Int)=s.foldl (fun n c=>10*n+((c.toNat:Int) - 48)) (n:Int)
 | [],n,_=>⟨n,rfl,rfl⟩
 | c::s,n,h=>by
  rw[List.all_cons,Bool.and_eq_true] at h;obtain⟨h1,h2⟩:=h;have hc:48≤c.toNat∧c.toNat≤57:=of_decide_eq_true h1
  have hd:Lib.digitVal c=some (c.toNat - 48):=if_pos hc
  obtain⟨m,e1,e2⟩:=lJ s (n*10+(c.toNat - 48)) h2;refine⟨m,?_,?_⟩
  ·unfold Lib.decFrom;rw[hd];exact e1
  ·rw[e2,List.foldl_cons]
   congr 1
   omega
theorem zh {s:List UInt8} (h:s.all Tk.digit=true) (h1:1≤s.length) (h4:s.length≤4):Lib.atoi s=some (digits s):=by
 obtain⟨m,e1,e2⟩:=lJ s 0 h;have hd:digits s=(m:Int):=by
  unfold digits;rw[if_neg (by omega),if_pos h,e2]
  rfl
 rw[hd];cases s with
 | nil=>simp at h1
 | cons c r =>
  rw[List.all_cons,Bool.and_eq_true] at h;have hc:48≤c.toNat∧c.toNat≤57:=of_decide_eq_true h.1
  have n1:(c==45)=false:=by
   rw[beq_eq_false_iff_ne];rintro rfl;exact absurd hc.1 (by decide)
  have n2:(c==43)=false:=by
   rw[beq_eq_false_iff_ne];rintro rfl;exact absurd hc.1 (by decide)
  unfold Lib.atoi;simp only[n1,n2,Bool.false_eq_true,if_false];unfold Lib.decNat;rw[List.isEmpty_cons,if_neg (by simp),e1]
  rfl
theorem yj {s:List UInt8} (h:¬ (s.all Tk.digit=true∧1≤s.length∧s.length≤4)):digits s = -1:=by
 unfold digits;split
 ·rfl
 ·split
  ·rename_i h1 h2;exact absurd ⟨h2,by omega,by omega⟩ h
  ·rfl
theorem xI {s:List UInt8} (h:s.all Tk.digit=true∧1≤s.length∧s.length≤4):0≤digits s:=by
 obtain⟨m,e1,e2⟩:=lJ s 0 h.1;have hd:digits s=(m:Int):=by
  unfold digits;rw[if_neg (by omega),if_pos h.1,e2]
  rfl
 omega
theorem B6 {s:List UInt8}:digits s≤9999:=by
 unfold digits;split
 ·omega
 ·rename_i h0;split
  ·rename_i h1;have key:∀ (r:List UInt8) (n k:Int),r.all Tk.digit=true→n≤k→r.foldl (fun n c=>10*n+((c.toNat:Int) - 48)) n≤k*10 ^ r.length+(10 ^ r.length - 1):=by
    intro r
    induction r with
    | nil=>intro n k _ h;simp;omega
    | cons c r ih =>
     intro n k h hk;rw[List.all_cons,Bool.and_eq_true] at h;have hc:48≤c.toNat∧c.toNat≤57:=of_decide_eq_true h.1
     rw[List.foldl_cons];refine Int.le_trans (ih _ (10*k+9) h.2 (by omega)) ?_
     rw[List.length_cons,Int.pow_succ];have:(10*k+9)*10 ^ r.length=k*(10 ^ r.length*10)+9*10 ^ r.length:=by
      rw[Int.add_mul];congr 1;rw[Int.mul_comm 10 k,Int.mul_assoc,Int.mul_comm 10]
     omega
   have h2:=key s 0 0 h1 (Int.le_refl _)
   have h3:(10:Int) ^ s.length≤10000:=by
    have:s.length≤4:=by omega
    match s.length,this with
    | 0,_=>decide
    | 1,_=>decide
    | 2,_=>decide
    | 3,_=>decide
    | 4,_=>decide
   omega
  ·omega
def vE (s:List UInt8):List Val→Option Sim
 | [.mk k u _]=>if k=1∧(u.kind=1∨u.kind=6) then some (.mk 6 s u.text 0 0 []) else none
 | _=>none
def Hh (m:List Val):Option Sim:=match name m with
 | none=>none
 | some (s,r)=>match sign [61] r with
  | some r2=>vE s r2
  | none=>if r=[] then some (.mk 5 s [] 0 0 []) else none
theorem Bt (l:List Val):attr l=Hh (l.filter fun v => !ay v):=by
 unfold attr Hh;generalize (l.filter fun v => !ay v)=m
 match m with
 | []=>rfl
 | [.mk k t c] =>
  unfold name tokK;simp only;by_cases h:k=1∧t.kind=1
  ·rw[if_pos h,if_pos h];rfl
  ·rw[if_neg h,if_neg h];rfl
 | [.mk k t c,e] =>
  unfold name tokK;simp only;by_cases h:k=1∧t.kind=1
  ·rw[if_pos h];simp only[Option.map_some,List.tail_cons,sign];cases aW [61] e<;>simp[vE]
  ·rw[if_neg h];rfl
 | [.mk k t c,e,.mk k' u c'] =>
  unfold name tokK;simp only;by_cases h:k=1∧t.kind=1
  ·rw[if_pos h];simp only[Option.map_some,List.tail_cons,sign];cases hs:aW [61] e
   ·simp
   ·simp only[if_true,vE];by_cases h2:k'=1∧(u.kind=1∨u.kind=6)
    ·rw[if_pos h2,if_pos ⟨h.1,h.2,(by first|rfl|trivial),h2.1,h2.2⟩]
    ·rw[if_neg h2,if_neg fun x=>h2 ⟨x.2.2.2.1,x.2.2.2.2⟩]
  ·rw[if_neg h,if_neg fun x=>h ⟨x.1,x.2.1⟩];rfl
 | .mk k t c::e::w::z::m =>
  unfold name tokK;simp only;by_cases h:k=1∧t.kind=1
  ·rw[if_pos h];simp only[Option.map_some,List.tail_cons,sign];cases aW [61] e<;>simp[vE]
  ·rw[if_neg h];rfl
end Sl
end Go.Abs
namespace Go.Abs
namespace Sl
theorem o5 {l r:List Val} {s:List UInt8} (h:name l=some (s,r)):∃ v,l=v::r:=by
 obtain⟨t,c,e,_,_⟩:=pP h;exact⟨_,e⟩
theorem um {g:List Val→Option (Sim×List Val)} {l r:List Val} {x:Sim} (h:colon g l=some (x,r)):∃ v,l=v::r:=by
 unfold colon at h;cases hv:eP 5 l with
 | some y =>
  obtain⟨⟨t,c⟩,q⟩:=y;have e:=lF hv
  rw[hv] at h;simp only at h;split at h
  ·rw[Option.map_eq_some_iff] at h;obtain⟨z,_,hz⟩:=h;cases hz;exact⟨_,e⟩
  ·split at h
   ·split at h
    ·split at h
     ·cases h
     ·cases h
      exact⟨_,e⟩
    ·cases h
   ·cases h
 | none =>
  rw[hv] at h;simp only at h;cases hn:name l with
  | some y =>
   obtain⟨s,q⟩:=y;rw[hn] at h;simp only at h;rw[Option.map_eq_some_iff] at h;obtain⟨z,_,hz⟩:=h;cases hz;exact o5 hn
  | none=>rw[hn] at h;cases h
theorem tL:∀ (f:Nat) (first:Bool) (l:List Val) (x:Sim) (r:List Val),simple f first l=some (x,r)→r.length<l.length∧∃ p,l=p++r
 | 0,first,l,x,r,h=>by rw[simple] at h;cases h
 | f+1,first,l,x,r,h=>by
  have one:(∃ v,l=v::r)→r.length<l.length∧∃ p,l=p++r:=by
   rintro ⟨v,rfl⟩
   exact⟨by simp,[v],rfl⟩
  have two:(∃ v w,l=v::w::r)→r.length<l.length∧∃ p,l=p++r:=by
   rintro ⟨v,w,rfl⟩
   exact⟨by simp;omega,[v,w],rfl⟩
  have tok:∀ {k:Int} {t:Tok},tokK k l=some t→∃ v,l=v::l.tail:=fun {k t} ht=>by
   obtain⟨c,m,e,_⟩:=tQ ht;rw[e];exact⟨_,rfl⟩
  rw[simple] at h;split at h
  ·rename_i t ht;cases h;cases first
   ·cases ht
   ·exact one (tok ht)
  split at h
  ·rename_i q hq;cases h;cases first
   ·cases hq
   ·obtain⟨v,e,_⟩:=nx hq;exact one ⟨v,e⟩
  split at h
  ·rename_i t ht;cases h;exact one (tok ht)
  split at h
  ·rename_i q hq;obtain⟨v,e,_⟩:=nx hq;rw[Option.map_eq_some_iff] at h;obtain⟨⟨s,m⟩,hn,hz⟩:=h;cases hz;obtain⟨w,e2⟩:=o5 hn;exact two ⟨v,w,by rw[e,e2]⟩
  split at h
  ·rename_i q hq;obtain⟨v,e,_⟩:=nx hq;obtain⟨w,e2⟩:=um h;exact two ⟨v,w,by rw[e,e2]⟩
  split at h
  ·rename_i y hy;obtain⟨⟨t,c⟩,q⟩:=y;have e:=lF hy
   rw[Option.map_eq_some_iff] at h;obtain⟨z,_,hz⟩:=h;cases hz;exact one ⟨_,e⟩
  ·cases h
end Sl
end Go.Abs
namespace Go.Abs
theorem nk (p:Val→Bool):∀ l:List Val, ∀ q∈Sl.cut p l,Ne.size q≤Ne.size l
 | [],q,hq=>by
  rw[Sl.cut,List.mem_singleton] at hq;subst hq;exact Nat.le_refl _
 | v::l,q,hq=>by
  rw[Ne.size];cases h:p v with
  | true =>
   rw[Sl.rA h] at hq;rcases List.mem_cons.1 hq with rfl|hq
   ·rw[Ne.size];omega
   ·have:=nk p l q hq
    omega
  | false =>
   obtain⟨r,rs,e⟩:=Sl.wX p l;rw[Sl.sC h e] at hq;rcases List.mem_cons.1 hq with rfl|hq
   ·have:=nk p l r (by rw[e];simp)
    rw[Ne.size];omega
   ·have:=nk p l q (by rw[e];simp[hq])
    omega
end Go.Abs
namespace Go.Abs
namespace Sl
open Tk (jV within)
def fx (s:List UInt8):Bool:=s==mM||(s==mW||(s==kJ||s==jn))
def fewB (n:Int):Bool:=decide (-9999≤n)&&decide (n≤9999)
def oneK (k:Int) (n v:List UInt8) (a b:Int):Bool :=
 if k=1∨k=9∨k=10 then n.isEmpty&&(v.isEmpty&&(a==0&&b==0))
 else if k=2 then Tk.may ⟨1,n,0⟩&&(low n==n&&(v.isEmpty&&(a==0&&b==0)))
 else if k=3 then Tk.may ⟨4,n,0⟩&&(v.isEmpty&&(a==0&&b==0))
 else if k=4∨k=5 then Tk.may ⟨1,n,0⟩&&(v.isEmpty&&(a==0&&b==0))
 else if k=6 then Tk.may ⟨1,n,0⟩&&((Tk.may ⟨6,v,34⟩||Tk.may ⟨6,v,39⟩)&&(a==0&&b==0))
 else if k=7 then fx n&&(v.isEmpty&&(a==0&&b==0))
 else if k=8 then n.isEmpty&&(v.isEmpty&&(fewB a&&fewB b))
 else if k=11 then n.isEmpty&&(v.isEmpty&&(a==0&&b==0))
 else false
mutual
def oneB:Sim→Bool
 | .mk k n v a b l=>oneK k n v a b&&(if k=11 then(l.length==1&&j8 l) else l.isEmpty)
/-- of what a SimNot has -/
def j8:List Sim→Bool
 | []=>true
 | x::l=>(x.kind != 11)&&(oneB x&&j8 l)
end
def qz (l:List Sim):Bool:=l.all oneB&&(l.tail.all (fun x=>decide (3≤x.kind))&&decide (l.length≤8))
def gx:Bool→List Prt→List UInt8→Bool
 | _,[],_=>true
 | first,p::r,s=>(decide (0≤p.comb)&&(decide (p.comb≤4)&&((p.comb==0)==first)))&&(qz p.l&&(!(p.l.isEmpty&&(!r.isEmpty||s.isEmpty))&&gx false r s))
def nc (s:List UInt8):Bool:=s.isEmpty||(s==fg||s==fZ)
def cpxB (c:Cpx):Bool:=gx true c.parts c.pseudo&&(decide (1≤c.parts.length)&&(decide (c.parts.length≤16)&&nc c.pseudo))
def mayB (l:List Cpx):Bool:=l.all cpxB&&(decide (1≤l.length)&&decide (l.length≤32))
theorem Eh (s:List UInt8):fx s=true↔eW s:=by
 unfold fx eW;simp only[Bool.or_eq_true,beq_iff_eq]
end Sl
end Go.Abs
namespace Go.Abs
namespace Sl
set_option maxRecDepth 100000
open Tk (jV within digit begins at0 all)
inductive Sb (M:Nat):Sim→Prop
 | mk {k:Int} {n v:List UInt8} {a b:Int} {l:List Sim} (hn:n.length≤M) (hv:v.length≤M) (hl:∀ x∈l,Sb M x):Sb M (.mk k n v a b l)
end Sl
end Go.Abs
namespace Go.Abs
open Go Go.Proofs Go.ChangeShapes Go.WideShapes Go.ChangeAt Go.RowKit
def TyP (P:Program):Nat→TypeId→List PV→Prop
 | 0,_,_=>False
 | n+1,t,ps =>
  match P.underlying t with
  | some .bool=>∃ b,ps=[.bool b]
  | some (.int k)=>∃ z,ps=[.int k z]∧(Lit.int k z).wf=true
  | some .string=>∃ s,ps=[.str s]∧s.length≤reachBytes
  | some (.slice e)=>∃ c,ps=[.sl c]∧c.length≤reachBytes∧∀ el∈c,TyP P n e el
  | some (.struct fs)=>ps.length=P.cellsOf t∧∀ (i:Nat) (f:Field),fs[i]? = some f→TyP P n f.type ((ps.drop f.offset).take (P.cellsOf f.type))
  | _=>False
def rC (P:Program) (L:List TypeId):Bool:=L.all fun t=>decide (t<P.types.size) &&
 match P.underlying t with
 | some .bool|some (.int _)|some .string=>P.cellsOf t==1
 | some (.slice e)=>L.contains e&&decide (0<P.cellsOf e)&&decide (0<P.bytesOf e)&&P.cellsOf t==1
 | some (.struct fs)=>fs.toList.all fun f=>L.contains f.type
 | _=>false
section
variable {H:Type} {enc:TypeId×Value→H} {P:Program} {w:World}
theorem FI {base n:Nat} {a:Addr} {cs:List Value} (h:w.cells? base a n=some cs):cs.length=n∧∀ (k:Nat) (y:Value),cs[k]? = some y→w.cell? (a.add k)=some y:=by
 unfold World.cells? at h
 split at h
 case isFalse=>cases h
 have hl:cs.length=n:=by simpa using mapM_some_length h
 refine⟨hl,fun k y hk => ?_⟩
 have hlt:k<n:=by have:=(List.getElem?_eq_some_iff.1 hk).1;omega
 have:=mapM_some_get h k k (by simp[hlt])
 rw[this,hk]
theorem KE (b o m j:Nat):((⟨b,o,none⟩:Addr).add m).add j=⟨b,o+(m+j),none⟩:=by
 simp only[Addr.add];split<;>split<;>simp_all [Nat.add_assoc]
theorem EG {a:Addr} {y:Value} (h:w.cell? a=some y):a=⟨a.block,a.off,none⟩:=by
 unfold World.cell? at h
 cases a with
 | mk b o s =>
  cases s with
  | none=>rfl
  | some k=>simp at h;split at h<;>simp at h
theorem yI {I:Nat→Nat→Option Value} {n:Nat}:∀ (fs:List Field) (k:Nat) (cs:List Value),(∀ (j:Nat) (f:Field),fs[j]? = some f→f.offset=k+((fs.take j).map fun f=>P.cellsOf f.type).sum) →
  (∀ f∈fs, ∃ ps,TyP P n f.type ps∧All2 (RP I) ps ((cs.drop f.offset).take (P.cellsOf f.type))∧ps.length=P.cellsOf f.type)→cs.length=k+(fs.map fun f=>P.cellsOf f.type).sum →
  ∃ ps,ps.length=(fs.map fun f=>P.cellsOf f.type).sum∧All2 (RP I) ps (cs.drop k)∧∀ (j:Nat) (f:Field),fs[j]? = some f→TyP P n f.type ((ps.drop (f.offset - k)).take (P.cellsOf f.type))
 | [],k,cs,_,_,hl=>⟨[],rfl,by rw[List.drop_eq_nil_of_le (by simp at hl;omega)];exact .nil,fun j f h=>by simp at h⟩
 | f::fs,k,cs,ho,hf,hl=>by
  have ho0:=ho 0 f rfl
  simp at ho0;obtain⟨p0,h1,h2,h3⟩:=hf f (by simp)
  simp only[List.map_cons,List.sum_cons] at hl;obtain⟨ps,h4,h5,h6⟩:=yI fs (k+P.cellsOf f.type) cs (fun j g hg=>by
   have:=ho (j+1) g (by simpa using hg)
   simp only[List.take_succ_cons,List.map_cons,List.sum_cons] at this
   omega) (fun g hg=>hf g (by simp[hg])) (by omega)
  refine⟨p0++ps,by simp[h3,h4],?_,fun j g hg => ?_⟩
  ·rw[ho0] at h2;have:cs.drop k=(cs.drop k).take (P.cellsOf f.type)++cs.drop (k+P.cellsOf f.type):=by
    rw[←List.drop_drop,List.take_append_drop]
   rw[this];exact h2.append h5
  ·cases j with
   | zero =>
    simp at hg;subst hg;rw[ho0,Nat.sub_self,List.drop_zero,List.take_left' h3];exact h1
   | succ j =>
    have hg':fs[j]? = some g:=by simpa using hg
    have:=h6 j g hg'
    have hoj:=ho (j+1) g hg
    simp only[List.take_succ_cons,List.map_cons,List.sum_cons] at hoj;have hle:k+P.cellsOf f.type≤g.offset:=by omega
    rw[List.drop_append,List.drop_eq_nil_of_le (by omega),List.nil_append,h3]
    rw[show g.offset - k - P.cellsOf f.type=g.offset - (k+P.cellsOf f.type) by omega]
    exact this
theorem qD {e:TypeId}:∀ {l:List (DataW H)} {d:DataW H},d∈l→∀ n∈d.weights P e,n∈DataW.weightsAll P e l
 | d'::l,d,h,n,hn=>by
  unfold DataW.weightsAll;rw[List.mem_append];rcases List.mem_cons.1 h with rfl|h
  ·exact .inl hn
  ·exact .inr (qD h n hn)
theorem wT:∀ {ts:List TypeId} {ds:List (DataW H)} {j:Nat} {t:TypeId} {d:DataW H},ts[j]? = some t→ds[j]? = some d→∀ n∈d.weights P t,n∈DataW.weightsEach P ts ds:=DataW.weights_mem_each
theorem J5 {I:Nat→Nat→Option Value} (hI:∀ b o y,w.cell? ⟨b,o,none⟩=some y→I b o=some y) (K0:Kids P (· < P.types.size)) {L:List TypeId} (hL:rC P L=true) {base:Nat} {sp:Nat→Bool} {held:Bool} :
  ∀ (n:Nat) (t:TypeId) (cs:List Value) (x:DataW H×List MemPlace),DataW.trod enc P w base sp held n t cs=some x→t∈L→(∀ m∈x.1.weights P t,m≤reachBytes)→∃ ps,TyP P n t ps∧All2 (RP I) ps cs∧ps.length=P.cellsOf t:=by
 intro n
 induction n with
 | zero=>intro t cs x h;simp[DataW.trod] at h
 | succ n ih =>
  intro t cs x h ht hw;have hLt:=List.all_eq_true.1 hL t ht
  simp only[Bool.and_eq_true,decide_eq_true_eq] at hLt;obtain⟨hlt,hLt⟩:=hLt;unfold TyP;split at hLt
  ·rename_i hu;obtain⟨b,rfl,rfl⟩:=DataW.trod_bool hu h;exact⟨[.bool b],⟨b,rfl⟩,.cons (.bool b) .nil,(by simpa using hLt:P.cellsOf t=1).symm⟩
  ·rename_i k hu;obtain⟨z,rfl,rfl,hwf⟩:=DataW.trod_int hu h;exact⟨[.int k z],⟨z,rfl,hwf⟩,.cons (.int k z) .nil,(by simpa using hLt:P.cellsOf t=1).symm⟩
  ·rename_i hu;obtain⟨s,rfl,rfl,hsz⟩:=DataW.trod_string hu h;refine⟨[.str s.data.toList],⟨_,rfl,hw _ (by simp[DataW.weights])⟩,.cons ?_ .nil,(by simpa using hLt:P.cellsOf t=1).symm⟩
   exact .str _
  ·rename_i e hu;simp only[Bool.and_eq_true,decide_eq_true_eq] at hLt;obtain⟨⟨⟨he,hpos⟩,hby⟩,hc1⟩:=hLt;have hc1:P.cellsOf t=1:=by simpa using hc1
   rcases DataW.trod_slice hu h with⟨rfl,rfl⟩|⟨a,len,cap,elems,rest,m,hfuel,rfl,rfl,_,hlc,_,hel,hget,_,_⟩
   ·exact⟨[.sl []],⟨[],rfl,by simp,by simp⟩,.cons (.sl0 none 0) .nil,hc1.symm⟩
   ·have hm:m=n:=by omega
    subst hm;have hwt:∀ m∈(elems.length+rest.length)*P.bytesOf e::(DataW.weightsAll P e (elems.map (·.1))++DataW.weightsAll P e (rest.map (·.1))),m≤reachBytes:=by
     have:DataW.weights P t (DataW.slice (elems.map (·.1)) (rest.map (·.1)))=(elems.length+rest.length)*P.bytesOf e::(DataW.weightsAll P e (elems.map (·.1))++DataW.weightsAll P e (rest.map (·.1))):=by
      simp[DataW.weights,hu]
     rw[←this];exact hw
    have hlenb:len≤reachBytes:=by
     have h1:=hwt _ (List.mem_cons_self ..)
     have h2:(elems.length+rest.length)*1≤(elems.length+rest.length)*P.bytesOf e:=Nat.mul_le_mul_left _ hby
     omega
    have hone:∀ i,i<len→∃ ps,TyP P m e ps∧ps.length=P.cellsOf e∧∀ (j:Nat) (p:PV),ps[j]? = some p→∃ y,w.cell? ((a.add (i*P.cellsOf e)).add j)=some y∧RP I p y:=by
     intro i hi;have hg:=hget i hi
     have hsome:∃ y,elems[i]? = some y:=⟨elems[i]'(by omega),by simp[hel,hi]⟩
     obtain⟨y,hy⟩:=hsome;rw[hy,Option.bind_eq_some_iff] at hg;obtain⟨cs',hcs,htr⟩:=hg;obtain⟨ps,h1,h2,h3⟩:=ih e cs' y htr (by simpa using he) fun q hq=>hwt q (List.mem_cons_of_mem _ (List.mem_append_left _ (qD (List.mem_map.2 ⟨y,List.mem_of_getElem? hy,rfl⟩) q hq)))
     obtain⟨h4,h5⟩:=FI hcs;refine⟨ps,h1,h3,fun j p hj => ?_⟩
     obtain⟨z,hz,hr⟩:=h2.get hj;exact⟨z,h5 j z hz,hr⟩
    obtain⟨g,hg⟩:∃ g:Nat→List PV, ∀ i,i<len→TyP P m e (g i)∧(g i).length=P.cellsOf e∧∀ (j:Nat) (p:PV),(g i)[j]? = some p→∃ y,w.cell? ((a.add (i*P.cellsOf e)).add j)=some y∧RP I p y:=by
     refine⟨fun i=>if hi:i<len then(hone i hi).choose else [],fun i hi => ?_⟩
     simp only[dif_pos hi];exact(hone i hi).choose_spec
    have hcget:∀ (i:Nat) (el:List PV),((List.range len).map g)[i]? = some el→i<len∧el=g i:=fun i el hi=>by
     have hlt':=(List.getElem?_eq_some_iff.1 hi).1
     simp at hlt';rw[List.getElem?_map,List.getElem?_range hlt'] at hi
     simp at hi;exact⟨hlt',hi.symm⟩
    refine⟨[.sl ((List.range len).map g)],⟨_,rfl,by simpa using hlenb,fun el hel' => ?_⟩,.cons ?_ .nil,hc1.symm⟩
    ·obtain⟨i,hi,rfl⟩:=List.mem_map.1 hel';exact(hg i (by simpa using hi)).1
    ·by_cases h0:len=0
     ·subst h0;exact .sl0 _ _
     ·obtain⟨p0,hp0⟩:∃ p,(g 0)[0]? = some p:=⟨(g 0)[0]'(by rw[(hg 0 (by omega)).2.1];exact hpos),by simp⟩
      obtain⟨y0,hy0,_⟩:=(hg 0 (by omega)).2.2 0 p0 hp0
      have hadd0:(a.add (0*P.cellsOf e)).add 0=a:=by simp[Addr.add]
      rw[hadd0] at hy0;have ha:=EG hy0
      have:=RP.of_seg (I:=I) (c:=(List.range len).map g) (b:=a.block) (o:=a.off) (cap:=cap) (sz:=P.cellsOf e) (by simpa using hlc) (fun el hel'=>by
       obtain⟨i,hi,rfl⟩:=List.mem_map.1 hel';exact(hg i (by simpa using hi)).2.1) (fun i el j p hi hj=>by
       obtain⟨hlt',rfl⟩:=hcget i el hi;obtain⟨y,h1,h2⟩:=(hg i hlt').2.2 j p hj;refine⟨y,hI _ _ _ ?_,h2⟩
       have hadd:(a.add (i*P.cellsOf e)).add j=⟨a.block,a.off+(i*P.cellsOf e+j),none⟩:=by
        have:=KE a.block a.off (i*P.cellsOf e) j
        rw[←ha] at this;exact this
       rw[hadd] at h1;exact h1)
      rw[←ha] at this
      simpa using this
  ·rename_i fs hu;obtain⟨xs,m,hfuel,rfl,hcl,hxl,hget⟩:=DataW.trod_struct hu h;have hm:m=n:=by omega
   subst hm;obtain⟨hf1,hf2,hf3⟩:=K0.struct hlt hu;have hwt:∀ m∈DataW.weightsEach P (fs.toList.map (·.type)) (xs.map (·.1)),m≤reachBytes:=by
    have:DataW.weights P t (DataW.agg (xs.map (·.1)))=DataW.weightsEach P (fs.toList.map (·.type)) (xs.map (·.1)):=by
     rw[DataW.weights,hu]
    rw[←this];exact hw
   obtain⟨ps,h1,h2,h3⟩:=yI (P:=P) (I:=I) (n:=m) fs.toList 0 cs (fun j f hj=>by rw[hf3 j f hj];omega) (fun f hf=>by
    obtain⟨i,hi⟩:=List.mem_iff_getElem?.1 hf
    have hi':fs[i]? = some f:=by simpa using hi
    have hg:=hget i f hi'
    have hlt':i<fs.size:=(Array.getElem?_eq_some_iff.1 hi').1
    obtain⟨y,hy⟩:∃ y,xs[i]? = some y:=⟨xs[i]'(by omega),by simp[hxl,hlt']⟩
    rw[hy] at hg;exact ih f.type _ y hg (by simpa using List.all_eq_true.1 hLt f hf) fun q hq=>hwt q (wT (j:=i) (t:=f.type) (d:=y.1) (by simp[hi']) (by simp[hy]) q hq)) (by rw[hcl,hf2];omega)
   refine⟨ps,⟨by rw[h1,hf2],fun i f hi => ?_⟩,by simpa using h2,by rw[h1,hf2]⟩
   have:=h3 i f (by simpa using hi)
   simpa using this
  ·cases hLt
def lg (P:Program) (t:TypeId) (ps:List PV):AV :=
 match P.underlying t with
 | some (.struct _)=>.agg (ps.map CV.pv)
 | _=>match ps with
  | [p]=>.c (.pv p)
  | _=>.c .top
theorem L4 {r:Reach} {base:Nat} {t:TypeId} {v:Value} (h:Value.okWide P w r base t v) (hs:(∀ fs,P.underlying t≠some (.struct fs))∧∀ n e,P.underlying t≠some (.array n e)):v.cells=#[v]:=by
 unfold Value.okWide at h;split at h
 ·exact absurd ‹_› (hs.1 _)
 ·exact absurd ‹_› (hs.2 _ _)
 ·cases v<;>first|rfl|(unfold Cell.okWide Cell.ok at h;split at h<;>simp_all)
theorem y3 {f:Func} {s:ChangeSpec} {apart fresh handsOn again:Bool} {W W':World} {args:Array Value} {v:Value} {ds gs:List (DataW H)} {before pa pv:List MemPlace}
  (hW:DataW.Whole enc P f.params.toList s.vars apart W args.toList ds gs before)
  (hres:∀ (b:Nat) (sp:Nat→Bool) (hd:Bool),DataW.TrodAll enc P W' b sp hd f.resultTypes.toList (v.resultList f.resultTypes.size) (s.fn H (ds++gs)).results [])
  (hargs:∀ sp:Nat→Bool,(∀ p∈before,sp p.block=true)→DataW.TrodAll enc P W' 0 sp true f.params.toList args.toList (s.fn H (ds++gs)).args pa)
  (hvars:∀ sp:Nat→Bool,(∀ p∈before,sp p.block=true)→DataW.TrodVars enc P W' sp s.vars (s.fn H (ds++gs)).vars pv)
  (hps:before=pa++pv) (hk:W.keptBut W' (· ∈ before)) (hfz:∀ a:Addr,a.block<W.heap.size→W'.frozen? a=W.frozen? a)
  (hok:∀ (j:Nat) (t:TypeId) (r:Value),f.resultTypes[j]? = some t→(v.resultList f.resultTypes.size)[j]? = some r→Value.okWide P W' .any 0 t r) :
  s.post enc P f apart fresh handsOn again W args v W':=by
 have hold:∀ p∈before,(fun b=>decide (b<W.heap.size)) p.block=true:=fun p hp=>by simpa using hW.lt p hp
 have hlt:=fun p hp=>hW.lt p hp
 refine⟨ds,gs,before,[],pa,pv,hW,hres _ _ _,hargs _ hold,hvars _ hold,World.keptBut_mono (fun p hp=>⟨hp,?_⟩) hk,fun _ => ?_⟩
 ·rw[hps,List.mem_append] at hp;exact Or.inr hp
 ·obtain⟨_,_,_,_,_,hz,hn⟩:=hW;refine⟨hok,_,_,([]++pa)++pv,⟨[]++pa,pv,trodAll_append (hargs _ (fun _ _=>rfl)) (hres _ _ _),hvars _ (fun _ _=>rfl),rfl,?_,?_⟩,?_⟩
  ·intro b off hp;have hp':MemPlace.cell b off∈before:=by rw[hps];simpa using hp
   rw[hfz _ (hlt _ hp')];exact hz b off hp'
  ·intro ha;have:=hn ha
   rw[hps] at this
   simpa using this
  ·intro p hp _;rw[hps]
   simpa using hp
def ub (w:World):Gh := { I:=fun b o=>w.cell? ⟨b,o,none⟩,bb:=fun _=>none,ow:=fun _=>none }
theorem MG (h:TabOK (ub w) w):WI (ub w) w :=
 ⟨fun _ _ _ h=>h,fun b hb=>⟨fun o=>by
  show w.cell? ⟨b,o,none⟩=none
  unfold World.cell?
  have:w.heap[b]? = none:=Array.getElem?_eq_none hb
  simp[this],rfl⟩,fun _ _ h=>(by cases h),fun _ _ h=>(by cases h),h⟩
theorem sE {W W':World} (hos:W'.os=W.os) (hout:W'.output=W.output) (h:∀ b,b<W.heap.size→W'.heap[b]? = W.heap[b]?) (may:MemPlace→Prop):W.keptBut W' may:=by
 refine⟨hos,hout,fun i hi => ?_⟩
 rw[h i hi];split
 ·rename_i h1 h2;rw[h1] at h2;cases h2;exact⟨rfl,rfl,rfl,fun _ _=>rfl⟩
 ·rename_i h1 h2;rw[h1] at h2;cases h2;exact .inr ⟨rfl,rfl⟩
 ·rfl
end
theorem kids:Kids Tryz.prog (· < Tryz.prog.types.size):=kids_rows (by kernel_rfl) (by kernel_rfl)
theorem zj:∀ t e,t<Tryz.prog.types.size→Tryz.prog.underlying t=some (.slice e)→0<Tryz.prog.cellsOf e:=slices_full_of _ (by kernel_rfl)
theorem yF {w:World}:∀ {l:List (String×DataW Unit)} {ps:List MemPlace},DataW.LaidVars Tryz.prog w l ps→∀ {n:String} {d:DataW Unit},(n,d)∈l →
  ∃ g t cs fuel p,Tryz.prog.globalNamed n=some g∧(Tryz.prog.globals[g]?).map (·.type)=some t∧w.var? Tryz.prog n=some cs∧DataW.trod (fun _=>()) Tryz.prog w 0 (fun _=>true) false fuel t cs.toList=some (d,p)
 | [],_,_,n,d,hm=>by simp at hm
 | (m,e)::l,ps,h,n,d,hm=>by
  obtain⟨g,t,cs,fuel,p,q,h1,h2,h3,h4,h5,_⟩:=h;rcases List.mem_cons.1 hm with h|h
  ·cases h;exact⟨g,t,cs,fuel,p,h1,h2,h3,h4⟩
  ·exact yF h5 h
set_option maxRecDepth 100000 in
theorem LZ {W : World} {laid : List (String × DataW Unit)} (hL : laidMet Tryz.prog laid W) (hm : ("internal/strconv.uint64pow10", Go.Proofs.YtlomcifkckgneaaGreatDoor.Rows.laid_internal_strconv_uint64pow10) ∈ laid) (hsh : W.ShapedOpen Tryz.prog) : TabOK (ub W) W := by
 refine⟨fun x hx=>⟨rfl,?_⟩,fun b hb=>⟨rfl,?_⟩⟩
 ·simp only[tabs,List.mem_cons,List.not_mem_nil,or_false] at hx;subst hx;obtain⟨ps,hl,_⟩:=hL;obtain⟨g,t,cs,fuel,p,h1,h2,h3,h4⟩:=yF hl hm;have hg : g = 3 := Option.some.inj (h1.symm.trans (show Tryz.prog.globalNamed "internal/strconv.uint64pow10" = some 3 by kernel_rfl))
  subst hg;have ht:t=230:=Option.some.inj (h2.symm.trans (show (Tryz.prog.globals[3]?).map (·.type)=some 230 by kernel_rfl))
  subst ht;have hcs:=Lib.cells_of_tab (k:=.u64) (zs:=(List.range 20).map fun i=>((10 ^ i:Nat):Int)) (n:=20) (e:=214) (by kernel_rfl) (by kernel_rfl) (by kernel_rfl) (by kernel_rfl) (h:=h4)
  simp only[World.var?,h1,Option.bind_some] at h3
  split at h3
  ·rename_i cs' ty fz hh;cases h3;refine⟨ty,fz,hh.trans ?_⟩
   have:cs=cs.toList.toArray:=by simp
   rw[this,hcs];simp
  ·cases h3
 ·simp only[ints,List.mem_cons,List.not_mem_nil,or_false] at hb;subst hb;obtain⟨cs,hh,hs,hr⟩:=hsh.1 2 #[.int .i64 0] 3 (of_decide_eq_true (by kernel_rfl)) (by kernel_rfl)
  obtain⟨ts,hts,_,hall⟩:=hr (by kernel_rfl)
  have hct:Tryz.prog.cellTypes Tryz.prog.depth 3=some [3]:=by kernel_rfl
  have hts':ts=[3]:=Option.some.inj (hts.symm.trans hct)
  subst hts';have h1:0<cs.size:=by rw[hs];simp
  obtain⟨u,hu',hok⟩:=hall 0 cs[0] (by simp[h1])
  have hu0:u=3:=by simpa using hu'.symm
  subst hu0;unfold Cell.ok at hok;rw[show Tryz.prog.underlying 3=some (.int .i64) by kernel_rfl] at hok
  cases hv:cs[0] with
  | int k m =>
   rw[hv] at hok;obtain⟨rfl,_⟩:=hok;exact⟨m,cs,3,_,hh,by simp[h1,hv]⟩
  | _=>rw[hv] at hok;simp at hok
section
variable {H:Type} {enc:TypeId×Value→H}
set_option maxRecDepth 100000 in
theorem C6 {W:World} {base:Nat} {L:List TypeId} (hL:rC Tryz.prog L=true):∀ {ts:List TypeId} {vs:List Value} {ds:List (DataW H)} {ps:List MemPlace},DataW.TrodAll enc Tryz.prog W 0 (fun _=>true) true ts vs ds ps→(∀ t∈ts,t∈L) →
  (∀ (j:Nat) (t:TypeId) (v:Value),ts[j]? = some t→vs[j]? = some v→Value.okWide Tryz.prog W .any base t v)→(∀ m∈DataW.weightsEach Tryz.prog ts ds,m≤reachBytes) →
  ∃ pss:List (List PV),All2 (fun t p=>∃ n,TyP Tryz.prog n t p) ts pss∧All2 (fun v x=>RA (ub W) W .ret v x) (List.zipWith (lg Tryz.prog) ts pss) vs∧∀ v∈List.zipWith (lg Tryz.prog) ts pss,cR v=false
 | [],[],[],_,_,_,_,_=>⟨[],.nil,.nil,by simp⟩
 | t::ts,v::vs,d::ds,ps,h,hts,hval,hw=>by
  obtain⟨p,q,⟨n,h1⟩,h2,_⟩:=h;have hw1:∀ m∈d.weights Tryz.prog t,m≤reachBytes:=fun m hm=>hw m (by unfold DataW.weightsEach;exact List.mem_append_left _ hm)
  have hw2:∀ m∈DataW.weightsEach Tryz.prog ts ds,m≤reachBytes:=fun m hm=>hw m (by unfold DataW.weightsEach;exact List.mem_append_right _ hm)
  have hv2:∀ (j:Nat) (u:TypeId) (x:Value),ts[j]? = some u→vs[j]? = some x→Value.okWide Tryz.prog W .any base u x:=by
   intro j u x hj hx;refine hval (j+1) u x ?_ ?_
   ·rw[List.getElem?_cons_succ];exact hj
   ·rw[List.getElem?_cons_succ];exact hx
  obtain⟨pss,h3,h4,h5⟩:=C6 hL h2 (fun u hu=>hts u (List.mem_cons_of_mem _ hu)) hv2 hw2
  obtain⟨pv,h6,h7,h8⟩:=J5 (w:=W) (I:=(ub W).I) (fun _ _ _ h=>h) kids hL n t _ _ h1 (hts t (by simp)) hw1
  have hok:=hval 0 t v rfl rfl
  have key:RA (ub W) W .ret (lg Tryz.prog t pv) v∧cR (lg Tryz.prog t pv)=false:=by
   unfold lg;split
   ·rename_i fs hu;refine⟨?_,rfl⟩
    unfold Value.okWide at hok;rw[hu] at hok;obtain⟨cs,rfl,_,_⟩:=hok;exact⟨cs.toList,by simp,All2.fo (h7.imp fun _ _ _ h=>h)⟩
   ·rename_i hns;have hnarr:∀ m e,Tryz.prog.underlying t≠some (.array m e):=fun m e hu=>by
     have:=List.all_eq_true.1 hL t (hts t (by simp))
     rw[hu] at this
     simp at this
    rw[L4 hok ⟨fun fs=>hns fs,hnarr⟩] at h7
    cases h7 with
    | cons ha hb =>
     cases hb
     exact⟨ha,rfl⟩
  refine⟨pv::pss,.cons ⟨n,h6⟩ h3,.cons key.1 h4,fun x hx => ?_⟩
  simp only[List.zipWith_cons_cons,List.mem_cons] at hx;rcases hx with rfl|hx
  ·exact key.2
  ·exact h5 x hx
theorem qt {W:World} {base:Nat} {sp:Nat→Bool} {held:Bool}:∀ {ts:List TypeId} {vs:List Value} {ds:List (DataW H)} {ps:List MemPlace},DataW.TrodAll enc Tryz.prog W base sp held ts vs ds ps→ds.length=ts.length
 | [],[],[],_,_=>rfl
 | _::_,_::_,_::_,_,⟨_,_,_,h2,_⟩=>by simp[qt h2]
theorem nJ {W W':World} {base:Nat} {sp:Nat→Bool} {held:Bool}:∀ {ts:List TypeId} {vs:List Value} {ds:List (DataW H)} {ps:List MemPlace},(∀ p∈ps,W.sameAt W' p)→DataW.TrodAll enc Tryz.prog W base sp held ts vs ds ps→DataW.TrodAll enc Tryz.prog W' base sp held ts vs ds ps
 | [],[],[],_,_,h=>h
 | _::_,_::_,_::_,_,hs,⟨p,q,⟨n,h1⟩,h2,e⟩=>⟨p,q,⟨n,DataW.trod_carry n _ _ _ h1 fun x hx=>hs x (by rw[e];exact List.mem_append_left _ hx)⟩,nJ (fun x hx=>hs x (by rw[e];exact List.mem_append_right _ hx)) h2,e⟩
set_option maxRecDepth 100000 in
/-- WHAT A LAW's ROW ASKS, from the interpreter's answer. -/
theorem LD {f:FuncId} {fn:Func} {spec:ChangeSpec} {laid:List (String×DataW Unit)} {L:List TypeId} {W:World} {base:Nat} {args:Array Value} {ds gs:List (DataW H)} {before:List MemPlace}
  (hg:K.good f=true) (hL:rC Tryz.prog L=true) (hts:∀ t∈fn.params.toList,t∈L) (hres:fn.resultTypes=#[4]) (hvars:spec.vars=[]) (hspec:∀ ds:List (DataW H),ds.length=fn.params.size→spec.fn H ds = { results:=[.lit (.bool true)],args:=ds })
  (hmem : ("internal/strconv.uint64pow10", Go.Proofs.YtlomcifkckgneaaGreatDoor.Rows.laid_internal_strconv_uint64pow10) ∈ laid) (hnoh : (laid.filter fun x => x.2.handleName?.isSome) = [])
  (hden:∀ pss:List (List PV),All2 (fun t p=>∃ n,TyP Tryz.prog n t p) fn.params.toList pss→den K f (List.zipWith (lg Tryz.prog) fn.params.toList pss) []=some (.ret (.c (.pv (.bool true))) []))
  (hval:∀ (j:Nat) t v,fn.params[j]? = some t→args[j]? = some v→Value.okWide Tryz.prog W .any base t v)
  (hW:DataW.Whole enc Tryz.prog fn.params.toList spec.vars false W args.toList ds gs before)
  (hwt:(DataW.weightsEach Tryz.prog fn.params.toList ds).all (· ≤ reachBytes)=true)
  (hLaid:laidMetH Tryz.prog laid W) (hsh:W.ShapedOpen Tryz.prog) :
  Calls Tryz.prog f args W fun e W'=>∃ v,e=.returned v∧spec.post enc Tryz.prog fn false true false false W args v W':=by
 have hW':=hW
 obtain⟨p,q,hA,hV,rfl,hfz,hnd⟩:=hW;rw[hvars] at hV;have hgq:gs=[]∧q=[]:=by
  cases gs with
  | nil=>exact⟨rfl,hV⟩
  | cons g gs=>exact hV.elim
 obtain⟨rfl,rfl⟩:=hgq;have hlen:=qt hA
 have hv2:∀ (j:Nat) (u:TypeId) (x:Value),fn.params.toList[j]? = some u→args.toList[j]? = some x→Value.okWide Tryz.prog W .any base u x:=by
  intro j u x hj hx;rw[Array.getElem?_toList] at hj hx
  exact hval j u x hj hx
 obtain⟨pss,h1,h2,h3⟩:=C6 (base:=base) hL hA hts hv2 (fun m hm=>by simpa using List.all_eq_true.1 hwt m hm)
 have hlm:laidMet Tryz.prog laid W:=by
  unfold laidMetH at hLaid;rw[hnoh] at hLaid;exact hLaid
 have hwi:=MG (LZ hlm hmem hsh)
 have hc:=tC LA hg (hden pss h1) (ub W) W args.toList hwi h2 h3 (fun i l h=>by simp at h) (fun s b h=>by cases h)
 rw[Array.toArray_toList] at hc;refine hc.mono fun e W' ⟨G',hx,hw',v,he,hv,_⟩ => ?_
 subst he;have hv':v=.bool true:=RA.boolv hv
 subst hv';refine⟨_,rfl,?_⟩
 have hold:∀ b,b<W.heap.size→W'.heap[b]? = W.heap[b]? := fun b hb=>(hx.old b hb rfl).2.1
 have hds:spec.fn H (ds++[]) = { results:=[.lit (.bool true)],args:=ds }:=by
  rw[List.append_nil];exact hspec ds (by rw[hlen];simp)
 refine y3 (pa:=p) (pv:=[]) hW' (fun b sp hd => ?_) (fun sp hsp => ?_) (fun sp hsp => ?_) rfl (sE hx.os hx.output hold _) (fun a ha => ?_) ?_
 ·rw[hds,hres];exact trodAll_cons_mk (shut_bool (by kernel_rfl) _) trodAll_mk0
 ·rw[hds];have hT:∀ t∈fn.params.toList,t<Tryz.prog.types.size:=fun t ht=>by
   have:=List.all_eq_true.1 hL t (hts t ht)
   simp only[Bool.and_eq_true,decide_eq_true_eq] at this
   exact this.1
  have:=DataW.TrodAll.respare (spare':=sp) kids zj hT hA (fun y hy=>hsp y (by simpa using hy))
  refine nJ (fun y hy => ?_) this
  have hlt:y.block<W.heap.size:=DataW.TrodAll.lt hA y hy
  cases y with
  | cell b off =>
   show W'.cell? ⟨b,off,none⟩=W.cell? ⟨b,off,none⟩
   unfold World.cell?
   rw[hold b hlt]
  | map b=>exact hold b hlt
 ·rw[hds,hvars];rfl
 ·unfold World.frozen?
  rw[hold a.block ha]
 ·rw[hres];intro j t r hj hr;have hj0:j=0:=by
   rcases Nat.eq_zero_or_pos j with h|h
   ·exact h
   ·rw[Array.getElem?_eq_none (by simp;omega)] at hj;cases hj
  subst hj0;simp at hj;subst hj;have hr0:r=.bool true:=by
   have:((Value.bool true).resultList 1)[0]? = some r:=by simpa using hr
   simp[Value.resultList] at this
   exact this.symm
  subst hr0;exact okWide_bool_mk (by kernel_rfl) _
end
end Go.Abs
