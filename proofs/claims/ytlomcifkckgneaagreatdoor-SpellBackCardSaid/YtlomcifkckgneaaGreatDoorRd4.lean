/-
  THE ABSTRACT INTERPRETER: nest.Parse as a primitive: that its answer is what the program does.
  (And 13 texts more.)
-/
import Derived.Lib.IndexBytes
import Derived.Laws.RangeAny
import Derived.Lib.AtoiErrMem
import Derived.Shelf.Strings.SlTrimAscii
import Derived.Lib.Bytealg
import Derived.Test.YtlomcifkckgneaaGreatDoorRd3
set_option maxRecDepth 100000
set_option maxHeartbeats 8000000
open Nat (reduceEqDiff reduceAdd reduceLT reduceLeDiff reduceSub reduceMul)
set_option linter.unusedSimpArgs false
set_option linter.unusedVariables false
namespace Go.Abs
open Go Go.Proofs Go.RowKit
open NR (Bi prN)
def PQ (P:Program)(f:Nat):Bool :=
 match P.funcs[f]? with
 | some fn => fn.name != "runtime.NumGoroutine" && (match fn.body with | some c => gI (fun _ => false) c | none => false)
 | none=>false
theorem Mn:Bi.all (PQ Tryz.prog)=true:=by kernel_rfl
theorem Tx:Prog NR.KN:=by
 refine⟨by kernel_rfl,fun g hg => ?_,fun f F args bxs x _ hF hx => ?_,fun f F args bxs r call _ hF=>by cases hF⟩
 ·have h1:g∈Bi:=by simpa[NR.KN] using hg
  have h2:=List.all_eq_true.1 Mn g h1
  unfold PQ at h2;split at h2
  ·rename_i fn hfn;simp only[Bool.and_eq_true] at h2;obtain⟨h3,h4⟩:=h2;split at h4
   ·rename_i c hc;exact⟨fn,c,hfn,by simpa using h3,hc,h4⟩
   ·cases h4
  ·cases h2
 ·have h2:prN f=some F:=hF
  unfold prN at h2;split at h2
  ·rename_i hf;cases h2;obtain rfl:f=227:=by simpa using hf
   exact KO hx
  ·split at h2
   ·rename_i hf;cases h2;obtain rfl:f=207:=by simpa using hf
    exact KH hx
   ·cases h2
def decT:List PV→Option Tok
 | [.int .i64 k,.str s,.int .i64 n]=>some ⟨k,s,n⟩
 | _=>none
def ze:List (List PV)→Option (List Tok)
 | []=>some []
 | c::l=>match decT c,ze l with
  | some t,some m=>some (t::m)
  | _,_=>none
theorem IV:∀ l:List Tok,ze (l.map Tok.enc)=some l
 | []=>rfl
 | t::l=>by
  rw[List.map_cons,ze,IV l];rfl
theorem PD {c:List PV}{t:Tok}(h:decT c=some t):c=t.enc:=by
 unfold decT at h;split at h
 ·cases h;rfl
 ·cases h
theorem Jy:∀ {c:List (List PV)}{l:List Tok},ze c=some l→c=l.map Tok.enc
 | [],l,h=>by cases h;rfl
 | c::cs,l,h=>by
  unfold ze at h;split at h
  ·rename_i t m h1 h2;cases h;rw[List.map_cons,←PD h1,←Jy h2]
  ·cases h
def nZ (deep:Int)(l:List Tok):AV :=
 if deep<1∨60<deep then .tup [.c (.pv (.sl [])),.c (.pv (.int .i64 1))]
 else match Ne.dT 0 deep.toNat l with
  | some x=>.tup [.c (.pv (.sl (encL x.1))),.c (.pv (.int .i64 0))]
  | none=>.tup [.c (.pv (.sl [])),.c (.pv (.int .i64 20))]
def xn:Prim
 | [.c (.pv (.sl c)),.c (.pv (.int .i64 deep))],[]=>(match ze c with
  | some l=>if l.length≤1000000 then some (nZ deep l,[]) else none
  | none=>none)
 | [.c .nils,.c (.pv (.int .i64 deep))],[]=>some (nZ deep [],[])
 | _,_=>none
section
variable {G G2:Gh} {w w' w'':World}
theorem yL {x:Value}{deep:Int}(hw:WI G w)(hb0:∀ s,G.bb s=none)(hx:Ext (G.box LK (w.heap.size+2)) (((w.alloc slV).alloc inE).alloc (rdO x deep)) G2 w')(hw2:WI G2 w')
  (hs:w'.heap.size≤w''.heap.size) (ho:w''.os=w'.os) (hp:w''.output=w'.output) (ht:w''.tape=w'.tape) (hh:∀ b,b<w'.heap.size→b≠w.heap.size→b≠w.heap.size+1→w''.heap[b]? = w'.heap[b]?) :
  Ext G w { G2 with bb:=G.bb } w''∧WI { G2 with bb:=G.bb } w'':=by
 have hsz:(((w.alloc slV).alloc inE).alloc (rdO x deep)).heap.size=w.heap.size+3:=by rw[bw,bw,bw]
 have hold:∀ b,b<w.heap.size→(((w.alloc slV).alloc inE).alloc (rdO x deep)).heap[b]? = w.heap[b]? := fun b hb=>by
  rw[cd _ _ _ (by rw[bw,bw];omega),cd _ _ _ (by rw[bw];omega),cd _ _ _ hb]
 have how:∀ b,b≠w.heap.size+2→(G.box LK (w.heap.size+2)).ow b=G.ow b:=fun b hb=>by
  show upd G.ow (w.heap.size+2) _ b=_
  unfold upd;rw[if_neg hb]
 have hnI:∀ b,w.heap.size≤b→b<w.heap.size+2→∀ o,G2.I b o=none:=fun b h1 h2 o=>by
  have h3:=hx.old b (by rw[hsz];omega) ((how b (by omega)).trans (hw.fresh b h1).2)
  exact(h3.2.2 o).trans ((hw.fresh b h1).1 o)
 have hold2:∀ b,b<w.heap.size→G.ow b=none→G2.ow b=none∧w''.heap[b]? = w.heap[b]? ∧ ∀ o,G2.I b o=G.I b o:=fun b hb hn=>by
  have h3:=hx.old b (by rw[hsz];omega) ((how b (by omega)).trans hn)
  have:=hx.size
  rw[hsz] at this
  exact⟨h3.1,(hh b (by omega) (by omega) (by omega)).trans (h3.2.1.trans (hold b hb)),h3.2.2⟩
 have hsize:=hx.size
 rw[hsz] at hsize;refine⟨⟨hx.I,hold2,by omega,ho.trans hx.os,hp.trans hx.output,ht.trans hx.tape,fun _ _=>rfl⟩,⟨fun b o y h => ?_,fun b hb=>hw2.fresh b (by omega),hw2.boxI,fun s b hb=>absurd (show G.bb s=some b from hb) (by rw[hb0];simp),hw.tab.map fun b hb hn=>⟨(hold2 b hb hn).1,(hold2 b hb hn).2.1⟩⟩⟩
 have h1:G2.I b o=some y:=h
 have hlt:=I_lt hw2 h1
 have e:w''.heap[b]? = w'.heap[b]? := hh b hlt (fun e=>by rw[e,hnI _ (Nat.le_refl _) (by omega)] at h1;cases h1) (fun e=>by rw[e,hnI _ (by omega) (by omega)] at h1;cases h1)
 have:=hw2.cell b o y h1
 unfold World.cell? at this ⊢
 rw[e];exact this
theorem QR {o:Obj}(hw:WI G w){k:Nat}(hk:G.bb k=none):WI (G.box k w.heap.size) (w.alloc o):=by
 refine⟨fun b o y hI => ?_,fun b hb => ?_,fun b s hb o => ?_,fun s b hb => ?_,hw.tab.map fun c hc ho=>⟨?_,cd w _ c hc⟩⟩
 ·rw[gX w _ (I_lt hw hI)];exact hw.cell b o y hI
 ·rw[bw] at hb;refine⟨(hw.fresh b (by omega)).1,?_⟩
  show upd G.ow w.heap.size _ b=none
  unfold upd;rw[if_neg (by omega)];exact(hw.fresh b (by omega)).2
 ·have hb':upd G.ow w.heap.size (some (.box k)) b=some (.box s):=hb
  unfold upd at hb';split at hb'
  ·rename_i he;subst he;exact(hw.fresh _ (Nat.le_refl _)).1 o
  ·exact hw.boxI b s hb' o
 ·have hb':upd G.bb k (some w.heap.size) s=some b:=hb
  show upd G.ow w.heap.size _ b=_
  unfold upd at hb' ⊢;split at hb'
  ·rename_i he;subst he;cases hb';rw[if_pos rfl]
  ·have h1:=hw.bbow s b hb'
   have h2:=iz hw h1
   rw[if_neg (by omega)];exact h1
 ·show upd G.ow w.heap.size _ c=none
  unfold upd;rw[if_neg (by omega)];exact ho
end
theorem Di (w:World)(a b:Addr)(v v':Value)(k:Nat)(h1:k≠a.block)(h2:k≠b.block):((w.setCell a v).setCell b v').heap[k]? = w.heap[k]? := by
 rw[fk _ _ _ h2,fk _ _ _ h1]
theorem lR (w:World)(a:Addr)(v:Value):(w.setCell a v).heap.size=w.heap.size:=by
 simp[World.setCell]
theorem Ds {l:List Tok}{deep:Int}{v:AV}(hlen:l.length≤1000000)(hv:∀ {G:Gh} {w:World} {x:Value},RA G w .ret v x→RP G.I (.sl (l.map Tok.enc)) x) :
  Contract Tryz.prog 98 [v,.c (.pv (.int .i64 deep))] [] (.ret (nZ deep l) []):=by
 intro G w cargs hw hargs _ _ hbb;have hb0:∀ s,G.bb s=none:=fun s=>by
  cases e:G.bb s with
  | none=>rfl
  | some b=>obtain⟨i,hi,_⟩:=hbb s b e;simp at hi
 obtain⟨x,y,rfl,hx,hy⟩:=il hargs;cases hy.intv;have hxp:RP G.I (.sl (l.map Tok.enc)) x:=hv hx
 obtain⟨pa,pc,rfl,_,_⟩:=hxp.slice_inv;unfold nZ;by_cases hd:deep<1∨60<deep
 ·rw[if_pos hd];refine(PH _ deep w hd).mono ?_
  rintro e w' ⟨rfl,rfl⟩
  obtain⟨g,hw'⟩:=kq (w':=(w.alloc (.cells #[.slice none 0 0] 23)).alloc (.cells #[.int .i64 1] 24)) hw (((Below.refl _ _).alloc (Nat.le_refl _) _).alloc (by simp) _)
  exact⟨G,g.ext,hw',_,rfl,⟨[_,_],rfl,.cons (.sl0 _ _) (.cons (.int _ _) .nil)⟩,rfl,fun i l h=>by simp at h⟩
 ·rw[if_neg hd];have hd1:¬ deep<1:=fun h=>hd (.inl h)
  have hd2:¬ 60<deep:=fun h=>hd (.inr h)
  obtain⟨d,rfl⟩:∃ d:Nat,deep=d:=⟨deep.toNat,by omega⟩
  rw[Int.toNat_natCast];have hu:=NR.LI l hlen d (by omega)
  unfold NR.UDen at hu;obtain⟨g1,hw1⟩:=kq (w':=(w.alloc slV).alloc inE) hw (((Below.refl _ _).alloc (Nat.le_refl _) _).alloc (by simp) _)
  have hn1:((w.alloc slV).alloc inE).heap.size=w.heap.size+2:=by rw[bw,bw]
  have hw3:WI (G.box LK (w.heap.size+2)) (((w.alloc slV).alloc inE).alloc (rdO (.slice pa (l.map Tok.enc).length pc) d)):=by
   have:=QR (o:=rdO (.slice pa (l.map Tok.enc).length pc) d) hw1 (hb0 LK)
   rw[hn1] at this
   exact this
  have hnew:(((w.alloc slV).alloc inE).alloc (rdO (.slice pa (l.map Tok.enc).length pc) d)).heap[w.heap.size+2]? = some (rdO (.slice pa (l.map Tok.enc).length pc) d):=by
   have:=heap_alloc_new ((w.alloc slV).alloc inE) (rdO (.slice pa (l.map Tok.enc).length pc) d)
   rw[hn1] at this
   exact this
  have hbbk:(G.box LK (w.heap.size+2)).bb LK=some (w.heap.size+2):=by simp[Gh.box,upd]
  have hcall:∀ r,den NR.KN 148 [.c (.loc 100000 0),.c .nilp,.c (.pv (.int .i64 0))] [NR.rdr l d]=some r →
    Calls Tryz.prog 148 #[.pointer (some ⟨w.heap.size+2,0,none⟩),.pointer none,.int .i64 0] (((w.alloc slV).alloc inE).alloc (rdO (.slice pa (l.map Tok.enc).length pc) d)) fun e w' =>
     ∃ G2,Ext (G.box LK (w.heap.size+2)) (((w.alloc slV).alloc inE).alloc (rdO (.slice pa (l.map Tok.enc).length pc) d)) G2 w'∧WI G2 w'∧REnd 1 G2 w' e r:=fun r hr=>by
   refine vI Tx NR.xN hr _ _ [.pointer (some ⟨w.heap.size+2,0,none⟩),.pointer none,.int .i64 0] hw3 ?_ ?_ ?_ ?_
   ·exact .cons ⟨w.heap.size+2,hbbk,rfl⟩ (.cons rfl (.cons (.int _ _) .nil))
   ·intro v hv;simp only[List.mem_cons,List.not_mem_nil,or_false] at hv;rcases hv with rfl|rfl|rfl<;>rfl
   ·intro i b hi;cases i with
    | succ i=>simp at hi
    | zero =>
     simp only[List.getElem?_cons_zero,Option.some.injEq] at hi
     subst hi;refine⟨w.heap.size+2,_,_,hbbk,hnew,⟨rfl,fun e=>by simp at e⟩,fun k v hk => ?_⟩
     match k with
     | 0 =>
      simp only[List.getElem?_cons_zero,Option.some.injEq] at hk
      subst hk;exact⟨_,rfl,hxp⟩
     | 1 =>
      simp only[List.getElem?_cons_succ,List.getElem?_cons_zero,Option.some.injEq] at hk
      subst hk;exact⟨_,rfl,.int _ _⟩
     | k+2=>simp at hk
   ·intro s b hs;have hs':upd G.bb LK (some (w.heap.size+2)) s=some b:=hs
    unfold upd at hs';split at hs'
    ·rename_i he;exact⟨0,by simp,by omega⟩
    ·rw[hb0] at hs';cases hs'
  have hheap:∀ {G2:Gh} {w':World},Ext (G.box LK (w.heap.size+2)) (((w.alloc slV).alloc inE).alloc (rdO (.slice pa (l.map Tok.enc).length pc) d)) G2 w' →
    w'.heap[w.heap.size]? = some slV∧w'.heap[w.heap.size+1]? = some inE:=fun {G2 w'} hx2=>by
   have how:∀ b,w.heap.size≤b→b≠w.heap.size+2→(G.box LK (w.heap.size+2)).ow b=none:=fun b h1 h2=>by
    show upd G.ow (w.heap.size+2) _ b=_
    unfold upd;rw[if_neg h2];exact(hw.fresh b h1).2
   constructor
   ·rw[(hx2.old w.heap.size (by rw[bw,hn1];omega) (how _ (Nat.le_refl _) (by omega))).2.1,cd _ _ _ (by rw[hn1];omega),cd _ _ _ (by rw[bw];omega)]
    exact heap_alloc_new w _
   ·rw[(hx2.old (w.heap.size+1) (by rw[bw,hn1];omega) (how _ (by omega) (by omega))).2.1,cd _ _ _ (by rw[hn1];omega)]
    have:=heap_alloc_new (w.alloc slV) inE
    rw[bw] at this
    exact this
  cases hv:Ne.dT 0 d l with
  | some x =>
   rw[hv] at hu;refine(zA pa _ pc d w hd1 hd2 (fun va vn vc w'=>∃ G2,Ext (G.box LK (w.heap.size+2)) (((w.alloc slV).alloc inE).alloc (rdO (.slice pa (l.map Tok.enc).length pc) d)) G2 w'∧WI G2 w'∧RP G2.I (.sl (encL x.1)) (.slice va vn vc)) (fun _=>False) ?_).mono ?_
   ·refine(hcall _ hu).mono ?_
    rintro e w' ⟨G2,hx2,hw2,v,rfl,hr,_,_⟩
    have hr':RP G2.I (.sl (encL x.1)) v:=hr
    obtain⟨va,vc,rfl,_,_⟩:=hr'.slice_inv;exact⟨(hheap hx2).1,(hheap hx2).2,.inl ⟨va,_,vc,rfl,G2,hx2,hw2,hr'⟩⟩
   ·rintro e w'' (⟨va,vn,vc,w',⟨G2,hx2,hw2,hr⟩,rfl,rfl⟩|⟨w',hf,_⟩)
    ·obtain⟨k1,k2⟩:=yL (w'':=(w'.setCell ⟨w.heap.size,0,none⟩ (.slice va vn vc)).setCell ⟨w.heap.size+1,0,none⟩ (.int .i64 0)) hw hb0 hx2 hw2 (by rw[lR,lR];exact Nat.le_refl _) rfl rfl rfl (fun b _ h1 h2=>Di w' _ _ _ _ b h1 h2)
     exact⟨_,k1,k2,_,rfl,⟨[_,_],rfl,.cons hr (.cons (.int _ _) .nil)⟩,rfl,fun i l h=>by simp at h⟩
    ·exact hf.elim
  | none =>
   rw[hv] at hu;obtain⟨b1,hu⟩:=hu;refine(zA pa _ pc d w hd1 hd2 (fun _ _ _ _=>False) (fun w'=>∃ G2,Ext (G.box LK (w.heap.size+2)) (((w.alloc slV).alloc inE).alloc (rdO (.slice pa (l.map Tok.enc).length pc) d)) G2 w'∧WI G2 w') ?_).mono ?_
   ·refine(hcall _ hu).mono ?_
    rintro e w' ⟨G2,hx2,hw2,v,rfl,hr,_,_⟩
    have hr':RP G2.I (.ifa 174 []) v:=hr
    cases hr'
    exact⟨(hheap hx2).1,(hheap hx2).2,.inr ⟨rfl,G2,hx2,hw2⟩⟩
   ·rintro e w'' (⟨va,vn,vc,w',hf,_⟩|⟨w',⟨G2,hx2,hw2⟩,rfl,rfl⟩)
    ·exact hf.elim
    ·obtain⟨k1,k2⟩:=yL (w'':=((w'.alloc (.cells #[] 174)).setCell ⟨w.heap.size,0,none⟩ (.slice none 0 0)).setCell ⟨w.heap.size+1,0,none⟩ (.int .i64 20)) hw hb0 hx2 hw2 (by rw[lR,lR,bw];omega) rfl rfl rfl (fun b hb h1 h2=>by rw[Di _ _ _ _ _ b h1 h2,cd _ _ _ hb])
     exact⟨_,k1,k2,_,rfl,⟨[_,_],rfl,.cons (.sl0 _ _) (.cons (.int _ _) .nil)⟩,rfl,fun i l h=>by simp at h⟩
theorem Kh {args:List AV}{bxs:List (List CV)}{x:AV×List (List CV)}(h:xn args bxs=some x):Contract Tryz.prog 98 args bxs (.ret x.1 x.2):=by
 unfold xn at h;split at h
 ·rename_i c deep;split at h
  case h_2=>cases h
  rename_i l hdec;split at h
  case isFalse=>cases h
  rename_i hlen;cases h;obtain rfl:=Jy hdec;exact Ds hlen (fun hx=>hx)
 ·cases h
  refine Ds (l:=[]) (by simp) (fun hx => ?_)
  cases hx
  exact .sl0 _ _
 ·cases h
end Go.Abs
namespace Go.Abs
open Go Go.Proofs
attribute [local go_sem] dP de cB cK dL dh du bo ck ce cE dr ci opd avOf cvOf St.degAt St.put okPV fE okAV eL eP eV dM aP if_true Bool.false_eq_true if_false Option.map_some Option.map_none Option.bind_some Option.bind_none fo fw upd List.toList_toArray cM steal bI mvB fj dK db AV.deg CV.deg AV.gv AV.isIter dG dw cJ List.length_nil List.length_cons List.filterMap_cons List.filterMap_nil beq_iff_eq List.getElem?_cons_zero List.getElem?_cons_succ Option.getD_some Bool.false_and Bool.and_false Bool.and_self cI dc bL lend back idx dedup AV.ren CV.ren TV.ren AV.ptrs CV.ptrs dE AV.flat CV.flat cQ cz br dD dY gi cL bf cS bV cu cH bU gS CV.pv? content bT ownT bv reps pvs chunks co leave gj cZ eD cm bB TV.deg TV.av LK CV.plain CV.noBld dR gD bound List.map_cons List.map_nil List.all_cons List.all_nil List.any_cons List.any_nil List.contains_cons List.contains_nil List.elem_cons List.elem_nil List.cons_append List.nil_append List.append_nil List.flatMap_cons List.flatMap_nil List.zip_cons_cons List.zip_nil_left List.zip_nil_right List.take_succ_cons List.take_zero List.take_nil List.drop_succ_cons List.drop_zero List.drop_nil List.isEmpty_nil List.isEmpty_cons Bool.and_true Bool.true_and Bool.or_true Bool.true_or Bool.or_false Bool.false_or Bool.not_true Bool.not_false Nat.add_zero Nat.zero_add Option.isNone_none Option.isNone_some Option.getD_none true_and and_true not_true_eq_false not_false_eq_true decide_true decide_false Nat.le_refl and_self Bool.not_eq_true Nat.sub_self or_true true_or Option.some.injEq List.length_map List.nil_eq and_false false_and AV.live CV.live CV.liveIn bu Option.orElse_some Option.orElse_none head bJ bG Int.lt_irrefl List.length_append ite_self fx cF dC cf Key.clash Key.sees Key.writes Nat.lt_irrefl gt_iff_lt dt fB false_or or_false beq_self_eq_true Bool.true_beq Bool.false_beq
def keep0 (f r:Nat):List Nat×List Nat:=if f==230&&r==18 then([1,45],[]) else if f==199&&r==38 then([175],[]) else if f==199&&r==5 then([0,7,8,9],[]) else([],[])
def pr0 (f:Nat):Option Prim:=if f==179 then some jH else none
noncomputable def K0:Cfg := { P:=Tryz.prog,pr:=pr0,keep:=keep0,ownRet:=fun _=>false,good:=[230,235,199,220,179].contains,hook:=fun _ _=>false }
theorem mW (f:FuncId):K0.ownRet f=false:=rfl
theorem TA (f i:Nat):K0.hook f i=false:=rfl
theorem region0 (f:FuncId)(id:Nat)(ops:Array Oper)(draw:Bool)(S:St):exL K0 f (.region id ops draw) S=bo K0 (den K0) ops.toList draw S:=bZ f id ops draw S (TA f id)
theorem K0_P:K0.P=Tryz.prog:=rfl
theorem pU (f r:Nat):K0.keep f r=keep0 f r:=rfl
theorem tT:keep0 230 18=([1,45],[]):=by decide
theorem xG:keep0 199 5=([0,7,8,9],[]):=by decide
theorem Qw:K0.good 235=true:=rfl
theorem DH:K0.good 199=true:=rfl
theorem Ed:K0.good 220=true:=rfl
theorem wt:K0.good 179=true:=rfl
theorem mh:cD Tryz.prog 9=some .str:=by kernel_rfl
theorem IE:cD Tryz.prog 21=some (.int .i32):=by kernel_rfl
theorem Tq:cD Tryz.prog 5=some (.int .u8):=by kernel_rfl
theorem pd {f:FuncId}{fn:Func}{x:Code}{nt:Nat}{args:List AV}{bxs:List (List CV)}{r:Res}(hp:pr0 f=none)(hf:Tryz.prog.funcs[f]? = some fn)(hx:fn.body=some x)(hn:fn.ntmps=nt)
  (hl:args.length≤nt∧nt<LK) (h:(exL K0 f x (co nt args bxs)).bind (fun r=>leave K0 f fn bxs.length (some r))=some r):den K0 f args bxs=some r:=by
 rw[Bp (K:=K0) hp rfl hf hx,hn,if_pos hl];exact h
theorem Ri (n:Int):den K0 235 [.c (.pv (.int .i64 n))] []=some (.ret (.c (.pv (.bool (decide (8<n))))) []):=by
 refine pd rfl Tryz.func235 rfl Tryz.ntmps235 ⟨by simp,by simp[LK]⟩ ?_
 have hr:Tryz.f235.results=#[.tmp 2]:=rfl
 simp only[go_sem,reduceLT,reduceCtorEq,reduceEqDiff,reduceAdd,region0,mW,K0_P,hr]
theorem yM (s:List UInt8)(c:Int):den K0 179 [.c (.pv (.str s)),.c (.pv (.int .u8 c))] []=some (.ret (.c (.pv (.int .i64 (Lib.indexByte s c.toNat.toUInt8)))) []):=by
 rw[wF (K:=K0) (F:=jH) rfl];rfl
theorem FG (r:Int):den K0 220 [.c (.pv (.int .i32 r))] []=some (.ret (.c (.pv (.bool (Utf8.valid r)))) []):=by
 refine pd rfl Tryz.func220 rfl Tryz.ntmps220 ⟨by simp,by simp[LK]⟩ ?_
 have hr:Tryz.f220.results=#[.tmp 2]:=rfl
 have e:Utf8.valid r=((decide (0≤r)&&decide (r<55296))||(decide (57343<r)&&decide (r≤1114111))):=by
  unfold Utf8.valid;have:decide (57344≤r)=decide (57343<r):=decide_eq_decide.2 (by omega)
  rw[←this]
 rw[e];cases b1:decide (0≤r)<;>cases b2:decide (r<55296)<;>cases b3:decide (57343<r)<;>cases b4:decide (r≤1114111)<;>simp only[go_sem,reduceLT,reduceCtorEq,reduceEqDiff,reduceAdd,region0,mW,K0_P,hr,b1,b2,b3,b4]
abbrev jy:List UInt8:=[10,12,13]
theorem Py:eU K0 40 199 [.c (.pv (.str jy)),.c (.pv (.int .i32 65533))] []=some (.ret (.c (.pv (.int .i64 (-1)))) []):=by kernel_rfl
theorem zw {c:UInt8}(h:128≤c.toNat):∀ l:List UInt8,(∀ b∈l,b.toNat<128)→Lib.indexByte l c = -1
 | [],_=>rfl
 | b::l,hl=>by
  have hb:(b==c)=false:=by
   rw[beq_eq_false_iff_ne];intro e;have:=hl b (by simp);rw[e] at this;omega
  rw[Lib.indexByte,hb,zw h l fun x hx=>hl x (by simp[hx])]
  rfl
theorem Mj (r:Int)(h:0≤r∧r≤2147483647):den K0 199 [.c (.pv (.str jy)),.c (.pv (.int .i32 r))] []=some (.ret (.c (.pv (.int .i64 (if r<128 then Lib.indexByte jy r.toNat.toUInt8 else -1)))) []):=by
 have hr:Tryz.f199.results=#[.tmp 4]:=rfl
 have h0:decide (0≤r)=true:=decide_eq_true h.1
 by_cases h1:r<128
 ·have d1:decide (r<128)=true:=decide_eq_true h1
  have w1:IntKind.u8.wrap r=r:=IntWalk.u8_in _ (by omega)
  have hb:=yM jy r
  refine pd rfl Tryz.func199 rfl Tryz.ntmps199 ⟨by simp,by simp[LK]⟩ ?_
  simp only[go_sem,reduceLT,reduceCtorEq,reduceEqDiff,reduceAdd,region0,mW,K0_P,hr,h0,h1,w1,hb,wt,dS IE Tq]
 ·have d1:decide (r<128)=false:=decide_eq_false h1
  rw[if_neg h1];by_cases h2:r=65533
  ·subst h2;exact rZ.2 ⟨40,Py⟩
  ·have d2:(r==65533)=false:=by simpa using h2
   have hv:=FG r
   refine pd rfl Tryz.func199 rfl Tryz.ntmps199 ⟨by simp,by simp[LK]⟩ ?_
   cases h3:Utf8.valid r
   ·rw[h3] at hv;simp only[go_sem,reduceLT,reduceCtorEq,reduceEqDiff,reduceAdd,region0,mW,K0_P,hr,h0,d1,d2,hv,Ed]
   ·rw[h3] at hv;obtain⟨e2,e4,elast⟩:=encode_facts r h3 (by omega)
    have hsz:(Utf8.encode r).size=(Utf8.encode r).data.toList.length:=Lib.size_eq _
    have hlast:∃ c:UInt8,(Utf8.encode r).data.toList[(Utf8.encode r).data.toList.length - 1]? = some c∧128≤c.toNat:=by
     have hx:(Utf8.encode r).data.toList.length - 1<(Utf8.encode r).data.toList.length:=by omega
     refine⟨_,List.getElem?_eq_getElem hx,?_⟩
     have:=elast (by rw[hsz];exact hx)
     have e:(Utf8.encode r)[(Utf8.encode r).size - 1]'(by rw[hsz];exact hx)=(Utf8.encode r).data.toList[(Utf8.encode r).data.toList.length - 1]'hx:=by
      simp only[hsz];rfl
     rw[e] at this
     exact this
    rw[hsz] at e2 e4
    clear elast hsz;generalize ht:(Utf8.encode r).data.toList=t at e2 e4 hlast
    obtain⟨c,hl,hc⟩:=hlast;have hneg:decide ((-1:Int)<0)=true:=by decide
    have hcb:(c.toNat:Int).toNat.toUInt8=c:=by simp
    have hm:∀ l:List UInt8,(∀ b∈l,b.toNat<128)→Lib.indexByte l c = -1:=fun l=>zw hc l
    have hy:∀ l:List UInt8,(∀ b∈l,b.toNat<128)→den K0 179 [.c (.pv (.str l)),.c (.pv (.int .u8 c.toNat))] []=some (.ret (.c (.pv (.int .i64 (-1)))) []):=fun l hl=>by
     rw[yM,hcb,hm l hl]
    have hne:∀ b:UInt8,b.toNat<128→((b.toNat:Int) != (c.toNat:Int))=true:=fun b hb=>by rw[bne_iff_ne];omega
    have w1:IntKind.i64.wrap 1=1:=by decide
    have w2:IntKind.i64.wrap 2=2:=by decide
    have w3:IntKind.i64.wrap 3=3:=by decide
    have w4:IntKind.i64.wrap 4=4:=by decide
    have y1:=hy [13] (by decide)
    have y2:=hy [] (by simp)
    have n1:((12:Int)=(c.toNat:Int))=False:=eq_false (by omega)
    have n2:((13:Int)=(c.toNat:Int))=False:=eq_false (by omega)
    simp only[go_sem,reduceLT,reduceCtorEq,reduceEqDiff,reduceAdd,region0,mW,K0_P,hr,h0,d1,d2,hv,Ed,BF IE mh,ht,aE mh];rw[aq];rcases t with _|⟨a,_|⟨b,_|⟨d,_|⟨e,_|⟨e',t⟩⟩⟩⟩⟩
    ·exact absurd e2 (by rw[List.length_nil];omega)
    ·exact absurd e2 (by rw[List.length_cons,List.length_nil];omega)
    ·
     obtain rfl:b=c:=by simpa using hl
     simp[go_sem,reduceLT,reduceCtorEq,reduceEqDiff,reduceAdd,region0,mW,pU,xG,K0_P,wt,aE mh,bd mh,ax mh,w1,w2,y1,n1,reach,jy]
    ·
     obtain rfl:d=c:=by simpa using hl
     simp[go_sem,reduceLT,reduceCtorEq,reduceEqDiff,reduceAdd,region0,mW,pU,xG,K0_P,wt,aE mh,bd mh,ax mh,w2,w3,y2,n2,reach,jy]
    ·
     obtain rfl:e=c:=by simpa using hl
     simp[go_sem,reduceLT,reduceCtorEq,reduceEqDiff,reduceAdd,region0,pU,xG,K0_P,aE mh,w3,jy]
    ·exact absurd e4 (by simp only[List.length_cons];omega)
theorem Bm (s:ByteArray)(pos:Nat)(h:pos<s.size):pos+(Utf8.decode s pos).2≤s.size:=by
 simp only[Utf8.decode]
 repeat' split
 all_goals simp_all
 all_goals omega
theorem BW (s:ByteArray)(pos:Nat)(h:pos<s.size)(ha:128≤(s[pos]'h).toNat):∀ j,pos≤j→j<pos+(Utf8.decode s pos).2→128≤(s.get! j).toNat:=by
 have hn:¬ (s[pos]'h).toNat<128:=by omega
 have h0:128≤(s.get! pos).toNat:=by have:=get_at s pos h;rw[Nat.add_zero] at this;rw[this];exact ha
 intro j h1 h2;obtain⟨k,rfl⟩:∃ k,j=pos+k:=⟨j - pos,by omega⟩
 have h3:k<(Utf8.decode s pos).2:=by omega
 clear h1 h2;simp only[Utf8.decode,get_at s pos h,hn,if_false] at h3;have key:k=0∨k=1∧(s.get! (pos+1)).toNat / 64=2∨k=2∧(s.get! (pos+2)).toNat / 64=2∨k=3∧(s.get! (pos+3)).toNat / 64=2:=by
  revert h3
  repeat' split
  all_goals simp_all
  all_goals omega
 rcases key with rfl|⟨rfl,e⟩|⟨rfl,e⟩|⟨rfl,e⟩
 ·exact h0
 all_goals omega
theorem yX (s:List UInt8)(pos:Nat)(h:pos<s.length):∃ (r wd:Nat),Utf8.decode ⟨s.toArray⟩ pos=(r,wd)∧1≤wd∧pos+wd≤s.length∧r≤2147483647 ∧
  ((r<128∧wd=1∧∃ b,s[pos]? = some b∧b.toNat=r)∨(128≤r∧∀ j b,pos≤j→j<pos+wd→s[j]? = some b→128≤b.toNat)):=by
 have hs:(⟨s.toArray⟩:ByteArray).size=s.length:=by simp[ByteArray.size]
 have hp:pos<(⟨s.toArray⟩:ByteArray).size:=by rw[hs];exact h
 have hb:s[pos]? = some ((⟨s.toArray⟩:ByteArray)[pos]'hp):=by
  rw[List.getElem?_eq_getElem h];rfl
 have hw:=Bm ⟨s.toArray⟩ pos hp
 have hle:=decode_le ⟨s.toArray⟩ pos
 rw[hs] at hw;by_cases hc:((⟨s.toArray⟩:ByteArray)[pos]'hp).toNat<128
 ·have e:=decode_ascii ⟨s.toArray⟩ pos hp hc
  refine⟨_,_,e,Nat.le_refl _,by omega,by omega,.inl ⟨hc,rfl,_,hb,rfl⟩⟩
 ·have e:=decode_high ⟨s.toArray⟩ pos hp (by omega)
  refine⟨_,_,rfl,e.2,hw,hle,.inr ⟨e.1,fun j b h1 h2 hj => ?_⟩⟩
  have h3:=BW ⟨s.toArray⟩ pos hp (by omega) j h1 h2
  have h4:(⟨s.toArray⟩:ByteArray).get! j=b:=by
   have hlt:j<s.length:=(List.getElem?_eq_some_iff.1 hj).1
   have:=get_at ⟨s.toArray⟩ j (by rw[hs];exact hlt)
   rw[Nat.add_zero] at this
   rw[this];rw[List.getElem?_eq_getElem hlt] at hj
   exact Option.some.inj hj
  rw[h4] at h3;exact h3
theorem Gm {s chars:List UInt8}{i j:Nat}(h:Lib.NoAny s chars i)(h2:∀ k b,i≤k→k<j→s[k]? = some b→chars.contains b=false):Lib.NoAny s chars j:=fun k b hk hb=>by
 by_cases hki:k<i
 ·exact h k b hki hb
 ·exact h2 k b (by omega) hk hb
def jR (r:Nat):Code→Option Code
 | .loop a=>bif Nat.beq ((bu a).getD 0) r then some a else jR r a
 | .seq a b=>(jR r a).orElse fun _=>jR r b
 | .cond _ a b=>(jR r a).orElse fun _=>jR r b
 | .block _ a=>jR r a
 | .scope a=>jR r a
 | _=>none
def rU (fn:Func)(r:Nat):Code:=((fn.body.bind (jR r))).getD .skip
abbrev anyH (s:List UInt8)(i:Nat):St := { sl:=upd (upd bot 45 (.c (.iter s i))) 1 (.c (.pv (.str jy))),bx:=nobox,nt:=55 }
theorem Ps {b:UInt8}(h:128≤b.toNat):jy.contains b=false:=by
 cases hc:jy.contains b
 ·rfl
 ·have:b∈jy:=by simpa using hc
  have:b=10∨b=12∨b=13:=by simpa[jy] using this
  rcases this with rfl|rfl|rfl<;>exact absurd h (by decide)
theorem KT (s:List UInt8)(h8:s.length≤8):∀ (k i:Nat) (S:St),s.length - i≤k→i≤s.length→head ([1,45],[]) S=anyH s i→Lib.NoAny s jy i →
  Ends (exL K0 230 (.loop (rU Tryz.f230 18)) S) fun o S=>(o=.ret∧S.sl 4=.c (.pv (.int .i64 (Lib.indexAny s jy)))∨Lib.indexAny s jy = -1∧o=.exit 2)∧S.nt=55:=by
 intro k
 induction k with
 | zero =>
  intro i S hk hi hS hno;obtain rfl:i=s.length:=by omega
  have e:=Lib.indexAny_none hno
  conv in rU _ _=>whnf
  rw[aq];simp only[bu,Option.orElse_some,Option.getD_some,pU,tT,hS];simp only[go_sem,reduceLT,reduceCtorEq,reduceEqDiff,Nat.reduceBEq,reduceAdd,region0,aw,e]
 | succ k ih =>
  intro i S hk hi hS hno;by_cases hlt:i<s.length
  case neg=>exact ih i S (by omega) hi hS hno
  obtain⟨r,wd,hd,hw1,hw2,hr,hcase⟩:=yX s i hlt;have hit:kU s i=i+wd:=by unfold kU;rw[hd]
  have hr0:(0:Int)≤(r:Int)∧(r:Int)≤2147483647:=by omega
  have hru:=Mj (r:Int) hr0
  obtain⟨v,hv⟩:∃ v,(if (r:Int)<128 then Lib.indexByte jy (r:Int).toNat.toUInt8 else -1)=v:=⟨_,rfl⟩
  rw[hv] at hru;have ih':=ih (i+wd)
  conv at ih' in rU _ _=>whnf
  conv in rU _ _=>whnf
  rw[aq];simp only[bu,Option.orElse_some,Option.getD_some,pU,tT,hS];cases hdec:decide (0≤v)
  ·have hno':Lib.NoAny s jy (i+wd):=by
    refine Gm hno fun j b h1 h2 hj => ?_
    rcases hcase with⟨hr1,rfl,b',hb',hbr⟩|⟨hr1,hall⟩
    ·obtain rfl:j=i:=by omega
     rw[hj] at hb';cases hb';rw[if_pos (by omega)] at hv
     have hback:((r:Int)).toNat.toUInt8=b:=by rw[←hbr];simp
     rw[hback] at hv;rw[Lib.contains_iff_indexByte,hv,hdec]
    ·exact Ps (hall j b h1 h2 hj)
   simp only[go_sem,reduceLT,reduceEqDiff,Nat.reduceBEq,reduceAdd,region0,mW,DH,hlt,hd,hit,hru,hdec];refine ih' _ (by omega) hw2 ?_ hno'
   rfl
  ·have hgo:Lib.indexAny s jy=(i:Int):=by
    rcases hcase with⟨hr1,rfl,b',hb',hbr⟩|⟨hr1,hall⟩
    ·rw[if_pos (by omega)] at hv
     have hback:((r:Int)).toNat.toUInt8=b':=by rw[←hbr];simp
     rw[hback] at hv;exact Lib.indexAny_hit hno hb' (by rw[Lib.contains_iff_indexByte,hv,hdec])
    ·rw[if_neg (by omega)] at hv
     rw[←hv] at hdec;cases hdec
   simp only[go_sem,reduceLT,reduceCtorEq,reduceEqDiff,Nat.reduceBEq,reduceAdd,region0,mW,DH,hlt,hd,hit,hru,hdec,aw,hgo]
theorem OQ (s:List UInt8)(h8:s.length≤8):den K0 230 [.c (.pv (.str s)),.c (.pv (.str jy))] []=some (.ret (.c (.pv (.int .i64 (Lib.indexAny s jy)))) []):=by
 have hr:Tryz.f230.results=#[.tmp 4]:=rfl
 have hu:=Ri (s.length:Int)
 have h8d:decide ((8:Int)<(s.length:Int))=false:=decide_eq_false (by omega)
 rw[h8d] at hu;have hloop:=KT s h8 s.length 0
 conv at hloop in rU _ _=>whnf
 refine pd rfl Tryz.func230 rfl Tryz.ntmps230 ⟨by simp,by simp[LK]⟩ ?_
 have e0:(jy==[])=false:=by decide
 have e1:(((3:Nat):Int)==1)=false:=by decide
 simp only[go_sem,reduceLT,reduceCtorEq,reduceEqDiff,Nat.reduceBEq,reduceAdd,region0,mW,K0_P,Qw,hr,hu,aE mh,lV mh,e0,e1];obtain⟨o,S',e,hq,hn⟩:=hloop (anyH s 0) (by omega) (Nat.zero_le _) rfl (Lib.NoAny.zero _ _)
 rw[aq] at e ⊢
 simp only[bu,Option.orElse_some,Option.getD_some,pU,tT] at e ⊢
 rw[show head ([1,45],[]) (anyH s 0)=anyH s 0 from rfl] at e
 simp only[head,bJ,bG,upd,AV.live,CV.live,reduceIte,reduceEqDiff];erw [e];rcases hq with⟨rfl,hv⟩|⟨hv,rfl⟩
 ·simp only[go_sem,hv]
 ·simp only[go_sem,reduceLT,region0,hv,hn]
end Go.Abs
namespace Go.Abs
open Go Go.Proofs Go.RowKit
def nb:Prim
 | [.c (.pv (.str s)),.c (.pv (.str p))],[]=>if p=[10,12,13]∧s.length<4294967281 then some (.c (.pv (.int .i64 (Lib.indexAny s p))),[]) else none
 | _,_=>none
def QF (P:Program)(f:Nat):Bool :=
 match P.funcs[f]? with
 | some fn => fn.name != "runtime.NumGoroutine" && (match fn.body with | some c => gI (fun _ => false) c | none => false)
 | none=>false
theorem Kz:[230,235,199,220,179].all (QF Tryz.prog)=true:=by kernel_rfl
theorem Tt:Prog K0:=by
 refine⟨by kernel_rfl,fun g hg => ?_,fun f F args bxs x _ hF hx => ?_,fun f F args bxs r call _ hF=>by cases hF⟩
 ·have h1:g∈[230,235,199,220,179]:=by simpa[K0] using hg
  have h2:=List.all_eq_true.1 Kz g h1
  unfold QF at h2;split at h2
  ·rename_i fn hfn;simp only[Bool.and_eq_true] at h2;obtain⟨h3,h4⟩:=h2;split at h4
   ·rename_i c hc;exact⟨fn,c,hfn,by simpa using h3,hc,h4⟩
   ·cases h4
  ·cases h2
 ·have h2:pr0 f=some F:=hF
  unfold pr0 at h2;split at h2
  ·rename_i hf;cases h2;have:f=179:=by simpa using hf
   subst this;exact qq hx
  ·cases h2
theorem h116:(Tryz.prog.info? 161).map (fun i=>(i.zero,i.size))=some (some (.agg (Array.replicate 256 (.bool false))),256):=by kernel_rfl
theorem BL {args:List AV}{bxs:List (List CV)}{x:AV×List (List CV)}(h:nb args bxs=some x):Contract Tryz.prog 230 args bxs (.ret x.1 x.2):=by
 unfold nb at h;split at h
 case h_2=>cases h
 rename_i s p;split at h
 case isFalse=>cases h
 rename_i hs;cases h;obtain⟨rfl,hs⟩:=hs;by_cases h8:s.length≤8
 ·exact vI Tt (by rfl) (OQ s h8)
 ·refine dU fun G w cargs hw hargs => ?_
  obtain⟨x,y,rfl,hx,hy⟩:=il hargs;cases hx.strv;cases hy.strv;have hsz:(⟨s.toArray⟩:ByteArray).size=s.length:=by simp[ByteArray.size]
  refine(Tryz.strings_IndexAny_long (zero_of_info h116).1 ⟨s.toArray⟩ ⟨([10,12,13]:List UInt8).toArray⟩ w (by decide) (by rw[hsz];omega) (by rw[hsz];exact hs) (by decide) ?_).mono ?_
  ·intro j b hb;have:b∈([10,12,13]:List UInt8):=List.mem_of_getElem? hb
   have:b=10∨b=12∨b=13:=by simpa using this
   rcases this with rfl|rfl|rfl<;>decide
  ·rintro e w' ⟨rfl,rfl⟩
   exact⟨_,rfl,.int _ _,((Below.refl _ _).alloc (Nat.le_refl _) _).alloc (by simp) _⟩
theorem oE (be:Nat)(older:List PanicEntry)(w:World)(y:Value)(te:TypeId)(h2:w.heap[be]? = some (.cells #[y] te (0,0))) :
  CallsD Tryz.prog 69 #[.pointer (some ⟨be,0,none⟩)] (.panicking ({ v:=.iface 115 (.agg #[]),recovered:=false }::older)) w fun e u' w' =>
   e=.returned (.tuple #[])∧u'=.panicking ({ v:=.iface 115 (.agg #[]),recovered:=true }::older) ∧
    w'=(w.alloc (.cells #[] 115)).setCell ⟨be,0,none⟩ (.int .i64 40):=by
 have hta:∀ w:World,(Instr.typeAssert (.iface 115 (.agg #[])) 20 115 true).run Tryz.prog w=.ok (.tuple #[.agg #[],.bool true]) w:=fun _=>by kernel_rfl
 have k2:(w.alloc (.cells #[] 115)).heap[be]? = some (.cells #[y] te (0,0)):=(cd w _ be (Array.getElem?_eq_some_iff.1 h2).1).trans h2
 have c3:(w.alloc (.cells #[] 115)).cell? ⟨be,0,none⟩=some y:=bz k2 0
 have f3:=gN k2 0
 clear k2 h2;refine callsD_of_wpS Tryz.func69 rfl fun c₀ cs hu => ?_
 apply wpS_seq
 apply wpS_region
 simp[wpOpsS,go_sem,recoverD,hu,Tryz.ntmps69,Exit.thenS];refine wpS_of_wp ?_
 go_wp2
 simp[bodyPostS,results,Tryz.results69]
theorem Gl (pe:Addr)(w:World) :
  CallsD Tryz.prog 69 #[.pointer (some pe)] .returning w fun e u' w'=>e=.returned (.tuple #[])∧u'=.returning∧w'=w:=by
 refine callsD_of_wpS Tryz.func69 rfl fun c₀ cs hu => ?_
 apply wpS_seq
 apply wpS_region
 simp[wpOpsS,go_sem,recoverD,hu,Tryz.ntmps69,Exit.thenS];refine wpS_of_wp ?_
 go_wp2
 cases c₀
 simp_all [bodyPostS,results,Tryz.results69]
abbrev Nx:Value:=.iface 115 (.agg #[])
theorem Am (b:Bool)(w:World) :
  Calls Tryz.prog 40 #[.bool b] w fun e w'=>w'=w∧e=(if b then .returned (.tuple #[]) else .panicked [{ v:=Nx,recovered:=false }]):=by
 go_enter Tryz.func40,Tryz.ntmps40
 cases b
 ·go_wp2
  rw[show (Instr.panic (.iface 115 (.agg #[]))).run Tryz.prog w=.halt (.panic (.iface 115 (.agg #[]))) w from rfl]
  simp only[Result.andThen];rw[Oper.upon_panic];exact⟨rfl,by simp⟩
 ·go_wp2
  simp[bodyPost,results,Tryz.results40]
noncomputable def K0W:Cfg := { P:=Tryz.prog,pr:=fun _=>none,keep:=fun _ _=>([],[]),ownRet:=fun _=>false,good:=fun _=>false,hook:=fun _ _=>false }
abbrev rdS (x:Value):Obj:=.cells #[x] 118
structure DoOut (b0:Nat) (Ret:Nat→World→World→Prop) (Pan:World→World→Prop) (w1:World) (e:Ending) (w2:World):Prop where
 e0:w2.heap[b0]? = some inE
 out:(∃ v a n c ty,e=.returned v∧w2.heap[w1.heap.size]? = some (.cells #[.slice a n c] ty (0,0))∧Ret n w1 w2)∨(e=.panicked [{ v:=Nx,recovered:=false }]∧Pan w1 w2)
theorem vM (x : Value)(g : FuncId)(fn : Func)(hfn : Tryz.prog.funcs[g]? = some fn)(hnm : fn.name ≠ "runtime.NumGoroutine")(hbd : fn.body.isSome = true)(vs : List Value)(w : World)
  (Tr:Option Addr→Nat→Nat→World→Prop) (Ret:Nat→World→World→Prop) (Pan:World→World→Prop)
  (hT:Calls Tryz.prog 70 #[x] (w.alloc inE) fun e w1=>w1.heap[w.heap.size]? = some inE∧∃ a n c,e=.returned (.slice a n c)∧Tr a n c w1)
  (hD:∀ a n c w1,Tr a n c w1→w1.heap[w.heap.size]? = some inE→Calls Tryz.prog g (.pointer (some ⟨w1.heap.size,0,none⟩)::vs).toArray (w1.alloc (rdS (.slice a n c))) fun e w2=>DoOut w.heap.size Ret Pan w1 e w2) :
  Calls Tryz.prog 37 #[x,.func (.func g) #[] vs.toArray] w fun e w'' =>
   (∃ w1 w2,Ret 0 w1 w2∧e=.returned (.int .i64 0)∧w''=w2.setCell ⟨w.heap.size,0,none⟩ (.int .i64 0)) ∨
   (∃ n w1 w2,Ret n w1 w2∧n≠0∧e=.returned (.int .i64 40)∧w''=(w2.alloc (.cells #[] 115)).setCell ⟨w.heap.size,0,none⟩ (.int .i64 40)) ∨
   (∃ w1 w2,Pan w1 w2∧e=.returned (.int .i64 40)∧w''=(w2.alloc (.cells #[] 115)).setCell ⟨w.heap.size,0,none⟩ (.int .i64 40)):=by
 have hmf:∀ (fn:Fn) (first cap:Array Value) (w:World),(Instr.makeFunc fn first cap).run Tryz.prog w=.ok (.func fn first cap) w:=fun _ _ _ _=>rfl
 go_enter_defers Tryz.func37,Tryz.ntmps37
 have hcf:∀ (args:Array Value) (w:World),(callFunc g args).run Tryz.prog w=.ok (.enter g args) w:=fun args w=>ry (K:=K0W) hfn hnm hbd
 go_wp2_with (go_at_call 70;refine hT.mono ?_)
 rintro e w1 ⟨k0,ya,yn,yc,rfl,hy⟩
 have hDD:=hD ya yn yc w1 hy k0
 go_wp2_with (refine hDD.mono ?_)
 rintro e w2 ⟨e0,⟨v,ra,rn,rc,ty,rfl,hr0,hR⟩|⟨rfl,hP⟩⟩
 ·have c1:w2.cell? ⟨w1.heap.size,0,none⟩=some (.slice ra rn rc):=bz hr0 0
  have c0:w2.cell? ⟨w.heap.size,0,none⟩=some (.int .i64 0):=bz e0 0
  have f0:=gN e0 0
  by_cases hn:rn=0
  ·subst hn;have hm:=Am true w2
   go_wp2_with (go_at_call 40;refine hm.mono ?_)
   refine leaves_cons (f:=69) (args:=#[.pointer (some ⟨w.heap.size,0,none⟩)]) (by simp) (by simp[go_sem]) ?_
   refine(Gl _ _).mono ?_
   rintro e u' w'' ⟨rfl,rfl,rfl⟩
   have e2:(w2.setCell ⟨w.heap.size,0,none⟩ (.int .i64 0)).cell? ⟨w.heap.size,0,none⟩=some (.int .i64 0):=World.cell?_setCell_same _ _ _ c0
   refine⟨.int .i64 0,?_,.inl ⟨w1,w2,hR,rfl,rfl⟩⟩
   simp[results,Tryz.results37,go_sem,e2]
  ·have hne:((rn:Int)==0)=false:=by rw[beq_eq_false_iff_ne];omega
   have hm:=Am false w2
   go_wp2_with (go_at_call 40;refine hm.mono ?_)
   refine leaves_cons (f:=69) (args:=#[.pointer (some ⟨w.heap.size,0,none⟩)]) (by simp) (by simp[go_sem]) ?_
   refine(oE _ [] _ _ _ e0).mono ?_
   rintro e u' w'' ⟨rfl,rfl,rfl⟩
   have g2:(w2.alloc (.cells #[] 115)).heap[w.heap.size]? = some inE:=(cd w2 _ _ (Array.getElem?_eq_some_iff.1 e0).1).trans e0
   have d3:(w2.alloc (.cells #[] 115)).cell? ⟨w.heap.size,0,none⟩=some (.int .i64 0):=bz g2 0
   have e2:((w2.alloc (.cells #[] 115)).setCell ⟨w.heap.size,0,none⟩ (.int .i64 40)).cell? ⟨w.heap.size,0,none⟩=some (.int .i64 40):=World.cell?_setCell_same _ _ _ d3
   refine⟨.int .i64 40,?_,.inr (.inl ⟨rn,w1,w2,hR,hn,rfl,rfl⟩)⟩
   simp[results,Tryz.results37,go_sem,e2]
 ·go_wp2
  refine leaves_cons (f:=69) (args:=#[.pointer (some ⟨w.heap.size,0,none⟩)]) (by simp) (by simp[go_sem]) ?_
  refine(oE _ [] _ _ _ e0).mono ?_
  rintro e u' w'' ⟨rfl,rfl,rfl⟩
  have g2:(w2.alloc (.cells #[] 115)).heap[w.heap.size]? = some inE:=(cd w2 _ _ (Array.getElem?_eq_some_iff.1 e0).1).trans e0
  have d3:(w2.alloc (.cells #[] 115)).cell? ⟨w.heap.size,0,none⟩=some (.int .i64 0):=bz g2 0
  have e2:((w2.alloc (.cells #[] 115)).setCell ⟨w.heap.size,0,none⟩ (.int .i64 40)).cell? ⟨w.heap.size,0,none⟩=some (.int .i64 40):=World.cell?_setCell_same _ _ _ d3
  refine⟨.int .i64 40,?_,.inr (.inr ⟨w1,w2,hP,rfl,rfl⟩)⟩
  simp[results,Tryz.results37,go_sem,e2]
def kI:Nat→List (List CV)→List Nat
 | _,[]=>[]
 | k,_::l=>k::kI (k+1) l
theorem Qf:∀ {l:List (List CV)}{k i:Nat},i<l.length→(kI k l)[i]? = some (k+i)
 | [],_,_,h=>by simp at h
 | _::l,k,0,_=>by simp[kI]
 | _::l,k,i+1,h=>by
  rw[kI,List.getElem?_cons_succ,Qf (by simpa using h)]
  congr 1
  omega
theorem Ie:∀ {l:List (List CV)}{k s:Nat},s∈kI k l→k≤s
 | [],_,_,h=>by cases h
 | _::l,k,s,h=>by
  rw[kI] at h;rcases List.mem_cons.1 h with rfl|h
  ·exact Nat.le_refl _
  ·have:=Ie h;omega
theorem Fu:∀ (l:List (List CV)) (k:Nat),(kI k l).Nodup
 | [],_=>List.nodup_nil
 | _::l,k=>by
  rw[kI];exact List.nodup_cons.2 ⟨fun h=>by have:=Ie h;omega,Fu l (k+1)⟩
theorem Nm:∀ (l:List (List CV)) (k:Nat),(kI k l).length=l.length
 | [],_=>rfl
 | _::l,k=>by rw[kI,List.length_cons,Nm l (k+1),List.length_cons]
theorem Fy {bx:Nat→Option (List CV)}:∀ (l:List (List CV)) (k:Nat),(∀ i c,l[i]? = some c→bx (k+i)=some c)→bL bx (kI k l)=some l
 | [],_,_=>rfl
 | c::l,k,h=>by
  have h0:=h 0 c rfl
  have h1:=Fy (bx:=bx) l (k+1) fun i d hd=>by
   have:=h (i+1) d (by simpa using hd)
   rw[show k+1+i=k+(i+1) by omega];exact this
  rw[kI,bL,show bx k=some c from h0,h1]
def dJ (bxs:List (List CV)):List Nat:=0::kI LK bxs
def lU (bxs bs:List (List CV)):List (List CV):=bs.map fun b=>(b.map (CV.ren (back (dJ bxs)))).map (CV.ren bB)
def ic (good:FuncId→Bool):List AV→List (List CV)→Plan
 | [.c (.pv (.sl c)),.c (.fn g caps)],bxs =>
  .call 70 [.c (.pv (.sl c))] [] fun r=>match r with
   | .ret (.c (.pv (.sl t))) [] =>
    if good g then
     .call g ((AV.c (.loc 0 0)::caps.map fun x=>AV.c (.loc x.1 x.2)).map fun a=>(a.deg).ren (lend (dJ bxs))) (([.pv (.sl t)]::bxs).map fun b=>b.map (CV.ren (lend (dJ bxs)))) fun r2=>match r2 with
      | .ret _ ([v]::bs)=>(match v.pv? with
       | some (.sl m)=>.done (.ret (.c (.pv (.int .i64 (if m.isEmpty then 0 else 40)))) (lU bxs bs))
       | _=>.fail)
      | .pan (.pv (.ifa x [])) (_::bs)=>if x=115 then .done (.ret (.c (.pv (.int .i64 40))) (lU bxs bs)) else .fail
      | _=>.fail
    else .fail
   | _=>.fail
 | _,_=>.fail
section
variable {G G1 G3:Gh} {w w1 w2 w'':World}
theorem UJ {o:Obj}(hw:WI G w){dd:Nat}(hd:dd<LK)(hbb:G.bb dd=none):Gr (fun _=>False) G w (G.box dd w.heap.size) (w.alloc o):=by
 refine⟨⟨fun _ _ _ h=>h,fun c hc ho=>⟨?_,cd w _ c hc,fun _=>rfl⟩,by rw[bw];omega,rfl,rfl,rfl,fun k hk => ?_⟩,fun s b hb => ?_,fun b ℓ hb _=>⟨?_,cd w _ b (iz hw hb),fun _=>rfl⟩⟩
 ·show upd G.ow w.heap.size _ c=none
  unfold upd;rw[if_neg (by omega)];exact ho
 ·show upd G.bb dd _ k=_
  unfold upd;rw[if_neg (by omega)]
 ·show upd G.bb dd _ s=_
  unfold upd;rw[if_neg (fun e=>by rw[e,hbb] at hb;cases hb)];exact hb
 ·show upd G.ow w.heap.size _ b=_
  have:=iz hw hb
  unfold upd;rw[if_neg (by omega)];exact hb
structure WFin (G:Gh) (w:World) (bs:List (List CV)) (G3:Gh) (w2:World):Prop where
 ext:Ext G w G3 w2
 wi:WI G3 w2
 ow:G3.ow w.heap.size=none
 no:∀ o,G3.I w.heap.size o=none
 lt:w.heap.size<w2.heap.size
 box:∀ (i:Nat) (l:List CV),bs[i]? = some l→BoxR G3 w2 (LK+i) l
theorem Qq {bs:List (List CV)}(hw:WI G w)(hbb:∀ s b,G.bb s=some b→LK≤s)(h:WFin G w bs G3 w2)
  (hs:w2.heap.size≤w''.heap.size) (ho:w''.os=w2.os) (hp:w''.output=w2.output) (ht:w''.tape=w2.tape) (hh:∀ b,b<w2.heap.size→b≠w.heap.size→w''.heap[b]? = w2.heap[b]?) :
  Ext G w { G3 with bb:=G.bb } w''∧WI { G3 with bb:=G.bb } w''∧∀ (i:Nat) (l:List CV),(bs.map fun b=>b.map (CV.ren bB))[i]? = some l→BoxR { G3 with bb:=G.bb } w'' (LK+i) l:=by
 have hlent:∀ k,LK≤k→G3.bb k=G.bb k:=h.ext.lent
 have hold:∀ b,b<w.heap.size→G.ow b=none→G3.ow b=none∧w''.heap[b]? = w.heap[b]? ∧ ∀ o,G3.I b o=G.I b o:=fun b hb hn=>by
  have h3:=h.ext.old b hb hn
  have:=h.ext.size
  exact⟨h3.1,(hh b (by omega) (by omega)).trans h3.2.1,h3.2.2⟩
 have how:∀ b ℓ,G3.ow b=some ℓ→w''.heap[b]? = w2.heap[b]? := fun b ℓ hb=>by
  refine hh b (iz h.wi hb) fun e => ?_
  rw[e,h.ow] at hb;cases hb
 have hsz:=h.ext.size
 refine⟨⟨h.ext.I,hold,by omega,ho.trans h.ext.os,hp.trans h.ext.output,ht.trans h.ext.tape,fun _ _=>rfl⟩,⟨fun b o y hI => ?_,fun b hb=>h.wi.fresh b (by omega),h.wi.boxI,fun s b hb => ?_,hw.tab.map fun b hb hn=>⟨(hold b hb hn).1,(hold b hb hn).2.1⟩⟩,fun i l hl => ?_⟩
 ·have h1:G3.I b o=some y:=hI
  have e:w''.heap[b]? = w2.heap[b]? := hh b (I_lt h.wi h1) (fun e=>by rw[e,h.no] at h1;cases h1)
  have:=h.wi.cell b o y h1
  unfold World.cell? at this ⊢
  rw[e];exact this
 ·have hb':G.bb s=some b:=hb
  exact h.wi.bbow s b (by rw[hlent s (hbb s b hb')];exact hb')
 ·rw[List.getElem?_map,Option.map_eq_some_iff] at hl
  obtain⟨l0,hl0,rfl⟩:=hl;obtain⟨b,cs,ty,h1,h2,h3,h4⟩:=h.box i l0 hl0;have hb3:=h.wi.bbow _ b h1
  refine⟨b,cs,ty,?_,(how b _ hb3).trans h2,⟨by simpa using h3.1,h3.2.map (fun v e=>vA e)⟩,fun k u hu => ?_⟩
  ·show G.bb (LK+i)=some b
   rw[←hlent (LK+i) (by omega)];exact h1
  ·rw[List.getElem?_map,Option.map_eq_some_iff] at hu
   obtain⟨u',hu',rfl⟩:=hu;obtain⟨y,h5,h6⟩:=h4 k u' hu';refine⟨y,h5,?_⟩
   by_cases hpl:u'.plain=true
   ·refine .of_RN (RN.ren (G:=G3) (G1 := { G3 with bb:=G.bb }) (fun _ _ _ h=>h) (fun s k b hs hb => ?_) (h6.to_RN hpl))
    unfold bB at hs;split at hs
    ·rename_i hk;cases hs
     show G.bb s=some b
     rw[←hlent s hk];exact hb
    ·cases hs
   ·cases u'<;>simp[CV.plain] at hpl
    case iter s2 pos=>exact IterAt.one h6
    case cmap es =>
     obtain⟨b',clock,k1,k2,k3⟩:=(h6:MapAt G3 w2 _ es y);exact⟨b',clock,k1,k2,(how b' _ k2).trans k3⟩
    rename_i e c;have h7:OwnAt G3 w2 (.cell (LK+i) k) e c y:=h6
    show OwnAt { G3 with bb:=G.bb } w'' (.cell (LK+i) k) e c y
    rcases h7 with⟨h7,ad,h8,h9⟩|⟨hne,b',cap,cur,sz,k1,k2,k3,k4⟩
    ·exact .inl ⟨h7,ad,h8,h9.map fun b' hb'=>⟨hb',how b' _ hb'⟩⟩
    ·exact .inr ⟨hne,b',cap,cur,sz,k1,k2,(how b' _ k2).trans k3,k4⟩
theorem PS {ℓ:Own}{v:CV}{x:Value}{m:List (List PV)}(h:RC G w ℓ v x)(hv:v.pv? = some (.sl m)):∃ a c,x=.slice a m.length c:=by
 cases v<;>simp only[CV.pv?] at hv<;>try cases hv
 ·obtain⟨a,cap,rfl,_⟩:=RP.slice_inv (show RP G.I (.sl m) x from h)
  exact⟨a,cap,rfl⟩
 ·obtain⟨a,cap,rfl,_⟩:=RP.slice_inv (OwnAt.rp (show OwnAt G w ℓ _ m x from h))
  exact⟨a,cap,rfl⟩
 ·have:x=.slice none 0 0:=h
  exact⟨none,0,this⟩
 ·obtain⟨a,cap,rfl,_⟩:=RP.slice_inv (show RP G.I (.sl m) x from h.1)
  exact⟨a,cap,rfl⟩
theorem Uk {g:Nat→Option Nat}{v:CV}{p:PV}(hv:v.pv? = some p):v.ren g=v:=by
 cases v<;>simp only[CV.pv?] at hv<;>first|rfl|cases hv
end
theorem JW {good:FuncId→Bool}{call:CallF}{args:List AV}{bxs:List (List CV)}{r:Res}(h:(ic good args bxs).run call=some r) :
    ∃ (c:List (List PV)) (g:FuncId) (caps:List (Nat×Nat)) (t:List (List PV)) (r2:Res),args=[.c (.pv (.sl c)),.c (.fn g caps)]∧good g=true ∧
      call 70 [.c (.pv (.sl c))] []=some (.ret (.c (.pv (.sl t))) []) ∧
      call g ((AV.c (.loc 0 0)::caps.map fun x=>AV.c (.loc x.1 x.2)).map fun a=>(a.deg).ren (lend (dJ bxs))) (([.pv (.sl t)]::bxs).map fun b=>b.map (CV.ren (lend (dJ bxs))))=some r2 ∧
      ((∃ u v bs m,r2=.ret u ([v]::bs)∧v.pv? = some (.sl m)∧r=.ret (.c (.pv (.int .i64 (if m.isEmpty then 0 else 40)))) (lU bxs bs)) ∨
       (∃ b bs,r2=.pan (.pv (.ifa 115 [])) (b::bs)∧r=.ret (.c (.pv (.int .i64 40))) (lU bxs bs))):=by
  unfold ic at h;split at h
  case h_2=>simp[Plan.run] at h
  rename_i c g caps;rw[Plan.run] at h;split at h
  case h_2=>cases h
  rename_i r1 hr1;split at h
  case h_2=>simp[Plan.run] at h
  rename_i t;split at h
  case isFalse=>simp[Plan.run] at h
  rename_i hg;rw[Plan.run] at h;split at h
  case h_2=>cases h
  rename_i r2 hr2;refine⟨c,g,caps,t,r2,rfl,hg,hr1,hr2,?_⟩
  split at h
  · rename_i u v bs;split at h
    · rename_i m hm;simp only[Plan.run,Option.some.injEq] at h;exact .inl ⟨u,v,bs,m,rfl,hm,h.symm⟩
    · simp[Plan.run] at h
  · rename_i x b bs;split at h
    · rename_i hx;subst hx;simp only[Plan.run,Option.some.injEq] at h;exact .inr ⟨b,bs,rfl,h.symm⟩
    · simp[Plan.run] at h
  · simp[Plan.run] at h
theorem PJ {good : FuncId → Bool}(hgd : ∀ g, good g = true → ∃ fn, Tryz.prog.funcs[g]? = some fn ∧ fn.name ≠ "runtime.NumGoroutine" ∧ fn.body.isSome = true)(hT : good 70 = true){call : CallF}
  (hc:∀ g args bxs r,good g=true→call g args bxs=some r→Contract Tryz.prog g args bxs r) {args:List AV} {bxs:List (List CV)} {r:Res} (h:(ic good args bxs).run call=some r) :
  Contract Tryz.prog 37 args bxs r:=by
 obtain⟨c,g,caps,t,r2,rfl,hg,hr1,hr2,hfin⟩:=JW h;intro G w cargs hw hargs hno hb hbb;obtain⟨x,y,rfl,hx,hy⟩:=il hargs;obtain⟨vs,rfl,hcaps⟩:∃ vs:List Value,y=.func (.func g) #[] vs.toArray∧All2 (fun (c:Nat×Nat) (v:Value)=>∃ b,G.bb c.1=some b∧v=Value.pointer (some ⟨b,c.2,none⟩)) caps vs:=hy
 obtain⟨fn,hfn,hnm,hbd⟩:=hgd g hg;have hge:∀ s b,G.bb s=some b→LK≤s:=fun s b e=>by
  obtain⟨i,_,rfl⟩:=hbb s b e;omega
 have hn0:G.bb 0=none:=by
  cases e:G.bb 0 with
  | none=>rfl
  | some b=>have:=hge 0 b e;unfold LK at this;omega
 obtain⟨g0,hw0⟩:=kq (w':=w.alloc inE) hw ((Below.refl _ _).alloc (Nat.le_refl _) _);have hs0:(w.alloc inE).heap.size=w.heap.size+1:=bw w _
 have hE:∀ {G1:Gh} {w1:World},Ext G (w.alloc inE) G1 w1→w1.heap[w.heap.size]? = some inE∧G1.ow w.heap.size=none∧(∀ o,G1.I w.heap.size o=none)∧w.heap.size<w1.heap.size:=fun {G1 w1} hx=>by
  have h1:=hx.old w.heap.size (by rw[hs0];omega) (hw.fresh _ (Nat.le_refl _)).2
  have h2:=hx.size
  rw[hs0] at h2;exact⟨h1.2.1.trans (heap_alloc_new w _),h1.1,fun o=>(h1.2.2 o).trans ((hw.fresh _ (Nat.le_refl _)).1 o),by omega⟩
 let bx0:Nat→Option (List CV):=fun k=>if LK≤k then bxs[k - LK]? else none
 have hbx0:∀ s l,bx0 s=some l→LK≤s∧bxs[s - LK]? = some l:=fun s l e=>by
  simp only[bx0] at e
  split at e
  ·rename_i hk;exact⟨hk,e⟩
  ·cases e
 have hbox0:∀ s l,bx0 s=some l→BoxR G w s l:=fun s l e=>by
  obtain⟨h1,h2⟩:=hbx0 s l e;have:=hb (s - LK) l h2
  rw[show LK+(s - LK)=s by omega] at this
  exact this
 have hf0:FR G (w.alloc inE) { sl:=bot,bx:=bx0,nt:=0 } { tmps:=#[],defers:=[] } :=
  ⟨rfl,fun _=>trivial,fun s l e=>(hbox0 s l e).gr hw g0 (fun h=>h) (fun _ h=>h),fun s e hlt=>by
   cases hq:G.bb s with
   | none=>rfl
   | some b=>have:=hge s b hq;omega⟩
 have hcT:Contract Tryz.prog 70 ([AV.c (.pv (.sl c))].map fun a=>(a.deg).ren (lend [])) (([]:List (List CV)).map fun c=>c.map (CV.ren (lend []))) (.ret (.c (.pv (.sl t))) []):=hc _ _ _ _ hT hr1
 have hTr:=pR (L:=[]) (o:=.ret) List.nodup_nil hf0 hw0 (fun s e=>by cases e) rfl (.cons ⟨.ret,RA.gr_plain (ℓ':=.ret) hx g0 rfl⟩ .nil:All2 (fun v x=>∃ ℓ,RA G (w.alloc inE) ℓ v x) [AV.c (.pv (.sl c))] [x]) hcT
 let Tr:Option Addr→Nat→Nat→World→Prop:=fun a n cc w1=>∃ G1,Gr (tC []) G (w.alloc inE) G1 w1∧WI G1 w1∧G1.bb=G.bb∧RP G1.I (.sl t) (.slice a n cc)
 have hT':Calls Tryz.prog 70 #[x] (w.alloc inE) fun e w1=>w1.heap[w.heap.size]? = some inE∧∃ a n cc,e=.returned (.slice a n cc)∧Tr a n cc w1:=by
  refine hTr.mono ?_
  rintro e w1 ⟨G1,g1,hw1,hbb1,z,rfl,hz,_⟩
  have hz':RP G1.I (.sl t) z:=hz
  obtain⟨a,cap,rfl,_⟩:=hz'.slice_inv;exact⟨(hE g1.ext).1,a,_,cap,rfl,G1,g1,hw1,hbb1,hz'⟩
 have hD:∀ a n cc w1,Tr a n cc w1→Calls Tryz.prog g (.pointer (some ⟨w1.heap.size,0,none⟩)::vs).toArray (w1.alloc (rdS (.slice a n cc))) fun e w2=>∃ G3,Ext G (w.alloc inE) G3 w2∧WI G3 w2∧G3.bb 0=some w1.heap.size ∧
   match r2 with
   | .ret u cs=>∃ z,e=.returned z∧cs.length=(dJ bxs).length∧∀ (i s:Nat) (l:List CV),(dJ bxs)[i]? = some s→cs[i]? = some l→BoxR G3 w2 s (l.map (CV.ren (back (dJ bxs))))
   | .pan u cs=>∃ z,e=.panicked [{ v:=z,recovered:=false }]∧RN G3 (u.ren (back (dJ bxs))) z∧cs.length=(dJ bxs).length∧∀ (i s:Nat) (l:List CV),(dJ bxs)[i]? = some s→cs[i]? = some l→BoxR G3 w2 s (l.map (CV.ren (back (dJ bxs)))):=by
  rintro a n cc w1 ⟨G1,g1,hw1,hbb1,hz⟩
  have hno1:G1.bb 0=none:=by rw[hbb1];exact hn0
  have g2:=UJ (o:=rdS (.slice a n cc)) hw1 (dd:=0) (by unfold LK;omega) hno1
  have hw2:=QR (o:=rdS (.slice a n cc)) hw1 hno1
  have hbb2:(G1.box 0 w1.heap.size).bb 0=some w1.heap.size:=by simp[Gh.box,upd]
  have hbbs:∀ s,s≠0→(G1.box 0 w1.heap.size).bb s=G.bb s:=fun s hs=>by
   show upd G1.bb 0 _ s=_
   unfold upd;rw[if_neg hs,hbb1]
  have hf2:FR (G1.box 0 w1.heap.size) (w1.alloc (rdS (.slice a n cc))) { sl:=bot,bx:=upd bx0 0 (some [.pv (.sl t)]),nt:=0 } { tmps:=#[],defers:=[] }:=by
   refine⟨rfl,fun _=>trivial,fun s l e => ?_,fun s e hlt => ?_⟩
   ·have e':upd bx0 0 (some [.pv (.sl t)]) s=some l:=e
    unfold upd at e'
    split at e'
    ·rename_i hs;subst hs;cases e';refine⟨w1.heap.size,_,_,hbb2,heap_alloc_new w1 _,⟨rfl,fun e=>by simp at e⟩,fun k v hk => ?_⟩
     match k with
     | 0 =>
      simp only[List.getElem?_cons_zero,Option.some.injEq] at hk
      subst hk;exact⟨_,rfl,hz⟩
     | k+1=>simp at hk
    ·have h1:=((hbox0 s l e').gr hw g0 (fun h=>h) (fun _ h=>h)).gr hw0 g1 (fun ⟨_,hm,_⟩=>by cases hm) (fun _ ⟨_,hm,_⟩=>by cases hm)
     exact h1.gr hw1 g2 (fun h=>h) (fun _ h=>h)
   ·have e':upd bx0 0 (some [.pv (.sl t)]) s=none:=e
    unfold upd at e'
    split at e'
    ·cases e'
    ·rename_i hs;rw[hbbs s hs];cases hq:G.bb s with
     | none=>rfl
     | some b=>have:=hge s b hq;omega
  have hnd:(dJ bxs).Nodup:=List.nodup_cons.2 ⟨fun hm=>by have:=Ie hm;unfold LK at this;omega,Fu bxs LK⟩
  have hgB:bL (upd bx0 0 (some [.pv (.sl t)])) (dJ bxs)=some ([.pv (.sl t)]::bxs):=by
   unfold dJ;rw[bL,show upd bx0 0 (some [CV.pv (.sl t)]) 0=some [CV.pv (.sl t)] by simp[upd],Fy bxs LK fun i c hi=>by
    show upd bx0 0 _ (LK+i)=_
    unfold upd;rw[if_neg (by unfold LK;omega)]
    simp only[bx0];rw[if_pos (by omega),Nat.add_sub_cancel_left]
    exact hi]
  have hargs2:All2 (fun v x=>∃ ℓ,RA (G1.box 0 w1.heap.size) (w1.alloc (rdS (.slice a n cc))) ℓ v x) (AV.c (.loc 0 0)::caps.map fun x=>AV.c (.loc x.1 x.2)) (.pointer (some ⟨w1.heap.size,0,none⟩)::vs) :=
   .cons ⟨.ret,w1.heap.size,hbb2,rfl⟩ (All2.fX (hcaps.imp fun cp v _ ⟨b,h1,h2⟩=>⟨.ret,b,(hbbs cp.1 (fun e=>by rw[e,hn0] at h1;cases h1)).trans h1,h2⟩))
  refine(pR (o:=.ret) hnd hf2 hw2 (fun s e=>by cases e) hgB hargs2 (hc g _ _ r2 hg hr2)).mono ?_
  rintro e w2 ⟨G3,g3,hw3,hbb3,hq⟩
  refine⟨G3,g1.ext.trans (g2.ext.trans g3.ext),hw3,by rw[hbb3];exact hbb2,?_⟩
  cases r2 with
  | ret u cs =>
   obtain⟨z,h1,_,h3,h4⟩:=hq;exact⟨z,h1,h3,h4⟩
  | pan u cs=>exact hq
 have hlk:∀ i,i<bxs.length→(dJ bxs)[i+1]? = some (LK+i):=fun i hi=>by
  unfold dJ;rw[List.getElem?_cons_succ,Qf hi]
 have hll:(dJ bxs).length=bxs.length+1:=by unfold dJ;rw[List.length_cons,Nm]
 have hbs:∀ {bs:List (List CV)} {G3:Gh} {w2:World},bs.length=bxs.length→Ext G (w.alloc inE) G3 w2→WI G3 w2→(∀ (i:Nat) (l:List CV),i<bxs.length→bs[i]? = some l→BoxR G3 w2 (LK+i) (l.map (CV.ren (back (dJ bxs))))) →
   WFin G w (bs.map fun b=>b.map (CV.ren (back (dJ bxs)))) G3 w2:=fun {bs G3 w2} hln hx hwi hbo=>by
  obtain⟨_,h2,h3,h4⟩:=hE hx;refine⟨g0.ext.trans hx,hwi,h2,h3,h4,fun i l hl => ?_⟩
  rw[List.getElem?_map,Option.map_eq_some_iff] at hl
  obtain⟨l0,hl0,rfl⟩:=hl;exact hbo i l0 (by rw[←hln];exact(List.getElem?_eq_some_iff.1 hl0).1) hl0
 have hwB:∀ bs:List (List CV),lU bxs bs=(bs.map fun b=>b.map (CV.ren (back (dJ bxs)))).map fun b=>b.map (CV.ren bB):=fun bs=>by
  unfold lU;rw[List.map_map];rfl
 rcases hfin with⟨u,v,bs,m,rfl,hm,rfl⟩|⟨b,bs,rfl,rfl⟩
 ·let Rt:Nat→World→World→Prop:=fun n _ w2=>n=m.length∧bs.length=bxs.length∧∃ G3,WFin G w (bs.map fun b=>b.map (CV.ren (back (dJ bxs)))) G3 w2
  have hW:=vM x g fn hfn hnm hbd vs w Tr Rt (fun _ _=>False) hT' (fun a n cc w1 hTr1 k0=>by
   refine(hD a n cc w1 hTr1).mono ?_
   rintro e w2 ⟨G3,hx3,hw3,hb3,z,rfl,hln,hbo⟩
   rw[List.length_cons,hll] at hln;obtain⟨b',cs,ty,e1,e2,⟨e3,_⟩,e4⟩:=hbo 0 0 [v] rfl rfl;rw[hb3] at e1
   cases e1
   obtain⟨zz,e5,e6⟩:=e4 0 (v.ren (back (dJ bxs))) rfl;rw[Uk hm] at e6
   obtain⟨ra,rc,rfl⟩:=PS e6 hm;have ecs:cs=#[.slice ra m.length rc]:=by
    have hsz:cs.size=1:=by simpa using e3
    apply Array.ext
    ·simpa using hsz
    ·intro i h1 h2;have hi:i=0:=by omega
     subst hi;rw[Array.getElem?_eq_getElem h1] at e5
     simpa using e5
   subst ecs;exact⟨(hE hx3).1,.inl ⟨z,ra,m.length,rc,ty,rfl,e2,rfl,by omega,G3,hbs (by omega) hx3 hw3 fun i l hi hl=>hbo (i+1) (LK+i) l (hlk i hi) (by simpa using hl)⟩⟩)
  refine hW.mono ?_
  have fin:∀ {w2 w'':World} {k:Int},(bs.length=bxs.length∧∃ G3,WFin G w (bs.map fun b=>b.map (CV.ren (back (dJ bxs)))) G3 w2)→w2.heap.size≤w''.heap.size→w''.os=w2.os→w''.output=w2.output→w''.tape=w2.tape →
    (∀ b,b<w2.heap.size→b≠w.heap.size→w''.heap[b]? = w2.heap[b]?)→∃ G',Ext G w G' w''∧WI G' w''∧REnd bxs.length G' w'' (.returned (.int .i64 k)) (.ret (.c (.pv (.int .i64 k))) (lU bxs bs)):=fun {w2 w'' k} ⟨hln,G3,hF⟩ h1 h2 h3 h4 h5=>by
   obtain⟨k1,k2,k3⟩:=Qq hw hge hF h1 h2 h3 h4 h5;refine⟨_,k1,k2,_,rfl,.int _ _,by rw[hwB];simpa using hln,?_⟩
   rw[hwB];exact k3
  rintro e w'' (⟨w1,w2,⟨hn,hR⟩,rfl,rfl⟩|⟨n,w1,w2,⟨hn,hR⟩,hne,rfl,rfl⟩|⟨_,_,hf,_⟩)
  ·have:m.isEmpty=true:=by
    cases m with
    | nil=>rfl
    | cons _ _=>simp at hn
   rw[this,if_pos rfl];exact fin hR (by rw[lR];exact Nat.le_refl _) rfl rfl rfl fun b _ h2=>fk _ _ _ (by simpa using h2)
  ·have:m.isEmpty=false:=by
    cases m with
    | nil=>exact absurd hn hne
    | cons _ _=>rfl
   rw[this,if_neg (by simp)]
   exact fin hR (by rw[lR,bw];omega) rfl rfl rfl fun b hb h2=>(fk _ _ _ (by simpa using h2)).trans (cd _ _ _ hb)
  ·exact hf.elim
 ·have hW:=vM x g fn hfn hnm hbd vs w Tr (fun _ _ _=>False) (fun _ w2=>bs.length=bxs.length∧∃ G3,WFin G w (bs.map fun b=>b.map (CV.ren (back (dJ bxs)))) G3 w2) hT' (fun a n cc w1 hTr1 k0=>by
   refine(hD a n cc w1 hTr1).mono ?_
   rintro e w2 ⟨G3,hx3,hw3,hb3,z,rfl,hrn,hln,hbo⟩
   rw[List.length_cons,hll] at hln;have hz:RP G3.I (.ifa 115 []) z:=hrn
   cases hz
   exact⟨(hE hx3).1,.inr ⟨rfl,by omega,G3,hbs (by omega) hx3 hw3 fun i l hi hl=>hbo (i+1) (LK+i) l (hlk i hi) (by simpa using hl)⟩⟩)
  refine hW.mono ?_
  rintro e w'' (⟨_,_,hf,_⟩|⟨_,_,_,hf,_⟩|⟨w1,w2,⟨hln,G3,hF⟩,rfl,rfl⟩)
  ·exact hf.elim
  ·exact hf.elim
  ·obtain⟨k1,k2,k3⟩:=Qq (w'':=(w2.alloc (.cells #[] 115)).setCell ⟨w.heap.size,0,none⟩ (.int .i64 40)) hw hge hF (by rw[lR,bw];omega) rfl rfl rfl fun b hb h2=>(fk _ _ _ (by simpa using h2)).trans (cd _ _ _ hb)
   refine⟨_,k1,k2,_,rfl,.int _ _,by rw[hwB];simpa using hln,?_⟩
   rw[hwB];exact k3
end Go.Abs
namespace Go.Abs
open Go Go.Proofs Go.RowKit
def Er:Prim
 | [.c (.pv (.str s)),.c (.pv (.str c))],[]=>if s.length<bN∧c.length<4294967281∧c.all (fun b=>decide (b.toNat<128))=true then some (.c (.pv (.str (Lib.trimS s c))),[]) else none
 | _,_=>none
def Eu:Prim
 | [.c (.pv (.str s))],[]=>if s.length≤18 then(match Lib.atoi s with|some n=>some (.tup [.c (.pv (.int .i64 n)),.c (.pv .nilifc)],[])|none=>none) else none
 | _,_=>none
theorem MX {args:List AV}{bxs:List (List CV)}{x:AV×List (List CV)}(h:Er args bxs=some x):Contract Tryz.prog 79 args bxs (.ret x.1 x.2):=by
 unfold Er at h;split at h
 case h_2=>cases h
 rename_i s c;split at h
 case isFalse=>cases h
 rename_i hs;cases h;refine dU fun G w cargs hw hargs => ?_
 obtain⟨x,y,rfl,hx,hy⟩:=il hargs;cases hx.strv;cases hy.strv;refine(Any.strings_Trim_laid Tryz.lays160 (by kernel_rfl) ⟨s.toArray⟩ ⟨c.toArray⟩ w (by show s.toArray.size≤_;have:=hs.1;unfold bN at this;simp;omega) (by show c.toArray.size<_;simpa using hs.2.1) (by exact ascii_of_all hs.2.2)).mono ?_
 rintro e w' ⟨rfl,hb⟩
 exact⟨_,rfl,.str _,hb⟩
theorem PN {args:List AV}{bxs:List (List CV)}{x:AV×List (List CV)}(h:Eu args bxs=some x):Contract Tryz.prog 80 args bxs (.ret x.1 x.2):=by
 unfold Eu at h;split at h
 case h_2=>cases h
 rename_i s;split at h
 case isFalse=>cases h
 rename_i hs;split at h
 case h_2=>cases h
 rename_i n hn;cases h;intro G w cargs hw hargs _ _ _;obtain⟨x,rfl,hx⟩:=im hargs;cases hx.strv;refine(Tryz.strconv_Atoi ⟨s.toArray⟩ n (by show s.toArray.size≤_;simpa using hs) hn w).mono ?_
 rintro e w' ⟨rfl,t,rfl⟩
 obtain⟨g,hw'⟩:=kq hw (Lib.bytesWorld_below w _ t);exact⟨G,g.ext,hw',_,rfl,⟨_,rfl,.cons (.int _ _) (.cons .nilifc .nil)⟩,rfl,fun i l h=>by simp at h⟩
def parse1P:List AV→List (List CV)→Plan
 | [.c (.loc s 0),.c (.loc t 0)],[[.pv (.sl m)],[.own e c]] =>
  if s=100000∧t=100001 then
   .call 47 [.c (.loc 100000 0)] [[.pv (.sl m)]] fun r=>match r with
    | .pan (.pv p) [[.pv (.sl m2)]]=>.done (.pan (.pv p) [[.pv (.sl m2)],[.top]])
    | .ret (.agg [.pv (.sl q),.pv (.str z)]) [[.pv (.sl m2)]] =>
     if (e=47∨c.isEmpty=true)∧lens 2 c=true∧c.length+1<bS then .done (.ret (.tup []) [[.pv (.sl m2)],[.own 47 (c++[[.sl q,.str z]])]]) else .fail
    | _=>.fail
  else .fail
 | _,_=>.fail
noncomputable def K1 (good:FuncId→Bool):Cfg := { P:=Tryz.prog,pr:=fun _=>none,keep:=fun _ _=>([],[]),ownRet:=fun _=>false,good:=good,hook:=fun _ _=>false }
def p1A : Oper := { dst := some 3, op := Op.load 31 (Operand.tmp 1), type := 31, pos := "sels.go:301", after := #[], guard := none }
def p1B : Oper := { dst := some 4, op := Op.move (Operand.tmp 0), type := 72, pos := "sels.go:301", after := #[], guard := none }
def p1C : Oper := { dst := some 5, op := Op.call { callee := Callee.value (Operand.func 47), args := #[Operand.tmp 4], argTypes := #[72] }, type := 47, pos := "sels.go:301", after := #[{ on := 1, ground := Ground.data }], guard := none }
def p1D:List Oper:=[
  { dst := some 6, op := Op.buildSlice 31 1 #[(0, Operand.tmp 5)], type := 31, pos := "sels.go:301", after := #[{ on := 2, ground := Ground.data }], guard := none },
  { dst := some 7, op := Op.call { callee := Callee.builtin Builtin.append, args := #[Operand.tmp 3, Operand.tmp 6], argTypes := #[31, 31] }, type := 31, pos := "sels.go:301",
    after:=#[{ on:=0,ground:=Ground.data }, { on:=3,ground:=Ground.data }, { on:=2,ground:=Ground.chain }],guard:=none },
  { dst := none, op := Op.store 31 (Operand.tmp 1) (Operand.tmp 7), type := 0, pos := "sels.go:301",
    after:=#[{ on:=4,ground:=Ground.data }, { on:=4,ground:=Ground.chain }, { on:=0,ground:=Ground.phase }, { on:=1,ground:=Ground.phase }, { on:=2,ground:=Ground.phase }, { on:=3,ground:=Ground.phase }, { on:=4,ground:=Ground.phase }],guard:=none }]
def p1Ops:Array Oper:=(p1A::p1B::p1C::p1D).toArray
theorem vy:Tryz.f46.body=some (Code.region 0 p1Ops true):=rfl
theorem VG:gI (fun _=>false) (Code.region 0 p1Ops true)=true:=by kernel_rfl
theorem Jk:bI p1Ops.toList=[3]:=rfl
section
variable {good:FuncId→Bool} {call:CallF} {G:Gh} {w:World} {S:St} {a:Act} {Q:Exit→Act→World→Prop}
structure P1S (S:St) (m:List (List PV)):Prop where
 nt:S.nt=8
 s0:S.sl 0=.c (.loc 100000 0)
 s1:S.sl 1=.c (.loc 100001 0)
 b0:S.bx 100000=some [.pv (.sl m)]
 bn:∀ s,s<LK→S.bx s=none
theorem DP {m:List (List PV)}{e:TypeId}{c:List (List PV)}(h:P1S S m)(hb:S.bx 100001=some [.own e c]):∃ S',ce (K1 good) call p1Ops.toList p1A S=some (.norm,S')∧P1S S' m∧S'.sl 4=S.sl 4∧∃ v,S'.bx 100001=some [v]:=by
 have hsh:dx Tryz.prog 31=some none:=by kernel_rfl
 have hP:(K1 good).P=Tryz.prog:=rfl
 refine⟨{ sl:=upd S.sl 3 (.c (.own e c)),bx:=upd S.bx 100001 (some [(CV.own e c).deg]),nt:=S.nt },by
  unfold ce;simp only[cE,p1A,Jk,dr,opd,h.s1,cQ,hP,hsh,hb,db,List.getElem?_cons_zero,AV.isIter]
  simp[St.degAt,St.put,h.nt,aP,dD,CV.plain],⟨h.nt,h.s0,h.s1,h.b0,fun s hs => ?_⟩,rfl,_,rfl⟩
 have:s≠100001:=by unfold LK at hs;omega
 simp[upd,this,h.bn s hs]
theorem DC {m:List (List PV)}(h:P1S S m):∃ S',ce (K1 good) call p1Ops.toList p1B S=some (.norm,S')∧P1S S' m∧S'.sl 4=.c (.loc 100000 0)∧S'.bx 100001=S.bx 100001:=by
 refine⟨{ sl:=upd S.sl 4 (.c (.loc 100000 0)),bx:=S.bx,nt:=S.nt },by
  unfold ce;simp only[cE,p1B,Jk,dr,opd,h.s0,ci,AV.isIter,steal,cM,db];simp[St.degAt,St.put,h.nt,aP],⟨h.nt,h.s0,h.s1,h.b0,h.bn⟩,rfl,rfl⟩
theorem Na {m m2:List (List PV)}{p:PV}(hg:good 47=true)(h:P1S S m)(h4:S.sl 4=.c (.loc 100000 0))
  (hc:call 47 [.c (.loc 100000 0)] [[.pv (.sl m)]]=some (.pan (.pv p) [[.pv (.sl m2)]])) :
  ∃ S',ce (K1 good) call p1Ops.toList p1C S=some (.pan (.pv p),S')∧P1S S' m2∧S'.bx 100001=S.bx 100001:=by
 have hG:(K1 good).good=good:=rfl
 have hO:∀ f,(K1 good).ownRet f=false:=fun _=>rfl
 refine⟨{ sl:=S.sl,bx:=upd S.bx 100000 (some [.pv (.sl m2)]),nt:=S.nt },by
  unfold ce;simp only[cE,p1C,dr,opd,h4,cI,dc,hG,hO,hg,if_true,List.map_cons,List.map_nil,List.append_nil,List.all_cons,List.all_nil,AV.flat,CV.flat,Bool.and_true,List.flatMap_cons,List.flatMap_nil,AV.ptrs,CV.ptrs,dedup,List.contains_nil,bL,h.b0,AV.deg,CV.deg,AV.ren,CV.ren,lend,idx,Option.map_some,LK,Nat.add_zero,Bool.false_eq_true,if_false,hc];simp[dE,CV.ren,aP],⟨h.nt,h.s0,h.s1,rfl,fun s hs => ?_⟩,rfl⟩
 have:s≠100000:=by unfold LK at hs;omega
 simp[upd,this,h.bn s hs]
def p1Fin (m2:List (List PV)):St := { sl:=fun _=>.c .top,bx:=fun k=>if k=100000 then some [.pv (.sl m2)] else if k=100001 then some [.top] else none,nt:=8 }
theorem Vn {m2:List (List PV)}{v:CV}(h:P1S S m2)(hb:S.bx 100001=some [v])(hf:FR G w S a):FR G w (p1Fin m2) a:=by
 refine⟨by rw[hf.size,h.nt];rfl,fun t=>trivial,fun s l hl => ?_,fun s hs hlk=>hf.nob s (h.bn s hlk) hlk⟩
 have hl:(if s=100000 then some [CV.pv (.sl m2)] else if s=100001 then some [CV.top] else none)=some l:=hl
 split at hl
 ·rename_i e;cases hl;exact hf.box s _ (by rw[e];exact h.b0)
 split at hl
 ·rename_i e;cases hl;obtain⟨b,cs,ty,h1,h2,⟨h3,_⟩,h4⟩:=hf.box s _ (by rw[e];exact hb)
  refine⟨b,cs,ty,h1,h2,⟨h3,?_⟩,fun k v' hv => ?_⟩
  ·first|trivial|exact fun h=>by simp at h|simp[Bld]
  ·cases k with
   | zero =>
    cases hv
    obtain⟨x,h5,h6⟩:=h4 0 v rfl;exact⟨x,h5,h6.one⟩
   | succ k=>simp at hv
 ·cases hl
theorem Vz (hs:Sound (K1 good) call)(hm:Tryz.prog.follows .mixedOrders=true){m m2:List (List PV)}{p:PV}{e:TypeId}{c:List (List PV)}(hg:good 47=true)
  (hc:call 47 [.c (.loc 100000 0)] [[.pv (.sl m)]]=some (.pan (.pv p) [[.pv (.sl m2)]]))
  (h:P1S S m) (hb:S.bx 100001=some [.own e c]) (hf:FR G w S a) (hw:WI G w) (hp:Post G w a.defers (.pan (.pv p),p1Fin m2) Q):(Code.region 0 p1Ops true).wp Tryz.prog Q a w:=by
 refine wp_region_any hm ?_
 obtain⟨gd,hwd⟩:=iU hw;have hfd:=hf.gr0 hw gd rfl
 have hpd:Post G w.drew a.defers (.pan (.pv p),p1Fin m2) Q:=fun a2 w2 G2 h1 h2 h3 h4=>hp a2 w2 G2 (gd.ext.trans h1) h2 h3 h4
 have atC:∀ {S1:St} {G1:Gh} {w1:World} {a1:Act} (N:Act→World→Prop),P1S S1 m→S1.sl 4=.c (.loc 100000 0)→(∃ v,S1.bx 100001=some [v])→FR G1 w1 S1 a1→WI G1 w1→Post G1 w1 a1.defers (.pan (.pv p),p1Fin m2) Q→wpOp Tryz.prog p1Ops Q 2 N a1 w1:=by
  intro S1 G1 w1 a1 N k1 k2 k3 k4 k5 k6;obtain⟨S2,e1,e2,e3⟩:=Na (call:=call) hg k1 k2 hc;obtain⟨v,k3⟩:=k3;exact mF (K:=K1 good) (ops:=p1Ops.toList) (o:=p1C) (r:=(.pan (.pv p),S2)) hs e1 k4 k5 rfl N fun a2 w2 G2 j1 j2 j3 j4=>k6 a2 w2 G2 j1 j2 (Vn e2 (by rw[e3];exact k3) j3) j4
 have r0:Region.ready .any p1Ops (Array.replicate 6 false)=[0,1]:=by kernel_rfl
 have r1:Region.ready .any p1Ops ((Array.replicate 6 false).setIfInBounds 0 true)=[1]:=by kernel_rfl
 have r2:Region.ready .any p1Ops ((Array.replicate 6 false).setIfInBounds 1 true)=[0,2]:=by kernel_rfl
 have r3:Region.ready .any p1Ops (((Array.replicate 6 false).setIfInBounds 0 true).setIfInBounds 1 true)=[2]:=by kernel_rfl
 have r4:Region.ready .any p1Ops (((Array.replicate 6 false).setIfInBounds 1 true).setIfInBounds 0 true)=[2]:=by kernel_rfl
 show wpAny Tryz.prog .any p1Ops Q 6 (Array.replicate 6 false) a w.drew
 refine⟨fun h0=>(by rw[r0] at h0;cases h0),fun i hi => ?_⟩
 rw[r0] at hi;simp only[List.mem_cons,List.not_mem_nil,or_false] at hi;rcases hi with rfl|rfl
 ·obtain⟨S1,e1,e2,e3,e4⟩:=DP (good:=good) (call:=call) h hb;refine mF (K:=K1 good) (ops:=p1Ops.toList) (r:=(.norm,S1)) hs e1 hfd hwd rfl _ fun a1 w1 G1 j1 j2 j3 j4 => ?_
  refine⟨fun h0=>(by rw[r1] at h0;cases h0),fun i hi => ?_⟩
  rw[r1] at hi;obtain rfl:=List.mem_singleton.1 hi;obtain⟨S2,f1,f2,f3,f4⟩:=DC (good:=good) (call:=call) e2;refine mF (K:=K1 good) (ops:=p1Ops.toList) (r:=(.norm,S2)) hs f1 j3 j2 rfl _ fun a2 w2 G2 l1 l2 l3 l4 => ?_
  refine⟨fun h0=>(by rw[r3] at h0;cases h0),fun i hi => ?_⟩
  rw[r3] at hi;obtain rfl:=List.mem_singleton.1 hi;exact atC _ f2 f3 (by rw[f4];exact e4) l3 l2 (by rw[l4,j4];exact hpd.ext (j1.trans l1))
 ·obtain⟨S1,e1,e2,e3,e4⟩:=DC (good:=good) (call:=call) h;refine mF (K:=K1 good) (ops:=p1Ops.toList) (r:=(.norm,S1)) hs e1 hfd hwd rfl _ fun a1 w1 G1 j1 j2 j3 j4 => ?_
  refine⟨fun h0=>(by rw[r2] at h0;cases h0),fun i hi => ?_⟩
  rw[r2] at hi;simp only[List.mem_cons,List.not_mem_nil,or_false] at hi;rcases hi with rfl|rfl
  ·obtain⟨S2,f1,f2,f3,f4⟩:=DP (good:=good) (call:=call) e2 (by rw[e4];exact hb)
   refine mF (K:=K1 good) (ops:=p1Ops.toList) (r:=(.norm,S2)) hs f1 j3 j2 rfl _ fun a2 w2 G2 l1 l2 l3 l4 => ?_
   refine⟨fun h0=>(by rw[r4] at h0;cases h0),fun i hi => ?_⟩
   rw[r4] at hi;obtain rfl:=List.mem_singleton.1 hi;exact atC _ f2 (by rw[f3];exact e3) f4 l3 l2 (by rw[l4,j4];exact hpd.ext (j1.trans l1))
  ·exact atC _ e2 e3 ⟨_,by rw[e4];exact hb⟩ j3 j2 (by rw[j4];exact hpd.ext j1)
end
namespace P1
attribute [local go_sem] dP de cB cK dL dh du bo ck ce cE dr ci opd avOf cvOf St.degAt St.put okPV fE okAV eL eP eV dM aP if_true Bool.false_eq_true if_false Option.map_some Option.map_none Option.bind_some Option.bind_none fo fw upd List.toList_toArray cM steal bI mvB fj dK db AV.deg CV.deg AV.gv AV.isIter dG dw cJ List.length_nil List.length_cons List.filterMap_cons List.filterMap_nil beq_iff_eq List.getElem?_cons_zero List.getElem?_cons_succ Option.getD_some Bool.false_and Bool.and_false Bool.and_self cI dc bL lend back idx dedup AV.ren CV.ren TV.ren AV.ptrs CV.ptrs dE AV.flat CV.flat cQ cz br dD dY gi cL bf cS bV cu cH bU gS CV.pv? content bT ownT bv reps pvs chunks co leave gj cZ eD cm bB TV.deg TV.av LK CV.plain CV.noBld dR gD bound List.map_cons List.map_nil List.all_cons List.all_nil List.any_cons List.any_nil List.contains_cons List.contains_nil List.elem_cons List.elem_nil List.cons_append List.nil_append List.append_nil List.flatMap_cons List.flatMap_nil List.zip_cons_cons List.zip_nil_left List.zip_nil_right List.take_succ_cons List.take_zero List.take_nil List.drop_succ_cons List.drop_zero List.drop_nil List.isEmpty_nil List.isEmpty_cons Bool.and_true Bool.true_and Bool.or_true Bool.true_or Bool.or_false Bool.false_or Bool.not_true Bool.not_false Nat.add_zero Nat.zero_add Option.isNone_none Option.isNone_some Option.getD_none true_and and_true not_true_eq_false not_false_eq_true decide_true decide_false Nat.le_refl and_self Bool.not_eq_true Nat.sub_self or_true true_or Option.some.injEq List.length_map List.nil_eq and_false false_and AV.live CV.live CV.liveIn bu Option.orElse_some Option.orElse_none head bJ bG Int.lt_irrefl List.length_append ite_self fx cF dC cf Key.clash Key.sees Key.writes Nat.lt_irrefl gt_iff_lt dt fB false_or or_false beq_self_eq_true Bool.true_beq Bool.false_beq
theorem nK:dx Tryz.prog 31=Option.some Option.none:=by kernel_rfl
theorem aL:cD Tryz.prog 31=Option.some (Go.Abs.Desc.sl 47 Bool.false):=by kernel_rfl
theorem fy:szOf Tryz.prog 47=Option.some 2:=by kernel_rfl
theorem aZ:zeroCells Tryz.prog 47=Option.some [Go.Abs.CV.nils,Go.Abs.CV.pv (Go.Abs.PV.str [])]:=by kernel_rfl
theorem mO:iX Tryz.prog 31=Option.some (47,2):=by kernel_rfl
theorem GG:szOf Tryz.prog 31=Option.some 1:=by kernel_rfl
theorem Ke (a b:PV):lens 2 [[a,b]]=true:=rfl
theorem Sc {good:FuncId→Bool}{call:CallF}(hg:good 47=true){m m2 q c:List (List PV)}{z:List UInt8}{e:TypeId}
  (hc:call 47 [.c (.loc 100000 0)] [[.pv (.sl m)]]=some (.ret (.agg [.pv (.sl q),.pv (.str z)]) [[.pv (.sl m2)]]))
  (he:e=47∨c.isEmpty=true) (hl:lens 2 c=true) (hlen:c.length+1<bS) :
  leave (K1 good) 46 Tryz.f46 2 (dk (K1 good) call 0 46 (.region 0 p1Ops true) (co 8 [.c (.loc 100000 0),.c (.loc 100001 0)] [[.pv (.sl m)],[.own e c]]))=some (.ret (.tup []) [[.pv (.sl m2)],[.own 47 (c++[[.sl q,.str z]])]]):=by
 have hP:(K1 good).P=Tryz.prog:=rfl
 have hG:(K1 good).good=good:=rfl
 have hO:∀ f,(K1 good).ownRet f=false:=fun _=>rfl
 have hh:∀ f i,(K1 good).hook f i=false:=fun _ _=>rfl
 have hr:Tryz.f46.results=#[]:=rfl
 simp only[dk,p1Ops,p1A,p1B,p1C,p1D,hh,hP,hG,hO,go_sem,reduceLT,reduceCtorEq,reduceEqDiff,Nat.reduceBEq,reduceAdd,reduceSub,reduceLeDiff,reduceMul,nK,ao (len:=1) aL fy aZ ⟨rfl,by decide,by decide⟩,bq mO,aU aL,GG,hr,hg,hc,he,hl,hlen,Ke]
 rw[aY (by kernel_rfl)]
 simp only[go_sem,reduceEqDiff,reduceSub,reduceLeDiff]
end P1
open Classical in
noncomputable def p1Ex (m m2:List (List PV))(p:PV)(e:TypeId)(c:List (List PV)):Code→St→Option (Out×St):=fun _ S=>if P1S S m∧S.bx 100001=some [.own e c] then some (.pan (.pv p),p1Fin m2) else none
theorem Mm {good : FuncId → Bool}(hgd : ∀ g, good g = true → ∃ fn, Tryz.prog.funcs[g]? = some fn ∧ fn.name ≠ "runtime.NumGoroutine" ∧ fn.body.isSome = true)(hg : good 47 = true){call : CallF}
  (hc:∀ g args bxs r,good g=true→call g args bxs=some r→Contract Tryz.prog g args bxs r) {args:List AV} {bxs:List (List CV)} {r:Res} (h:(parse1P args bxs).run call=some r) :
  Contract Tryz.prog 46 args bxs r:=by
 have hs:Sound (K1 good) call:=⟨hgd,hc⟩
 have hm:Tryz.prog.follows .mixedOrders=true:=by kernel_rfl
 unfold parse1P at h;split at h
 case h_2=>cases h
 rename_i s t m e c;split at h
 case isFalse=>cases h
 rename_i hst;obtain⟨rfl,rfl⟩:=hst;simp only[Plan.run] at h;split at h
 case h_2=>cases h
 rename_i r1 hr1;split at h
 ·rename_i p m2;simp only[Plan.run,Option.some.injEq] at h;subst h;have hP:P1S (co 8 [.c (.loc 100000 0),.c (.loc 100001 0)] [[.pv (.sl m)],[.own e c]]) m∧(co 8 [.c (.loc 100000 0),.c (.loc 100001 0)] [[.pv (.sl m)],[.own e c]]).bx 100001=some [.own e c] :=
   ⟨⟨rfl,rfl,rfl,rfl,fun s hs=>by show (if LK≤s then _ else none)=none;rw[if_neg (by omega)]⟩,rfl⟩
  have hx:enter (K1 good) (p1Ex m m2 p e c) 46 [.c (.loc 100000 0),.c (.loc 100001 0)] [[.pv (.sl m)],[.own e c]]=some (.pan (.pv p) [[.pv (.sl m2)],[.top]]):=by
   unfold enter;have hf:(K1 good).P.funcs[46]? = some Tryz.f46:=Tryz.func46
   have hn:Tryz.f46.ntmps=8:=rfl
   rw[hf];simp only[vy,hn];rw[if_pos ⟨by simp,by simp[LK]⟩]
   unfold p1Ex;rw[if_pos hP];rfl
  exact wx (K:=K1 good) hx fun fn b hfn hb {Q S G w a r} hr hf hw hp=>by
   have hfn:Tryz.prog.funcs[46]? = some fn:=hfn
   rw[Tryz.func46] at hfn;cases hfn;rw[vy] at hb;cases hb;unfold p1Ex at hr;split at hr
   case isFalse=>cases hr
   rename_i hPS;cases hr;exact Vz hs hm hg hr1 hPS.1 hPS.2 hf hw hp
 ·rename_i q z m2;split at h
  case isFalse=>cases h
  rename_i hE;simp only[Plan.run,Option.some.injEq] at h;subst h;obtain⟨he,hl,hlen⟩:=hE;have hx:enter (K1 good) (dk (K1 good) call 0 46) 46 [.c (.loc 100000 0),.c (.loc 100001 0)] [[.pv (.sl m)],[.own e c]]=some (.ret (.tup []) [[.pv (.sl m2)],[.own 47 (c++[[.sl q,.str z]])]]):=by
   unfold enter;have hf:(K1 good).P.funcs[46]? = some Tryz.f46:=Tryz.func46
   have hn:Tryz.f46.ntmps=8:=rfl
   rw[hf];simp only[vy,hn];rw[if_pos ⟨by simp,by simp[LK]⟩]
   exact P1.Sc hg hr1 he hl hlen
  exact wx (K:=K1 good) hx fun fn b hfn hb {Q S G w a r} hr hf hw hp=>by
   have hfn:Tryz.prog.funcs[46]? = some fn:=hfn
   rw[Tryz.func46] at hfn;cases hfn;rw[vy] at hb;cases hb;exact JC hs hm 0 _ _ hr VG hf hw hp
 ·cases h
end Go.Abs
namespace Go.Abs
open Go Go.Proofs Go.RowKit Go.Shelf
theorem Ec (n:Nat)(w:World)(hn:n≤1000000000) :
  Calls Tryz.prog 226 #[.slice none 0 0,.int .i64 n] w fun e w'=>∃ v',e=.returned v'∧w'.ownsRow w.heap.size 93 5 v' 0 []∧Below w.heap.size w w':=by
 obtain⟨i,z,hi,hz,hzs,hs,hb⟩:=wv;by_cases h0:n=0
 ·subst h0;refine(Any8.slices_Grow_room Tryz.growV none 0 0 0 w (Nat.le_refl _) (by omega) (by omega) (by omega)).mono ?_
  rintro e w' ⟨rfl,rfl⟩
  exact⟨_,rfl,World.ownsRow_nil _ _ _ _,.refl _ _⟩
 ·refine(Any8.slices_Grow_grow Tryz.growV i z hi hz (by omega) none 0 0 n [] w (Nat.le_refl _) (by omega) (by rw[hb];omega) (by omega) (by simp) (fun _=>rfl) (fun a h=>by cases h)).mono ?_
  rintro e w' ⟨rfl,rfl⟩
  have hg:0+n≤grownCap w (0+n) 0 93:=grownCap_ge w _ _ _
  have hm:=grownCap_le_maxLen w (0+n) 0 93 (by unfold maxLen;omega)
  have:=World.ownsRow_made (base:=w.heap.size) (e:=93) (size:=5) w.drew (([]:List Value).toArray++Builtin.zeroCells z.cells (0+n - 0)++Builtin.zeroCells z.cells (grownCap w (0+n) 0 93 - (0+n))) _ (Nat.le_refl _) hm (by
   simp only[Array.size_append,size_zeroCells,hzs,List.size_toArray,List.length_nil];omega)
  exact⟨_,rfl,this,((Below.refl _ w).drew).alloc (Nat.le_refl _) _⟩
structure Pt where
 ad:Addr
 n:Nat
 cap:Nat
 row:List Value
def ir:List Pt→Nat
 | []=>0
 | p::ps=>p.n+ir ps
def nH:List Pt→List Value
 | []=>[]
 | p::ps=>p.row++nH ps
theorem li:∀ {ps:List Pt}{k:Nat}{p:Pt},ps[k]? = some p→ir (ps.take (k+1))=ir (ps.take k)+p.n
 | [],_,_,h=>by simp at h
 | q::ps,0,p,h=>by
  simp at h;subst h;simp[ir]
 | q::ps,k+1,p,h=>by
  have:=li (ps:=ps) (k:=k) (p:=p) (by simpa using h)
  simp only[List.take_succ_cons,ir];omega
theorem uB:∀ {ps:List Pt}{k:Nat}{p:Pt},ps[k]? = some p→nH (ps.take (k+1))=nH (ps.take k)++p.row
 | [],_,_,h=>by simp at h
 | q::ps,0,p,h=>by
  simp at h;subst h;simp[nH]
 | q::ps,k+1,p,h=>by
  have:=uB (ps:=ps) (k:=k) (p:=p) (by simpa using h)
  simp only[List.take_succ_cons,nH,this,List.append_assoc]
theorem sW:∀ (ps:List Pt) (k:Nat),ir (ps.take k)≤ir ps
 | [],k=>by simp
 | q::ps,0=>by simp[ir]
 | q::ps,k+1=>by
  have:=sW ps k
  simp only[List.take_succ_cons,ir];omega
structure Lies (w:World) (ba:Addr) (i:Nat) (p:Pt):Prop where
 cell:w.cell? (ba.add i)=some (.slice (some p.ad) p.n p.cap)
 len:p.row.length=p.n*5
 row:∀ j u,p.row[j]? = some u→w.cell? (p.ad.add j)=some u
 one:∀ u∈p.row,u.oneCell'=true
theorem ug (ba:Addr)(cap:Nat)(ps:List Pt)(w:World)(h:∀ i p,ps[i]? = some p→Lies w ba i p)(hk:ps.length≤1000000000)(hn:ir ps≤1000000000) :
  Calls Tryz.prog 205 #[.slice (some ba) ps.length cap] w fun e w'=>∃ v',e=.returned v'∧w'.ownsRow w.heap.size 93 5 v' (ir ps) (nH ps)∧Below w.heap.size w w':=by
 obtain⟨i,z,hi,hz,hzs,hs,hb⟩:=wv
 go_enter Tryz.func205,Tryz.ntmps205
 go_wp2
 go_loopw [3,11] (fun v3 v11 wr=>∃ k:Nat,k≤ps.length∧v3=.int .i64 (ir (ps.take k):Nat)∧v11=.int .i64 k∧wr=w) (fun _ v11 _=>ps.length - (RowKit.intOf v11).toNat)
 case atStart=>exact⟨0,Nat.zero_le _,rfl,rfl,rfl⟩
 case round =>
  obtain⟨k,hkl,rfl,rfl,hw⟩:=hrel;obtain rfl:w=wr:=hw.symm;clear hw;by_cases hlt:k<ps.length
  ·obtain⟨p,hp⟩:∃ p,ps[k]? = some p:=⟨_,List.getElem?_eq_getElem hlt⟩
   have hL:=(h k p hp).cell
   have hle:=sW ps (k+1)
   rw[li hp] at hle
   go_wp2
   go_roundw
   case rel=>exact⟨k+1,by omega,by rw[li hp];go_num,by go_num,trivial⟩
   case measure=>simp[RowKit.intOf];omega
  ·obtain rfl:k=ps.length:=by omega
   rw[List.take_length];have hgw:=Ec (ir ps) w hn
   go_wp2_with (go_at_call 226;refine hgw.mono ?_)
   rintro e w1 ⟨v6,rfl,hown,hbel⟩
   go_wp2
   go_loopw [6,27] (fun v6 v27 wr=>∃ k:Nat,k≤ps.length∧v27=.int .i64 k∧Hid (wr.ownsRow w.heap.size 93 5 v6 (ir (ps.take k)) (nH (ps.take k))∧Below w.heap.size w wr)) (fun _ v27 _=>ps.length - (RowKit.intOf v27).toNat)
   case atStart=>exact⟨0,Nat.zero_le _,rfl,hown,hbel⟩
   case round =>
    obtain⟨k,hkl2,rfl,HI⟩:=hrel;by_cases hlt2:k<ps.length
    ·obtain⟨p,hp⟩:∃ p,ps[k]? = some p:=⟨_,List.getElem?_eq_getElem hlt2⟩
     have L:Hid (Lies w ba k p):=h k p hp
     have hold:∀ {a:Addr} {v:Value},w.cell? a=some v→wr.cell? a=some v:=fun {a v} e=>by
      rw[HI.out.2.cell (World.block_lt_of_cell? w a e)];exact e
     have hc:=hold L.out.cell
     have hle:=sW ps (k+1)
     rw[li hp] at hle
     go_wp2_with (at_builtin;refine wpList_append_own _ rfl _ _ 23 rfl w.heap.size 93 i z 5 64 Tryz.underlying23 hi hz hs hb hzs (by decide) _ _ _ rfl HI.out.1 p.ad p.n p.cap p.row rfl L.out.len ?_ L.out.one ?_ ?_ ?_ ?_)
     ·exact fun j u e=>hold (L.out.row j u e)
     ·simp only[maxLen];omega
     ·omega
     ·exact HI.out.2.size
     ·intro v' w3 hown3 hgrow hne;have hbl:Below w.heap.size w w3:=HI.out.2.grown hgrow HI.out.2.size (fun b e=>(HI.out.1.lt b e).1)
      have hr:Hid (w3.ownsRow w.heap.size 93 5 v' (ir (ps.take (k+1))) (nH (ps.take (k+1)))∧Below w.heap.size w w3):=by
       rw[li hp,uB hp];exact⟨hown3,hbl⟩
      clear hown3 hgrow hne hbl
      go_wp2
      go_roundw
      case rel=>exact⟨k+1,by omega,by go_num,hr⟩
      case measure=>simp[RowKit.intOf];omega
    ·obtain rfl:k=ps.length:=by omega
     rw[List.take_length] at HI
     go_wp2
     go_ret
     exact⟨_,rfl,HI.out⟩
theorem CP (cap:Nat)(w:World) :
  Calls Tryz.prog 205 #[.slice none 0 cap] w fun e w'=>∃ v',e=.returned v'∧w'.ownsRow w.heap.size 93 5 v' 0 []∧Below w.heap.size w w':=by
 go_enter Tryz.func205,Tryz.ntmps205
 go_wp2
 go_loopw [3,11] (fun v3 v11 wr=>v3=.int .i64 0∧v11=.int .i64 0∧wr=w) (fun _ _ _=>0)
 case atStart=>exact⟨rfl,rfl,rfl⟩
 case round =>
  obtain⟨rfl,rfl,hw⟩:=hrel;obtain rfl:w=wr:=hw.symm;clear hw;have hgw:=Ec 0 w (by omega)
  go_wp2_with (go_at_call 226;refine hgw.mono ?_)
  rintro e w1 ⟨v6,rfl,hown,hbel⟩
  have H:Hid (w1.ownsRow w.heap.size 93 5 v6 0 []∧Below w.heap.size w w1):=⟨hown,hbel⟩
  clear hown hbel
  go_wp2
  go_loopw [6,27] (fun x6 v27 wr=>Hid (x6=v6)∧v27=.int .i64 0∧wr=w1) (fun _ _ _=>0)
  case atStart=>exact⟨rfl,rfl,rfl⟩
  case round =>
   obtain⟨hx6,rfl,hw⟩:=hrel;cases hx6.out;obtain rfl:w1=wr:=hw.symm;clear hw
   go_wp2
   go_ret
   exact⟨_,rfl,H.out⟩
theorem PL {I:Nat→Nat→Option Value}{w:World}(hw:∀ b o y,I b o=some y→w.cell? ⟨b,o,none⟩=some y):∀ {cs:List (List (List PV))} {ys:List Value},All2 (RP I) (cs.map PV.sl) ys→(∀ c∈cs,c≠[]∧∀ el∈c,el.length=5) →
  ∃ ps:List Pt,ps.length=cs.length∧(∀ (i:Nat) (p:Pt),ps[i]? = some p→ys[i]? = some (.slice (some p.ad) p.n p.cap)∧p.row.length=p.n*5∧(∀ (j:Nat) (u:Value),p.row[j]? = some u→w.cell? (p.ad.add j)=some u)∧∀ u∈p.row,u.oneCell'=true) ∧
   ir ps=cs.flatten.length∧All2 (RP I) cs.flatten.flatten (nH ps)
 | [],[],_,_=>⟨[],rfl,fun i p h=>by simp at h,rfl,.nil⟩
 | [],_::_,h,_=>by cases h
 | _::_,[],h,_=>by cases h
 | c::cs,y::ys,.cons h1 h2,hc=>by
  obtain⟨ps,k1,k2,k3,k4⟩:=PL hw h2 fun c' h=>hc c' (List.mem_cons_of_mem _ h)
  obtain⟨hne,h5⟩:=hc c (by simp)
  obtain⟨pa,cap,rfl,_,hs⟩:=RP.slice_inv (show RP I (.sl c) y from h1)
  obtain⟨b,o,sz,rfl,hsz',hseg⟩:=hs hne;have e5:sz=5:=by
   cases c with
   | nil=>exact absurd rfl hne
   | cons el c=>rw[←hsz' el (by simp),h5 el (by simp)]
  subst e5;obtain⟨zs,hl,hI,hv⟩:=km (by decide) h5 hseg
  refine⟨⟨⟨b,o,none⟩,c.length,cap,zs⟩::ps,by simp[k1],fun i p h => ?_,?_,?_⟩
  ·cases i with
   | zero =>
    simp at h;subst h;refine⟨rfl,hl,fun j u e => ?_,lM hv⟩
    have e':(⟨b,o,none⟩:Addr).add j=⟨b,o+j,none⟩:=by simp only[Addr.add];split<;>simp_all
    rw[e'];exact hw _ _ _ (hI j u e)
   | succ i=>exact k2 i p (by simpa using h)
  ·simp[ir,k3]
  ·rw[List.flatten_cons,List.flatten_append];exact hv.append k4
def Hs:List PV→Option (List (List PV))
 | [.sl c]=>if c≠[]∧c.all (fun el=>el.length==5)=true then some c else none
 | _=>none
def oe:List (List PV)→Option (List (List (List PV)))
 | []=>some []
 | el::ls=>match Hs el,oe ls with
  | some c,some cs=>some (c::cs)
  | _,_=>none
def rI:Prim
 | [.c (.pv (.sl ls))],[]=>match oe ls with
  | some cs=>if ls.length≤1000000000∧cs.flatten.length≤1000000000 then some (.c (.pv (.sl cs.flatten)),[]) else none
  | none=>none
 | _,_=>none
theorem sn:∀ {ls:List (List PV)}{cs:List (List (List PV))},oe ls=some cs→ls=cs.map (fun c=>[.sl c])∧∀ c∈cs,c≠[]∧∀ el∈c,el.length=5
 | [],cs,h=>by cases h;exact⟨rfl,fun c h=>by cases h⟩
 | el::ls,cs,h=>by
  rw[oe] at h;split at h
  case h_2=>cases h
  rename_i c cs' h1 h2;cases h;obtain⟨k1,k2⟩:=sn h2;unfold Hs at h1;split at h1
  case h_2=>cases h1
  split at h1
  case isFalse=>cases h1
  rename_i hc;cases h1;refine⟨by rw[k1];rfl,fun c' h' => ?_⟩
  rcases List.mem_cons.1 h' with rfl|h'
  ·exact⟨hc.1,fun el hel=>by simpa using List.all_eq_true.1 hc.2 el hel⟩
  ·exact k2 c' h'
theorem IR:∀ cs:List (List (List PV)),(cs.map fun c=>[PV.sl c]).flatten=cs.map PV.sl
 | []=>rfl
 | c::cs=>by rw[List.map_cons,List.flatten_cons,IR cs];rfl
theorem HZ {args:List AV}{bxs:List (List CV)}{x:AV×List (List CV)}(h:rI args bxs=some x):Contract Tryz.prog 205 args bxs (.ret x.1 x.2):=by
 unfold rI at h;split at h
 case h_2=>cases h
 rename_i ls;split at h
 case h_2=>cases h
 rename_i cs hcs;split at h
 case isFalse=>cases h
 rename_i hc;cases h;obtain⟨rfl,h5⟩:=sn hcs;intro G w cargs hw hargs _ _ _;obtain⟨x,rfl,hx⟩:=im hargs;obtain⟨pa,cap,rfl,_,hs⟩:=RP.slice_inv (show RP G.I (.sl (cs.map fun c=>[PV.sl c])) x from hx)
 by_cases hc0:cs=[]
 ·subst hc0;have fin:∀ {e:Ending} {w':World},(∃ v',e=.returned v'∧w'.ownsRow w.heap.size 93 5 v' 0 []∧Below w.heap.size w w')→∃ G',Ext G w G' w'∧WI G' w'∧REnd 0 G' w' e (.ret (.c (.pv (.sl (([]:List (List (List PV))).flatten)))) []):=by
   rintro e w' ⟨v',rfl,hown,hb⟩
   obtain⟨G',h1,h2,h3,_,_⟩:=rx hw hb hown (c:=[]) rfl (fun el hel=>by cases hel) .nil
   exact⟨G',h1,h2,_,rfl,h3,rfl,fun i l h=>by simp at h⟩
  cases pa with
  | none=>exact(CP cap w).mono fun e w' h=>fin h
  | some ba=>exact(ug ba cap [] w (fun i p e=>by simp at e) (by simp) (by simp[ir])).mono fun e w' h=>fin h
 obtain⟨b,o,sz,rfl,hsz',hseg⟩:=hs (by simpa using hc0)
 have h1:∀ el∈cs.map (fun c=>[PV.sl c]),el.length=1:=fun el hel=>by
  obtain⟨c,_,rfl⟩:=List.mem_map.1 hel;rfl
 have e1:sz=1:=by
  cases cs with
  | nil=>exact absurd rfl hc0
  | cons c cs=>rw[←hsz' [PV.sl c] (by simp)];rfl
 subst e1;obtain⟨ys,hl,hI,hv⟩:=km (by decide) h1 hseg
 rw[IR] at hv;obtain⟨ps,k1,k2,k3,k4⟩:=PL (fun b o y e=>hw.cell b o y e) hv h5
 have hlen:(cs.map fun c=>[PV.sl c]).length=ps.length:=by rw[List.length_map,k1]
 rw[hlen];refine(ug ⟨b,o,none⟩ cap ps w (fun i p e => ?_) (by rw[←hlen];exact hc.1) (by rw[k3];exact hc.2)).mono ?_
 ·obtain⟨j1,j2,j3,j4⟩:=k2 i p e;refine⟨?_,j2,j3,j4⟩
  have e':(⟨b,o,none⟩:Addr).add i=⟨b,o+i,none⟩:=by simp only[Addr.add];split<;>simp_all
  rw[e'];exact hw.cell _ _ _ (hI i _ j1)
 ·rintro e w' ⟨v',rfl,hown,hb⟩
  obtain⟨G',h1,h2,h3,_,_⟩:=rx hw hb hown k3.symm (fun el hel=>by
   obtain⟨c,hc',hel'⟩:=List.mem_flatten.1 hel;exact(h5 c hc').2 el hel') k4
  exact⟨G',h1,h2,_,rfl,h3,rfl,fun i l h=>by simp at h⟩
end Go.Abs
namespace Go.Abs
open Go Go.Proofs
def VL:List (Nat×Nat×List Nat×List Nat):=[
 (15,3,[0,1,5,6],[]),
 (15,7,[0,1,5,6,7],[]),
 (31,3,[1,3,7,8,9],[1,3]),
 (29,3,[3,6,7,8],[]),
 (22,4,[0,1,5],[]),
 (22,9,[0,1,5,6],[]),
 (99,2,[3],[6]),
 (33,3,[0,3,4],[]),
 (58,3,[0,3,4],[]),
 (43,2,[0,1,2,7],[]),
 (35,1,[0,8,9,10],[100000]),
 (63,1,[0,6,7,8],[100000]),
 (60,12,[0,1,5,39,40,41],[]),
 (60,22,[1,8,63,64,65],[8]),
 (18,4,[4,5,6],[]),
 (52,4,[0,1,5],[]),
 (65,5,[0,4,6],[4]),
 (231,5,[5,15,16,17],[]),
 (34,2,[0,3,4],[]),
 (34,4,[0,3,4],[]),
 (26,4,[0,1,5,6,7],[]),
 (48,4,[2,4,5,6],[2,5,10]),
 (48,6,[2,4,5,7],[2,5,7,10]),
 (182,2,[0,1,2,7],[100000]),
 (186,6,[0,2,3,4,29],[100000]),
 (115,2,[0,5],[]),
 (117,2,[0,1,5],[]),
 (118,1,[0,1],[]),
 (120,4,[0,1,4,6,7],[4]),
 (64,2,[0,2,3,8,9],[8,9]),
 (142,3,[3,4],[]),
 (145,3,[0,2,4,5],[2,9]),
 (146,2,[0,3],[100000]),
 (214,15,[0,1,5,6,7,8,9,10],[]),
 (230,12,[0,6,8],[6]),
 (230,18,[1,45],[]),
 (196,1,[0,1,4],[]),
 (197,11,[0,1,3,4,10,11,12,13,14,15,16],[12]),
 (197,18,[0,1,3,4,10,11,12,13,17],[12]),
 (232,5,[0,1,5,6,7,8,9],[]),
 (232,11,[0,1,5,6,7,8,10],[]),
 (199,5,[0,7,8,9],[]),
 (199,12,[0,7,8,9,12],[]),
 (199,25,[0,7,8,9,14,15],[]),
 (199,29,[0,7,8,9,14,15,16],[]),
 (199,38,[175],[]),
 (128,2,[0,2,4],[2]),
 (236,3,[0,4,5],[]),
 (236,8,[4,6,7,8],[]),
 (101,5,[0,3,4],[]),
 (59,3,[0,3,4],[]),
 (42,4,[0,1,2,7],[]),
 (148,2,[0,1,2,7],[100000,100001]),
 (70,1,[0],[]),
 (70,3,[0],[]),
 (25,3,[0,1,5,6],[]),
 (137,2,[0,1,7,8],[100000]),
 (5,18,[9,11,13,14,15,16],[]),
 (8,11,[1,5,7,8,9,10],[9]),
 (17,3,[4,9,10,11],[4]),
 (24,2,[0,3],[]),
 (24,7,[0,3,4,5,6],[4]),
 (47,3,[0,2,3,4],[2,3,100000]),
 (55,3,[1,3,11,12,13],[1]),
 (56,2,[0,3],[]),
 (81,4,[1,2,15,16,17],[100000]),
 (83,4,[1,2,15,16,17],[100000]),
 (85,4,[1,2,15,16,17],[100000]),
 (91,2,[0,4],[100000]),
 (104,2,[0,1,7,8],[100000]),
 (105,2,[0,1,7,8,9],[]),
 (141,2,[0,3],[100000]),
 (151,2,[0,1,7,8],[]),
 (170,3,[3,8,9,10],[]),
 (1000000,0,[],[])]
def eC (f r:Nat):List Nat×List Nat:=match VL.find? (fun x=>x.1==f&&x.2.1==r) with|some x=>x.2.2|none=>([],[])
def prL:List (Nat×Prim):=[
 (155,pM),
 (177,nT),
 (179,jH),
 (193,vU),
 (230,nb),
 (68,Dc),
 (60,EY),
 (121,od),
 (36,qm),
 (142,pLow),
 (170,rL),
 (98,xn),
 (124,Bb),
 (45,pAt),
 (206,BG),
 (79,Er),
 (80,Eu),
 (205,rI),
 (1000000,fun _ _=>none)]
def prF (f:Nat):Option Prim:=(prL.find? (fun x=>x.1==f)).map (·.2)
def gJ (f i:Nat):Bool:=f==145&&i==6
def ownB (f:Nat):Bool :=
 f==227 ||
 f==1000000
def Rl (P:Program)(f:Nat):Bool :=
 match P.funcs[f]? with
 | some fn => fn.name != "runtime.NumGoroutine" && (match fn.body with | some c => gI (gJ f) c | none => false)
 | none=>false
def goods:List Nat:=[3,4,5,6,7,8,9,10,11,12,13,14,15,16,17,18,19,20,21,22,23,24,25,26,27,28,29,30,31,32,33,34,35,36,37,38,39,40,41,42,43,44,45,46,47,48,49,50,51,52,53,54,55,56,57,58,59,60,61,62,63,64,65,66,67,68,69,70,71,72,73,74,75,76,77,78,79,80,81,82,83,84,85,86,87,88,89,90,91,92,93,94,95,96,97,98,99,100,101,102,103,104,105,106,107,108,109,110,111,112,113,114,115,116,117,118,119,120,121,122,123,124,125,126,127,128,129,130,131,132,133,134,135,136,137,138,139,140,141,142,143,144,145,146,147,148,149,150,151,152,153,154,155,156,157,159,160,161,162,163,164,165,166,167,168,169,170,171,172,173,174,175,176,177,178,179,180,181,182,183,184,185,186,187,188,189,190,191,193,194,195,196,197,198,199,200,201,202,203,204,205,206,207,208,209,210,211,212,213,214,215,216,217,218,219,220,221,223,224,225,226,227,228,230,231,232,233,234,235,236,266]
theorem CN:goods.all (Rl Tryz.prog)=true:=by kernel_rfl
theorem Fp {g : Nat}(hg : goods.contains g = true) : ∃ fn, Tryz.prog.funcs[g]? = some fn ∧ fn.name ≠ "runtime.NumGoroutine" ∧ fn.body.isSome = true := by
 have h1:g∈goods:=by simpa using hg
 have h2:=List.all_eq_true.1 CN g h1
 unfold Rl at h2;split at h2
 ·rename_i fn hfn;simp only[Bool.and_eq_true] at h2;obtain⟨h3,h4⟩:=h2;split at h4
  ·rename_i c hc;exact⟨fn,hfn,by simpa using h3,by rw[hc];rfl⟩
  ·cases h4
 ·cases h2
def hpL:List (Nat×(List AV→List (List CV)→Plan)):=[
 (37,ic goods.contains),
 (46,parse1P),
 (1000000,fun _ _=>.fail)]
def hpF (f:Nat):Option (List AV→List (List CV)→Plan):=(hpL.find? (fun x=>x.1==f)).map (·.2)
noncomputable def K:Cfg := { P:=Tryz.prog,pr:=prF,keep:=eC,ownRet:=ownB,good:=goods.contains,hook:=gJ,hp:=hpF }
theorem Uj:Prog K:=by
 refine⟨by kernel_rfl,fun g hg => ?_,fun f F args bxs x _ hF hx => ?_,fun f F args bxs r call _ hF hc hr => ?_⟩
 ·have h1:g∈goods:=by simpa[K] using hg
  have h2:=List.all_eq_true.1 CN g h1
  unfold Rl at h2;split at h2
  ·rename_i fn hfn;simp only[Bool.and_eq_true] at h2;obtain⟨h3,h4⟩:=h2;split at h4
   ·rename_i c hc;exact⟨fn,c,hfn,by simpa using h3,hc,h4⟩
   ·cases h4
  ·cases h2
 ·have h1:∀ y∈prL, ∀ args bxs x,y.2 args bxs=some x→Contract Tryz.prog y.1 args bxs (.ret x.1 x.2):=by
   intro y hy;simp only[prL,List.mem_cons,List.not_mem_nil,or_false] at hy
   repeat' (first|(rcases hy with rfl|hy)|(cases hy))
   all_goals first
    | exact fun _ _ _ h=>BZ h
    | exact fun _ _ _ h=>yx h
    | exact fun _ _ _ h=>qq h
    | exact fun _ _ _ h=>LG h
    | exact fun _ _ _ h=>BL h
    | exact fun _ _ _ h=>NG h
    | exact fun _ _ _ h=>PG h
    | exact fun _ _ _ h=>yB h
    | exact fun _ _ _ h=>GK h
    | exact fun _ _ _ h=>Sa h
    | exact fun _ _ _ h=>pSmall_ok h
    | exact fun _ _ _ h=>FU h
    | exact fun _ _ _ h=>Kh h
    | exact fun _ _ _ h=>Kv h
    | exact fun _ _ _ h=>Vd h
    | exact fun _ _ _ h=>KV h
    | exact fun _ _ _ h=>MX h
    | exact fun _ _ _ h=>PN h
    | exact fun _ _ _ h=>HZ h
    | exact fun _ _ _ h=>by cases h
  have h2:prF f=some F:=hF
  unfold prF at h2;rw[Option.map_eq_some_iff] at h2;obtain⟨y,hy,rfl⟩:=h2;have h3:=List.mem_of_find?_eq_some hy
  have h4:y.1=f:=by simpa using List.find?_some hy
  rw[←h4];exact h1 y h3 args bxs x hx
 ·have h1:∀ y∈hpL, ∀ args bxs r,(y.2 args bxs).run call=some r→Contract Tryz.prog y.1 args bxs r:=by
   intro y hy;simp only[hpL,List.mem_cons,List.not_mem_nil,or_false] at hy
   repeat' (first|(rcases hy with rfl|hy)|(cases hy))
   all_goals first
    | exact fun _ _ _ h=>PJ (fun _=>Fp) (by kernel_rfl) hc h
    | exact fun _ _ _ h=>Mm (fun _=>Fp) (by kernel_rfl) hc h
    | exact fun _ _ _ h=>by cases h
  have h2:hpF f=some F:=hF
  unfold hpF at h2;rw[Option.map_eq_some_iff] at h2;obtain⟨y,hy,rfl⟩:=h2;have h3:=List.mem_of_find?_eq_some hy
  have h4:y.1=f:=by simpa using List.find?_some hy
  rw[←h4];exact h1 y h3 args bxs r hr
theorem bK:dx Tryz.prog 3=Option.some Option.none:=by kernel_rfl
theorem cy:szOf Tryz.prog 3=Option.some 1:=by kernel_rfl
theorem xU:zeroCells Tryz.prog 3=Option.some [Go.Abs.CV.pv (Go.Abs.PV.int Go.IntKind.i64 0)]:=by kernel_rfl
theorem cU:cD Tryz.prog 3=Option.some (Go.Abs.Desc.int Go.IntKind.i64):=by kernel_rfl
theorem lY:jM Tryz.prog 3=Bool.true:=by kernel_rfl
theorem uK:qJ Tryz.prog 3=Option.some (Go.Abs.TV.c (Go.Abs.CV.pv (Go.Abs.PV.int Go.IntKind.i64 0))):=by kernel_rfl
theorem lk:dx Tryz.prog 4=Option.some Option.none:=by kernel_rfl
theorem lH:szOf Tryz.prog 4=Option.some 1:=by kernel_rfl
theorem AY:vw Tryz.prog 4=Bool.true:=by kernel_rfl
theorem nf:szOf Tryz.prog 5=Option.some 1:=by kernel_rfl
theorem iT:zeroCells Tryz.prog 5=Option.some [Go.Abs.CV.pv (Go.Abs.PV.int Go.IntKind.u8 0)]:=by kernel_rfl
theorem eE:cD Tryz.prog 5=Option.some (Go.Abs.Desc.int Go.IntKind.u8):=by kernel_rfl
theorem JG:isU8 Tryz.prog 5=Bool.true:=by kernel_rfl
theorem cj:dx Tryz.prog 9=Option.some Option.none:=by kernel_rfl
theorem aN:szOf Tryz.prog 9=Option.some 1:=by kernel_rfl
theorem aH:zeroCells Tryz.prog 9=Option.some [Go.Abs.CV.pv (Go.Abs.PV.str [])]:=by kernel_rfl
theorem am:cD Tryz.prog 9=Option.some Go.Abs.Desc.str:=by kernel_rfl
theorem iR:jM Tryz.prog 9=Bool.true:=by kernel_rfl
theorem uw:qJ Tryz.prog 9=Option.some (Go.Abs.TV.c (Go.Abs.CV.pv (Go.Abs.PV.str []))):=by kernel_rfl
theorem se:dx Tryz.prog 20=Option.some Option.none:=by kernel_rfl
theorem cW:szOf Tryz.prog 20=Option.some 1:=by kernel_rfl
theorem bM:zeroCells Tryz.prog 20=Option.some [Go.Abs.CV.pv Go.Abs.PV.nilifc]:=by kernel_rfl
theorem BO:cD Tryz.prog 21=Option.some (Go.Abs.Desc.int Go.IntKind.i32):=by kernel_rfl
theorem fK:dx Tryz.prog 23=Option.some Option.none:=by kernel_rfl
theorem ee:szOf Tryz.prog 23=Option.some 1:=by kernel_rfl
theorem jC:zeroCells Tryz.prog 23=Option.some [Go.Abs.CV.nils]:=by kernel_rfl
theorem cN:iX Tryz.prog 23=Option.some (93,5):=by kernel_rfl
theorem ak:cD Tryz.prog 23=Option.some (Go.Abs.Desc.sl 93 Bool.false):=by kernel_rfl
theorem nK:dx Tryz.prog 31=Option.some Option.none:=by kernel_rfl
theorem uU:zeroCells Tryz.prog 31=Option.some [Go.Abs.CV.nils]:=by kernel_rfl
theorem mO:iX Tryz.prog 31=Option.some (47,2):=by kernel_rfl
theorem aL:cD Tryz.prog 31=Option.some (Go.Abs.Desc.sl 47 Bool.false):=by kernel_rfl
theorem mT:iX Tryz.prog 41=Option.some (23,1):=by kernel_rfl
theorem cv:cD Tryz.prog 41=Option.some (Go.Abs.Desc.sl 23 Bool.false):=by kernel_rfl
theorem jb:dx Tryz.prog 45=Option.some Option.none:=by kernel_rfl
theorem kw:szOf Tryz.prog 45=Option.some 1:=by kernel_rfl
theorem cG:iX Tryz.prog 45=Option.some (50,2):=by kernel_rfl
theorem ay:cD Tryz.prog 45=Option.some (Go.Abs.Desc.sl 50 Bool.false):=by kernel_rfl
theorem kh:dx Tryz.prog 47=Option.some (Option.some 2):=by kernel_rfl
theorem fy:szOf Tryz.prog 47=Option.some 2:=by kernel_rfl
theorem aZ:zeroCells Tryz.prog 47=Option.some [Go.Abs.CV.nils,Go.Abs.CV.pv (Go.Abs.PV.str [])]:=by kernel_rfl
theorem cg:fl Tryz.prog 47=Option.some [(0,1),(1,1)]:=by kernel_rfl
theorem fT:bQ Tryz.prog 47 0=Option.some (0,45):=by kernel_rfl
theorem fU:bQ Tryz.prog 47 1=Option.some (1,9):=by kernel_rfl
theorem fI:dx Tryz.prog 48=Option.some Option.none:=by kernel_rfl
theorem ib:szOf Tryz.prog 48=Option.some 1:=by kernel_rfl
theorem qE:iX Tryz.prog 48=Option.some (52,6):=by kernel_rfl
theorem ae:cD Tryz.prog 48=Option.some (Go.Abs.Desc.sl 52 Bool.false):=by kernel_rfl
theorem lC:dx Tryz.prog 50=Option.some (Option.some 2):=by kernel_rfl
theorem cP:szOf Tryz.prog 50=Option.some 2:=by kernel_rfl
theorem aO:zeroCells Tryz.prog 50=Option.some [Go.Abs.CV.pv (Go.Abs.PV.int Go.IntKind.i64 0),Go.Abs.CV.nils]:=by kernel_rfl
theorem cq:fl Tryz.prog 50=Option.some [(0,1),(1,1)]:=by kernel_rfl
theorem kD:bQ Tryz.prog 50 0=Option.some (0,3):=by kernel_rfl
theorem fV:bQ Tryz.prog 50 1=Option.some (1,48):=by kernel_rfl
theorem fL:dx Tryz.prog 52=Option.some (Option.some 6):=by kernel_rfl
theorem dZ:szOf Tryz.prog 52=Option.some 6:=by kernel_rfl
theorem ab:zeroCells Tryz.prog 52=Option.some [Go.Abs.CV.pv (Go.Abs.PV.int Go.IntKind.i64 0),Go.Abs.CV.pv (Go.Abs.PV.str []),Go.Abs.CV.pv (Go.Abs.PV.str []),Go.Abs.CV.pv (Go.Abs.PV.int Go.IntKind.i64 0),Go.Abs.CV.pv (Go.Abs.PV.int Go.IntKind.i64 0),Go.Abs.CV.nils]:=by kernel_rfl
theorem ah:fl Tryz.prog 52=Option.some [(0,1),(1,1),(2,1),(3,1),(4,1),(5,1)]:=by kernel_rfl
theorem dz:bQ Tryz.prog 52 0=Option.some (0,3):=by kernel_rfl
theorem fc:bQ Tryz.prog 52 1=Option.some (1,9):=by kernel_rfl
theorem eF:bQ Tryz.prog 52 2=Option.some (2,9):=by kernel_rfl
theorem fQ:bQ Tryz.prog 52 3=Option.some (3,3):=by kernel_rfl
theorem fS:bQ Tryz.prog 52 4=Option.some (4,3):=by kernel_rfl
theorem gO:bQ Tryz.prog 52 5=Option.some (5,48):=by kernel_rfl
theorem eB:dx Tryz.prog 60=Option.some Option.none:=by kernel_rfl
theorem fC:szOf Tryz.prog 60=Option.some 1:=by kernel_rfl
theorem mQ:iX Tryz.prog 60=Option.some (91,3):=by kernel_rfl
theorem aG:cD Tryz.prog 60=Option.some (Go.Abs.Desc.sl 91 Bool.false):=by kernel_rfl
theorem AJ:dx Tryz.prog 64=Option.some Option.none:=by kernel_rfl
theorem GL:szOf Tryz.prog 64=Option.some 1:=by kernel_rfl
theorem yp:iX Tryz.prog 64=Option.some (5,1):=by kernel_rfl
theorem fi:cD Tryz.prog 64=Option.some (Go.Abs.Desc.sl 5 Bool.true):=by kernel_rfl
theorem nR:szOf Tryz.prog 66=Option.some 2:=by kernel_rfl
theorem tz:bQ Tryz.prog 66 1=Option.some (1,64):=by kernel_rfl
theorem oG:zeroCells Tryz.prog 68=Option.some [Go.Abs.CV.nilp,Go.Abs.CV.nils]:=by kernel_rfl
theorem ja:bQ Tryz.prog 68 0=Option.some (0,66):=by kernel_rfl
theorem AD:dx Tryz.prog 83=Option.some (Option.some 2):=by kernel_rfl
theorem HK:szOf Tryz.prog 83=Option.some 2:=by kernel_rfl
theorem bE:zeroCells Tryz.prog 83=Option.some [Go.Abs.CV.pv (Go.Abs.PV.int Go.IntKind.i64 0),Go.Abs.CV.pv (Go.Abs.PV.int Go.IntKind.i64 0)]:=by kernel_rfl
theorem cw:Fs Tryz.prog 83=Option.some (2,1):=by kernel_rfl
theorem bg:dx Tryz.prog 91=Option.some (Option.some 3):=by kernel_rfl
theorem bc:szOf Tryz.prog 91=Option.some 3:=by kernel_rfl
theorem ag:zeroCells Tryz.prog 91=Option.some [Go.Abs.CV.pv (Go.Abs.PV.int Go.IntKind.i64 0),Go.Abs.CV.pv (Go.Abs.PV.str []),Go.Abs.CV.pv (Go.Abs.PV.int Go.IntKind.i64 0)]:=by kernel_rfl
theorem al:fl Tryz.prog 91=Option.some [(0,1),(1,1),(2,1)]:=by kernel_rfl
theorem cV:bQ Tryz.prog 91 0=Option.some (0,3):=by kernel_rfl
theorem dW:bQ Tryz.prog 91 1=Option.some (1,9):=by kernel_rfl
theorem fR:bQ Tryz.prog 91 2=Option.some (2,3):=by kernel_rfl
theorem dI:dx Tryz.prog 93=Option.some (Option.some 5):=by kernel_rfl
theorem bh:szOf Tryz.prog 93=Option.some 5:=by kernel_rfl
theorem aF:zeroCells Tryz.prog 93=Option.some [Go.Abs.CV.pv (Go.Abs.PV.int Go.IntKind.i64 0),Go.Abs.CV.pv (Go.Abs.PV.int Go.IntKind.i64 0),Go.Abs.CV.pv (Go.Abs.PV.str []),Go.Abs.CV.pv (Go.Abs.PV.int Go.IntKind.i64 0),Go.Abs.CV.nils]:=by kernel_rfl
theorem bC:fl Tryz.prog 93=Option.some [(0,1),(1,3),(4,1)]:=by kernel_rfl
theorem cX:bQ Tryz.prog 93 0=Option.some (0,3):=by kernel_rfl
theorem bX:bQ Tryz.prog 93 1=Option.some (1,91):=by kernel_rfl
theorem gG:bQ Tryz.prog 93 2=Option.some (4,23):=by kernel_rfl
theorem yq:iX Tryz.prog 97=Option.some (9,1):=by kernel_rfl
theorem aK:cD Tryz.prog 97=Option.some (Go.Abs.Desc.sl 9 Bool.false):=by kernel_rfl
theorem yi:dx Tryz.prog 102=Option.some (Option.some 3):=by kernel_rfl
theorem uA:szOf Tryz.prog 102=Option.some 3:=by kernel_rfl
theorem jo:zeroCells Tryz.prog 102=Option.some [Go.Abs.CV.nils,Go.Abs.CV.pv (Go.Abs.PV.int Go.IntKind.i64 0),Go.Abs.CV.pv (Go.Abs.PV.bool Bool.false)]:=by kernel_rfl
theorem oB:fl Tryz.prog 102=Option.some [(0,1),(1,1),(2,1)]:=by kernel_rfl
theorem mu:bQ Tryz.prog 102 0=Option.some (0,23):=by kernel_rfl
theorem rr:bQ Tryz.prog 102 1=Option.some (1,3):=by kernel_rfl
theorem mv:bQ Tryz.prog 102 2=Option.some (2,4):=by kernel_rfl
theorem bO:cD Tryz.prog 108=Option.some (Go.Abs.Desc.sl 20 Bool.false):=by kernel_rfl
theorem gY:zeroCells Tryz.prog 115=Option.some []:=by kernel_rfl
theorem ip:fl Tryz.prog 115=Option.some []:=by kernel_rfl
theorem mX:jM Tryz.prog 115=Bool.true:=by kernel_rfl
theorem bt:zeroCells Tryz.prog 118=Option.some [Go.Abs.CV.nils]:=by kernel_rfl
theorem bF:fl Tryz.prog 118=Option.some [(0,1)]:=by kernel_rfl
theorem ko:bQ Tryz.prog 118 0=Option.some (0,23):=by kernel_rfl
theorem aJ:zeroCells Tryz.prog 141=Option.some [Go.Abs.CV.nils,Go.Abs.CV.pv (Go.Abs.PV.int Go.IntKind.i64 0),Go.Abs.CV.pv (Go.Abs.PV.bool Bool.false)]:=by kernel_rfl
theorem aM:fl Tryz.prog 141=Option.some [(0,1),(1,1),(2,1)]:=by kernel_rfl
theorem iA:bQ Tryz.prog 141 0=Option.some (0,23):=by kernel_rfl
theorem gp:bQ Tryz.prog 141 1=Option.some (1,3):=by kernel_rfl
theorem iy:bQ Tryz.prog 141 2=Option.some (2,4):=by kernel_rfl
theorem qC:dx Tryz.prog 146=Option.some (Option.some 5):=by kernel_rfl
theorem uk:szOf Tryz.prog 146=Option.some 5:=by kernel_rfl
theorem jd:zeroCells Tryz.prog 146=Option.some [Go.Abs.CV.pv (Go.Abs.PV.int Go.IntKind.i64 0),Go.Abs.CV.pv (Go.Abs.PV.str []),Go.Abs.CV.pv (Go.Abs.PV.str []),Go.Abs.CV.pv (Go.Abs.PV.int Go.IntKind.i64 0),Go.Abs.CV.pv (Go.Abs.PV.int Go.IntKind.i64 0)]:=by kernel_rfl
theorem oC:fl Tryz.prog 146=Option.some [(0,1),(1,1),(2,1),(3,1),(4,1)]:=by kernel_rfl
theorem kK:dx Tryz.prog 181=Option.some Option.none:=by kernel_rfl
theorem mH:szOf Tryz.prog 181=Option.some 1:=by kernel_rfl
theorem aB:cD Tryz.prog 181=Option.some Go.Abs.Desc.str:=by kernel_rfl
theorem tm:zeroCells Tryz.prog 183=Option.some [Go.Abs.CV.pv (Go.Abs.PV.str []),Go.Abs.CV.nils]:=by kernel_rfl
theorem uW:fl Tryz.prog 183=Option.some [(0,1),(1,1)]:=by kernel_rfl
theorem ix:bQ Tryz.prog 183 0=Option.some (0,181):=by kernel_rfl
theorem mM:bQ Tryz.prog 183 1=Option.some (1,60):=by kernel_rfl
theorem SP:K.good 10=true:=by kernel_rfl
theorem SI:K.good 11=true:=by kernel_rfl
theorem Sz:K.good 12=true:=by kernel_rfl
theorem RS:K.good 13=true:=by kernel_rfl
theorem TU:K.good 15=true:=by kernel_rfl
theorem SS:K.good 17=true:=by kernel_rfl
theorem TW:K.good 18=true:=by kernel_rfl
theorem RM:K.good 19=true:=by kernel_rfl
theorem Sx:K.good 20=true:=by kernel_rfl
theorem TY:K.good 21=true:=by kernel_rfl
theorem TR:K.good 22=true:=by kernel_rfl
theorem Tc:K.good 24=true:=by kernel_rfl
theorem Sy:K.good 26=true:=by kernel_rfl
theorem Sm:K.good 27=true:=by kernel_rfl
theorem RE:K.good 29=true:=by kernel_rfl
theorem Tw:K.good 31=true:=by kernel_rfl
theorem SC:K.good 32=true:=by kernel_rfl
theorem Tp:K.good 33=true:=by kernel_rfl
theorem BE:K.good 34=true:=by kernel_rfl
theorem Be:K.good 35=true:=by kernel_rfl
theorem Ik:K.good 36=true:=by kernel_rfl
theorem AL:K.good 37=true:=by kernel_rfl
theorem SH:K.good 39=true:=by kernel_rfl
theorem pL:K.good 40=true:=by kernel_rfl
theorem SJ:K.good 41=true:=by kernel_rfl
theorem Si:K.good 43=true:=by kernel_rfl
theorem SU:K.good 45=true:=by kernel_rfl
theorem Sj:K.good 48=true:=by kernel_rfl
theorem Tm:K.good 49=true:=by kernel_rfl
theorem TX:K.good 50=true:=by kernel_rfl
theorem rX:K.good 51=true:=by kernel_rfl
theorem SA:K.good 52=true:=by kernel_rfl
theorem SG:K.good 56=true:=by kernel_rfl
theorem Jl:K.good 57=true:=by kernel_rfl
theorem Rx:K.good 60=true:=by kernel_rfl
theorem RY:K.good 61=true:=by kernel_rfl
theorem Tl:K.good 62=true:=by kernel_rfl
theorem IB:K.good 63=true:=by kernel_rfl
theorem Jg:K.good 64=true:=by kernel_rfl
theorem RR:K.good 65=true:=by kernel_rfl
theorem AP:K.good 66=true:=by kernel_rfl
theorem Iz:K.good 67=true:=by kernel_rfl
theorem AG:K.good 68=true:=by kernel_rfl
theorem TH:K.good 70=true:=by kernel_rfl
theorem vG:K.good 71=true:=by kernel_rfl
theorem Rq:K.good 72=true:=by kernel_rfl
theorem vt:K.good 73=true:=by kernel_rfl
theorem BD:K.good 74=true:=by kernel_rfl
theorem Ta:K.good 75=true:=by kernel_rfl
theorem Tz:K.good 76=true:=by kernel_rfl
theorem vl:K.good 77=true:=by kernel_rfl
theorem vb:K.good 78=true:=by kernel_rfl
theorem TP:K.good 79=true:=by kernel_rfl
theorem SX:K.good 80=true:=by kernel_rfl
theorem TJ:K.good 91=true:=by kernel_rfl
theorem Tj:K.good 92=true:=by kernel_rfl
theorem Ix:K.good 93=true:=by kernel_rfl
theorem Jc:K.good 94=true:=by kernel_rfl
theorem BR:K.good 95=true:=by kernel_rfl
theorem Bx:K.good 96=true:=by kernel_rfl
theorem TK:K.good 97=true:=by kernel_rfl
theorem Te:K.good 98=true:=by kernel_rfl
theorem SN:K.good 99=true:=by kernel_rfl
theorem wX:K.good 100=true:=by kernel_rfl
theorem Pf:K.good 101=true:=by kernel_rfl
theorem sy:K.good 102=true:=by kernel_rfl
theorem rP:K.good 103=true:=by kernel_rfl
theorem DT:K.good 106=true:=by kernel_rfl
theorem oQ:K.good 107=true:=by kernel_rfl
theorem OC:K.good 109=true:=by kernel_rfl
theorem Om:K.good 112=true:=by kernel_rfl
theorem QQ:K.good 113=true:=by kernel_rfl
theorem PZ:K.good 114=true:=by kernel_rfl
theorem Qo:K.good 115=true:=by kernel_rfl
theorem wG:K.good 116=true:=by kernel_rfl
theorem Rb:K.good 117=true:=by kernel_rfl
theorem Cu:K.good 118=true:=by kernel_rfl
theorem Cw:K.good 119=true:=by kernel_rfl
theorem PT:K.good 120=true:=by kernel_rfl
theorem Ql:K.good 121=true:=by kernel_rfl
theorem Rj:K.good 123=true:=by kernel_rfl
theorem Pd:K.good 124=true:=by kernel_rfl
theorem PF:K.good 125=true:=by kernel_rfl
theorem Qh:K.good 138=true:=by kernel_rfl
theorem Pp:K.good 139=true:=by kernel_rfl
theorem Ex:K.good 140=true:=by kernel_rfl
theorem Qx:K.good 141=true:=by kernel_rfl
theorem pb:K.good 142=true:=by kernel_rfl
theorem Rc:K.good 143=true:=by kernel_rfl
theorem Oq:K.good 144=true:=by kernel_rfl
theorem NS:K.good 145=true:=by kernel_rfl
theorem QP:K.good 146=true:=by kernel_rfl
theorem Ox:K.good 149=true:=by kernel_rfl
theorem NH:K.good 151=true:=by kernel_rfl
theorem sB:K.good 152=true:=by kernel_rfl
theorem sI:K.good 153=true:=by kernel_rfl
theorem Og:K.good 155=true:=by kernel_rfl
theorem QB:K.good 156=true:=by kernel_rfl
theorem Oj:K.good 157=true:=by kernel_rfl
theorem Pz:K.good 160=true:=by kernel_rfl
theorem Nc:K.good 170=true:=by kernel_rfl
theorem PE:K.good 171=true:=by kernel_rfl
theorem QT:K.good 172=true:=by kernel_rfl
theorem Oo:K.good 173=true:=by kernel_rfl
theorem vY:K.good 175=true:=by kernel_rfl
theorem DM:K.good 176=true:=by kernel_rfl
theorem PB:K.good 177=true:=by kernel_rfl
theorem Nd:K.good 178=true:=by kernel_rfl
theorem Cg:K.good 179=true:=by kernel_rfl
theorem OA:K.good 180=true:=by kernel_rfl
theorem Es:K.good 181=true:=by kernel_rfl
theorem wn:K.good 182=true:=by kernel_rfl
theorem OL:K.good 183=true:=by kernel_rfl
theorem CT:K.good 184=true:=by kernel_rfl
theorem wD:K.good 185=true:=by kernel_rfl
theorem Nf:K.good 186=true:=by kernel_rfl
theorem Nu:K.good 191=true:=by kernel_rfl
theorem QC:K.good 193=true:=by kernel_rfl
theorem QD:K.good 204=true:=by kernel_rfl
theorem Pu:K.good 205=true:=by kernel_rfl
theorem PO:K.good 206=true:=by kernel_rfl
theorem Pj:K.good 209=true:=by kernel_rfl
theorem PP:K.good 210=true:=by kernel_rfl
theorem Nj:K.good 212=true:=by kernel_rfl
theorem NC:K.good 230=true:=by kernel_rfl
theorem KB:eC 15 3=([0,1,5,6],[]):=by kernel_rfl
theorem MN:eC 15 7=([0,1,5,6,7],[]):=by kernel_rfl
theorem MD:eC 31 3=([1,3,7,8,9],[1,3]):=by kernel_rfl
theorem MV:eC 29 3=([3,6,7,8],[]):=by kernel_rfl
theorem JP:eC 22 4=([0,1,5],[]):=by kernel_rfl
theorem Kn:eC 22 9=([0,1,5,6],[]):=by kernel_rfl
theorem Kf:eC 99 2=([3],[6]):=by kernel_rfl
theorem LB:eC 33 3=([0,3,4],[]):=by kernel_rfl
theorem Ku:eC 43 2=([0,1,2,7],[]):=by kernel_rfl
theorem lJ:eC 35 1=([0,8,9,10],[100000]):=by kernel_rfl
theorem LZ:eC 63 1=([0,6,7,8],[100000]):=by kernel_rfl
theorem JZ:eC 18 4=([4,5,6],[]):=by kernel_rfl
theorem Lr:eC 52 4=([0,1,5],[]):=by kernel_rfl
theorem MW:eC 65 5=([0,4,6],[4]):=by kernel_rfl
theorem LR:eC 34 2=([0,3,4],[]):=by kernel_rfl
theorem MS:eC 34 4=([0,3,4],[]):=by kernel_rfl
theorem LH:eC 26 4=([0,1,5,6,7],[]):=by kernel_rfl
theorem yY:eC 48 4=([2,4,5,6],[2,5,10]):=by kernel_rfl
theorem zM:eC 48 6=([2,4,5,7],[2,5,7,10]):=by kernel_rfl
theorem HD:eC 182 2=([0,1,2,7],[100000]):=by kernel_rfl
theorem GC:eC 186 6=([0,2,3,4,29],[100000]):=by kernel_rfl
theorem Gx:eC 115 2=([0,5],[]):=by kernel_rfl
theorem Hh:eC 117 2=([0,1,5],[]):=by kernel_rfl
theorem GA:eC 118 1=([0,1],[]):=by kernel_rfl
theorem FC:eC 120 4=([0,1,4,6,7],[4]):=by kernel_rfl
theorem Kw:eC 64 2=([0,2,3,8,9],[8,9]):=by kernel_rfl
theorem vR:eC 145 3=([0,2,4,5],[2,9]):=by kernel_rfl
theorem Hv:eC 146 2=([0,3],[100000]):=by kernel_rfl
theorem HA:eC 101 5=([0,3,4],[]):=by kernel_rfl
theorem Kk:eC 70 1=([0],[]):=by kernel_rfl
theorem KL:eC 70 3=([0],[]):=by kernel_rfl
theorem Ko:eC 17 3=([4,9,10,11],[4]):=by kernel_rfl
theorem LN:eC 24 2=([0,3],[]):=by kernel_rfl
theorem MU:eC 24 7=([0,3,4,5,6],[4]):=by kernel_rfl
theorem LJ:eC 47 3=([0,2,3,4],[2,3,100000]):=by kernel_rfl
theorem LC:eC 56 2=([0,3],[]):=by kernel_rfl
theorem Mz:eC 91 2=([0,4],[100000]):=by kernel_rfl
theorem FX:eC 141 2=([0,3],[100000]):=by kernel_rfl
theorem Hj:eC 151 2=([0,1,7,8],[]):=by kernel_rfl
end Go.Abs
namespace Go.Abs
def lZ (n:Int):List UInt8:=if n=1 then [32] else if n=2 then [62] else if n=3 then [43] else if n=4 then [126] else []
def ma (s:List UInt8):List UInt8:=if 0≤Lib.indexByte s 34 then 39::s++[39] else 34::s++[34]
def nthS (a b:Int):List UInt8:=(if a=0 then [] else Lib.itoa a++[110])++(if a=0∨b<0 then Lib.itoa b else if 0<b then 43::Lib.itoa b else [])
inductive Sim where
 | mk (kind:Int) (name value:List UInt8) (a b:Int) (l:List Sim)
mutual
def simS:Sim→List UInt8
 | .mk k n v a b l =>
  if k=1 then [42]
  else if k=2 then n
  else if k=3 then 35::n
  else if k=4 then 46::n
  else if k=5 then 91::(n++[93])
  else if k=6 then 91::(n++61::(ma v++[93]))
  else if k=7 then 58::n
  else if k=8 then [58,110,116,104,45,99,104,105,108,100,40]++(nthS a b++[41])
  else if k=9 then [58,114,111,111,116]
  else if k=10 then [58,101,109,112,116,121]
  else if k=11 then [58,110,111,116,40]++(eY l++[41])
  else []
def eY:List Sim→List UInt8
 | []=>[]
 | x::l=>simS x++eY l
end
def Sim.kind:Sim→Int
 | .mk k _ _ _ _ _=>k
structure Prt where
 comb:Int
 l:List Sim
structure Cpx where
 parts:List Prt
 pseudo:List UInt8
def prtS (p:Prt):List UInt8:=lZ p.comb++eY p.l
def pseS (s:List UInt8):List UInt8:=if s=[] then [] else 58::58::s
def cpxS (c:Cpx):List UInt8:=c.parts.flatMap prtS++pseS c.pseudo
def oM (l:List Cpx):List UInt8:=l.flatMap fun c=>44::cpxS c
namespace Sl
def aI (s:List UInt8):Val→Bool
 | .mk k t _=>k==1&&decide (t=⟨7,s,0⟩)
def ar:Val→Bool
 | .mk k t _=>k==1&&t.kind==8
def trim (l:List Val):List Val:=((l.dropWhile ar).reverse.dropWhile ar).reverse
def tokK (kind:Int):List Val→Option Tok
 | .mk k t _::_=>if k=1∧t.kind=kind then some t else none
 | []=>none
def sign (s:List UInt8):List Val→Option (List Val)
 | v::r=>if aI s v then some r else none
 | []=>none
def name (l:List Val):Option (List UInt8×List Val):=(tokK 1 l).map fun t=>(t.text,l.tail)
def eM (kind:Int):List Val→Option ((Tok×List Val)×List Val)
 | .mk k t c::r=>if k=kind then some ((t,c),r) else none
 | []=>none
def digits (s:List UInt8):Int:=if s.length<1∨4<s.length then -1 else if s.all Tk.digit then s.foldl (fun n c=>10*n+((c.toNat:Int) - 48)) 0 else -1
def nth1 (t:Tok):Option (Int×Int) :=
  if t.kind=1 then(if t.text=[111,100,100] then some (2,1) else if t.text=[101,118,101,110] then some (2,0) else if t.text=[110] then some (1,0) else none)
  else if t.kind=5 then
    (if t.text=[] then some (0,t.n) else if t.text=[110] then some (t.n,0)
     else if 2<t.text.length∧t.text.take 2=[110,45]∧0≤digits (t.text.drop 2) then some (t.n,-digits (t.text.drop 2)) else none)
  else none
def nth (v:List Val):Option (Int×Int) :=
 match trim v with
 | [.mk k t _]=>if k=1 then nth1 t else none
 | [.mk k t _,s,.mk k' u _]=>if k=1∧t.kind=5∧t.text=[110]∧aI [43] s=true∧k'=1∧u.kind=5∧u.text=[]∧0≤u.n then some (t.n,u.n) else none
 | _=>none
def few (n:Int):Prop := -9999≤n∧n≤9999
instance (n:Int):Decidable (few n):=by unfold few;infer_instance
def nthM (v:List Val):Option (Int×Int) :=
 match nth v with
 | some x=>if few x.1∧few x.2 then some x else none
 | none=>none
def attr (l:List Val):Option Sim :=
 match l.filter (fun v => !ar v) with
 | [.mk k t _]=>if k=1∧t.kind=1 then some (.mk 5 t.text [] 0 0 []) else none
 | [.mk k t _,e,.mk k' u _]=>if k=1∧t.kind=1∧aI [61] e=true∧k'=1∧(u.kind=1∨u.kind=6) then some (.mk 6 t.text u.text 0 0 []) else none
 | _=>none
def oY:List UInt8:=[104,111,118,101,114]
def ph:List UInt8:=[102,111,99,117,115]
def mN:List UInt8:=[97,99,116,105,118,101]
def ld:List UInt8:=[99,104,101,99,107,101,100]
def qt:List UInt8:=[114,111,111,116]
def mR:List UInt8:=[101,109,112,116,121]
def wZ:List UInt8:=[102,105,114,115,116,45,99,104,105,108,100]
def nthT:List UInt8:=[110,116,104,45,99,104,105,108,100]
def notT:List UInt8:=[110,111,116]
def eH:List UInt8:=[98,101,102,111,114,101]
def fJ:List UInt8:=[97,102,116,101,114]
def jE (s:List UInt8):Prop:=s=oY∨s=ph∨s=mN∨s=ld
instance (s:List UInt8):Decidable (jE s):=by unfold jE;infer_instance
def fu (s:List UInt8):Option Sim :=
 if jE s then some (.mk 7 s [] 0 0 []) else if s=qt then some (.mk 9 [] [] 0 0 []) else if s=mR then some (.mk 10 [] [] 0 0 [])
 else if s=wZ then some (.mk 8 [] [] 0 1 []) else none
def low1 (c:UInt8):UInt8:=if 65≤c.toNat∧c.toNat≤90 then c+32 else c
def low (s:List UInt8):List UInt8:=s.map low1
def colon (g:List Val→Option (Sim×List Val))(l:List Val):Option (Sim×List Val) :=
  match eM 5 l with
  | some ((t,c),r) =>
    if t.text=nthT then(nthM c).map fun x=>(.mk 8 [] [] x.1 x.2 [],r)
    else if t.text=notT then
      (match g (trim c) with
       | some (x,[])=>if x.kind=11 then none else some (.mk 11 [] [] 0 0 [x],r)
       | _=>none)
    else none
  | none =>
    match name l with
    | some (s,r)=>(fu s).map fun x=>(x,r)
    | none=>none
def simple:Nat→Bool→List Val→Option (Sim×List Val)
 | 0,_,_=>none
 | f+1,first,l =>
  match (if first then tokK 1 l else none) with
  | some t=>some (.mk 2 (low t.text) [] 0 0 [],l.tail)
  | none =>
  match (if first then sign [42] l else none) with
  | some r=>some (.mk 1 [] [] 0 0 [],r)
  | none =>
  match tokK 4 l with
  | some t=>some (.mk 3 t.text [] 0 0 [],l.tail)
  | none =>
  match sign [46] l with
  | some r=>(name r).map fun x=>(.mk 4 x.1 [] 0 0 [],x.2)
  | none =>
  match sign [58] l with
  | some r=>colon (simple f true) r
  | none =>
  match eM 3 l with
  | some x=>(attr x.1.2).map fun y=>(y,x.2)
  | none=>none
def over:List Val→Bool
 | []=>true
 | v::_=>ar v||aI [62] v||aI [43] v||aI [126] v
def double:List Val→Bool
 | v::w::_=>aI [58] v&&aI [58] w
 | _=>false
def part:Nat→Bool→List Val→Option (List Sim×List Val)
 | 0,_,_=>none
 | f+1,first,l =>
  if over l||double l then some ([],l)
  else match simple (Ne.size l) first l with
   | none=>none
   | some (x,r)=>(part f false r).map fun y=>(x::y.1,y.2)
def comb (l:List Val):Int×List Val :=
 let m:=l.dropWhile ar
 match sign [62] m with
 | some r=>(2,r.dropWhile ar)
 | none =>
 match sign [43] m with
 | some r=>(3,r.dropWhile ar)
 | none =>
 match sign [126] m with
 | some r=>(4,r.dropWhile ar)
 | none=>(1,m.dropWhile ar)
def cpx:Nat→Int→List Val→Option Cpx
  | 0,_,_=>none
  | n+1,c,l =>
    match part (l.length+1) true l with
    | none=>none
    | some (ps,r) =>
      if double r then
        (match name (r.drop 2) with
         | some (s,[])=>if (s=eH∨s=fJ)∧ps.length≤8 then some ⟨[⟨c,ps⟩],s⟩ else none
         | _=>none)
      else if 8<ps.length∨ps=[] then none
      else if r.isEmpty then some ⟨[⟨c,ps⟩],[]⟩
      else(cpx n (comb r).1 (comb r).2).map fun x=>⟨⟨c,ps⟩::x.parts,x.pseudo⟩
def at_ (s:List UInt8):List Val→List (List Val)
 | []=>[[]]
 | v::l=>if aI s v then []::at_ s l else match at_ s l with
  | []=>[[v]]
  | p::ps=>(v::p)::ps
def all_:List (List Val)→Option (List Cpx)
 | []=>some []
 | p::ps=>match cpx 16 0 (trim p),all_ ps with
  | some c,some cs=>some (c::cs)
  | _,_=>none
def parse (l:List Val):Option (List Cpx):=if (at_ [44] l).length≤32 then all_ (at_ [44] l) else none
def read (s:List UInt8):Option (List Cpx):=(Ne.parse 60 (Tk.all s)).bind fun v=>parse (trim v)
def tv (t:Tok):Val:=.mk 1 t []
def dv (c:UInt8):Val:=tv ⟨7,[c],0⟩
def iv (s:List UInt8):Val:=tv ⟨1,s,0⟩
def lB (v:List UInt8):Int:=if 0≤Lib.indexByte v 34 then 39 else 34
def nthV (a b:Int):List Val :=
 if a=0 then [tv ⟨5,[],b⟩]
 else if b<0 then [tv ⟨5,110::Lib.itoa b,a⟩]
 else if 0<b then [tv ⟨5,[110],a⟩,dv 43,tv ⟨5,[],b⟩]
 else [tv ⟨5,[110],a⟩]
mutual
def simV:Sim→List Val
 | .mk k n v a b l =>
  if k=1 then [dv 42]
  else if k=2 then [iv n]
  else if k=3 then [tv ⟨4,n,0⟩]
  else if k=4 then [dv 46,iv n]
  else if k=5 then [.mk 3 Ne.tok0 [iv n]]
  else if k=6 then [.mk 3 Ne.tok0 [iv n,dv 61,tv ⟨6,v,lB v⟩]]
  else if k=7 then [dv 58,iv n]
  else if k=8 then [dv 58,.mk 5 ⟨2,nthT,0⟩ (nthV a b)]
  else if k=9 then [dv 58,iv qt]
  else if k=10 then [dv 58,iv mR]
  else if k=11 then [dv 58,.mk 5 ⟨2,notT,0⟩ (dq l)]
  else []
def dq:List Sim→List Val
 | []=>[]
 | x::l=>simV x++dq l
end
def fG (n:Int):List Val:=if n=1 then [tv ⟨8,[10],0⟩] else if n=2 then [dv 62] else if n=3 then [dv 43] else if n=4 then [dv 126] else []
def prtV (p:Prt):List Val:=fG p.comb++dq p.l
def pseV (s:List UInt8):List Val:=if s=[] then [] else [dv 58,dv 58,iv s]
def cpxV (c:Cpx):List Val:=c.parts.flatMap prtV++pseV c.pseudo
def ia (l:List Cpx):List Val:=l.flatMap fun c=>dv 44::cpxV c
end Sl
end Go.Abs
namespace Go.Abs.Tk
open Go
theorem Fk:begins 0=false:=by decide
theorem uP:within 0=false:=by decide
theorem xd:digit 0=false:=by decide
theorem qr {c:UInt8}(h:begins c=true):within c=true:=by simp[within,h]
theorem nU {c:UInt8}(h:begins c=true):digit c=false:=by
 simp only[begins,digit,decide_eq_true_eq,decide_eq_false_iff_not] at *;omega
theorem wW {c d:UInt8}(h:digit c=true)(hd:digit d=false):c≠d:=fun e=>by rw[e,hd] at h;cases h
theorem zS {c d:UInt8}(h:within c=true)(hd:within d=false):c≠d:=fun e=>by rw[e,hd] at h;cases h
theorem Dd {c:UInt8}(h:blank c=true):c=32∨c=10∨c=9∨c=12∨c=13:=by simpa[blank,or_assoc] using h
theorem sF {c:UInt8}(h:within c=true):blank c=false:=by
 cases hb:blank c
 ·rfl
 ·rcases Dd hb with rfl|rfl|rfl|rfl|rfl<;>revert h<;>decide
theorem ou {c:UInt8}(h:digit c=true):within c=true:=by simp[within,h]
theorem Cr {c:UInt8}(h:digit c=true):blank c=false:=sF (ou h)
section run
variable {p:UInt8→Bool}
theorem vv:run p []=0:=rfl
theorem run_le:∀ l:List UInt8,run p l≤l.length
 | []=>Nat.le_refl _
 | c::r=>by
  rw[run];have:=run_le r
  split<;>simp<;>omega
theorem RQ {c:UInt8}{r:List UInt8}(h:p c=true):0<run p (c::r):=by rw[run,if_pos h];omega
theorem rF:∀ l:List UInt8, ∀ b∈l.take (run p l),p b=true
 | [],b,h=>by simp at h
 | c::r,b,h=>by
  rw[run] at h;split at h
  ·rename_i hc;rw[List.take_succ_cons] at h;rcases List.mem_cons.1 h with rfl|h
   ·exact hc
   ·exact rF r b h
  ·simp at h
theorem EF (h0:p 0=false):∀ l:List UInt8,p (at0 (l.drop (run p l)))=false
 | []=>h0
 | c::r=>by
  rw[run];split
  ·rw[List.drop_succ_cons];exact EF h0 r
  ·rename_i hc
   simpa[at0] using hc
theorem Jm:∀ {a y:List UInt8},(∀ b∈a,p b=true)→run p (a++y)=a.length+run p y
 | [],y,_=>by simp
 | c::a,y,h=>by
  rw[List.cons_append,run,if_pos (h c (by simp)),Jm fun b hb=>h b (by simp[hb])]
  simp;omega
theorem El:∀ {y:List UInt8},p (at0 y)=false→run p y=0
 | [],_=>rfl
 | c::r,h=>by
  rw[run,if_neg];simpa[at0] using h
theorem so {a y:List UInt8}(h:∀ b∈a,p b=true)(hy:p (at0 y)=false):run p (a++y)=a.length:=by rw[Jm h,El hy];rfl
theorem pp {y:List UInt8}(h0:p 0=false):0<run p y↔p (at0 y)=true:=by
 cases y with
 | nil=>simp[run,at0,h0]
 | cons c r =>
  rw[run,at0];cases p c<;>simp
end run
theorem BC {a y:List UInt8}(h:a≠[]):at0 (a++y)=at0 a:=by
 cases a with
 | nil=>exact absurd rfl h
 | cons c r=>rfl
def cT (x:List UInt8):Prop:=eS x=true∧∀ b∈x,within b=true
theorem tV:eS []=false:=by decide
theorem kH {x:List UInt8}(h:cT x):x≠[]:=fun e=>by have:=h.1;rw[e,tV] at this;cases this
theorem HY {x:List UInt8}(h:cT x):0<x.length:=List.length_pos_iff.2 (kH h)
theorem tH {x y:List UInt8}(h:eS x=true):eS (x++y)=true:=by
 match x,h with
 | [],h=>rw[tV] at h;cases h
 | [c],h =>
  have hc:begins c=true:=by
   simp only[eS,at0,List.tail_cons,Fk,Bool.false_or,Bool.or_eq_true,Bool.and_eq_true,beq_iff_eq] at h;rcases h with h|⟨_,h⟩
   ·exact h
   ·exact absurd h (by decide)
  simp[eS,at0,hc]
 | c::d::r,h=>exact h
theorem ji {x:List UInt8}(h:eS x=true):within (at0 x)=true:=by
 simp only[eS,Bool.or_eq_true,Bool.and_eq_true,beq_iff_eq] at h;rcases h with h|⟨h,_⟩
 ·exact qr h
 ·rw[h];decide
theorem rO {x y:List UInt8}(h:cT x)(hy:within (at0 y)=false):name (x++y)=x.length:=by
 rw[name,if_pos (tH h.1),so h.2 hy]
theorem jL {y:List UInt8}(h:eS y=false):name y=0:=by rw[name,h];rfl
theorem DE {l:List UInt8}(h:0<name l):eS l=true:=by
 rw[name] at h;split at h
 ·assumption
 ·omega
theorem iW {l:List UInt8}:0<name l↔eS l=true:=by
 refine⟨DE,fun h => ?_⟩
 rw[name,if_pos h];exact(pp uP).2 (ji h)
theorem qk (l:List UInt8):name l≤l.length:=by
 rw[name];split
 ·exact run_le l
 ·omega
theorem pT {l:List UInt8}(h:0<name l):cT (l.take (name l)):=by
 have hb:=DE h
 have e:name l=run within l:=by rw[name,if_pos hb]
 refine⟨?_,by rw[e];exact rF l⟩
 rw[e]
 match l,hb with
 | [],hb=>rw[tV] at hb;cases hb
 | [c],hb =>
  have:run within [c]=1:=by rw[run,if_pos (show within c=true from ji hb)];rfl
  rw[this];exact hb
 | c::d::r,hb =>
  have hc:within c=true:=ji hb
  by_cases hd:within d=true
  ·have:run within (c::d::r)=run within r+2:=by rw[run,if_pos hc,run,if_pos hd]
   rw[this];exact hb
  ·have hd':within d=false:=by simpa using hd
   have:run within (c::d::r)=1:=by rw[run,if_pos hc,run,if_neg hd]
   rw[this];simp only[eS,at0,List.tail_cons,Bool.or_eq_true,Bool.and_eq_true,beq_iff_eq] at hb;have hbc:begins c=true:=by
    rcases hb with hb|⟨_,hb|hb⟩
    ·exact hb
    ·rw[qr hb] at hd';cases hd'
    ·exact absurd hd' (by rw[hb];decide)
   simp[eS,at0,hbc]
theorem vg:∀ {l:List UInt8}{n:Nat},shut l=some n→n≤l.length∧2≤n
 | c::r,n,h=>by
  rw[shut] at h;split at h
  ·rename_i hc;cases h;cases r with
   | nil=>exact absurd hc.2 (by decide)
   | cons d r=>simp
  ·rw[Option.map_eq_some_iff] at h;obtain⟨m,hm,rfl⟩:=h;have:=vg hm
   simp;omega
theorem EJ (r:List UInt8):2≤comment r:=by unfold comment;split<;>omega
theorem sH {q:UInt8}:∀ {l:List UInt8} {n:Nat},inner q l=some n→n+1≤l.length
 | c::r,n,h=>by
  rw[inner] at h;split at h
  ·cases h;simp
  ·split at h
   ·cases h
   ·rw[Option.map_eq_some_iff] at h;obtain⟨m,hm,rfl⟩:=h;have:=sH hm
    simp;omega
theorem xe {q:UInt8}:∀ {l:List UInt8} {n:Nat},inner q l=some n→∀ b∈l.take n,b≠q∧ending b=false
 | c::r,n,h,b,hb=>by
  rw[inner] at h;split at h
  ·cases h;simp at hb
  ·rename_i hq;split at h
   ·cases h
   ·rename_i he;rw[Option.map_eq_some_iff] at h;obtain⟨m,hm,rfl⟩:=h;rw[List.take_succ_cons] at hb;rcases List.mem_cons.1 hb with rfl|hb
    ·exact⟨hq,by simpa using he⟩
    ·exact xe hm b hb
theorem zr {q:UInt8}{y:List UInt8}:∀ {x:List UInt8},(∀ b∈x,b≠q∧ending b=false)→inner q (x++q::y)=some x.length
 | [],_=>by simp[inner]
 | c::x,h=>by
  have hc:=h c (by simp)
  rw[List.cons_append,inner,if_neg hc.1,if_neg (by simp[hc.2]),zr fun b hb=>h b (by simp[hb])]
  rfl
theorem vu:∀ {a y:List UInt8}{n:Int},(∀ b∈a,digit b=true)→num n (a++y)=num (num n a) y
 | [],_,_,_=>rfl
 | c::a,y,n,h=>by
  rw[List.cons_append,num,if_pos (h c (by simp)),num,if_pos (h c (by simp)),vu fun b hb=>h b (by simp[hb])]
theorem Du {y:List UInt8}{n:Int}(h:digit (at0 y)=false):num n y=n:=by
 cases y with
 | nil=>rfl
 | cons c r=>rw[num,if_neg];simpa[at0] using h
theorem pS:∀ {l:List UInt8}{n:Int},0≤n→n≤999999999→0≤num n l∧num n l≤999999999
 | [],n,h1,h2=>⟨h1,h2⟩
 | c::r,n,h1,h2=>by
  rw[num];split
  ·rename_i hc;have:48≤c.toNat:=by simp only[digit,decide_eq_true_eq] at hc;omega
   exact pS (by omega) (by omega)
  ·exact⟨h1,h2⟩
theorem pq {k:Nat}(h:k<10):digit (UInt8.ofNat (48+k))=true∧((UInt8.ofNat (48+k)).toNat:Int) - 48=k:=by
 have:(UInt8.ofNat (48+k)).toNat=48+k:=by rw[UInt8.toNat_ofNat'];omega
 refine⟨?_,by rw[this];omega⟩
 simp only[digit,this,decide_eq_true_eq];omega
theorem ot:∀ (k u:Nat),u≤k→∀ b∈Lib.decDigits u,digit b=true:=by
 intro k
 induction k with
 | zero =>
  intro u hu b hb;rw[Lib.decDigits,dif_pos (by omega)] at hb
  simp only[List.mem_singleton] at hb;rw[hb];exact(pq (by omega)).1
 | succ k ih =>
  intro u hu b hb;rw[Lib.decDigits] at hb;split at hb
  ·simp only[List.mem_singleton] at hb;rw[hb];exact(pq (by omega)).1
  ·rcases List.mem_append.1 hb with hb|hb
   ·exact ih (u / 10) (by omega) b hb
   ·simp only[List.mem_singleton] at hb;rw[hb];exact(pq (Nat.mod_lt _ (by omega))).1
theorem SZ:∀ (k u:Nat),u≤k→u≤999999999→num 0 (Lib.decDigits u)=u:=by
 intro k
 induction k with
 | zero =>
  intro u hu _;obtain rfl:u=0:=by omega
  rw[Lib.decDigits,dif_pos (by omega)]
  decide
 | succ k ih =>
  intro u hu hm;rw[Lib.decDigits];split
  ·rename_i h;have h2:=pq h
   rw[num,if_pos h2.1,num,h2.2];omega
  ·have h2:=pq (Nat.mod_lt u (by omega:0<10))
   rw[vu (ot (u / 10) (u / 10) (Nat.le_refl _)),ih (u / 10) (by omega) (by omega),num,if_pos h2.1,num,h2.2];omega
theorem Gk:∀ (u:Nat),Lib.decDigits u≠[]:=by
 intro u h;rw[Lib.decDigits] at h;split at h<;>simp at h
end Go.Abs.Tk
