/-
  THE ABSTRACT INTERPRETER: each operation, as the model carries it out.
  (And 11 texts more.)
-/
import Derived.Scope
import Derived.Laws.Sem
import Derived.KernelRfl
import Derived.Shelf.Strings.Builder1
import Derived.Shelf.Strings.Builder2
import Derived.Shelf.Strings.OnBuilder
import Derived.Shelf.Strings.Trim
import Derived.Shelf.Small.Utf8
import Derived.Shelf.Small.Strs
import Derived.Shelf.Strings.BuilderF
import Derived.Shelf.Strings.BuilderK
import Derived.Shelf.Strings.Builder2Cap
import Derived.Shelf.Strconv.Atoi
import Derived.Shelf.Strconv.Itoa0
import Derived.Shelf.Strconv.Itoa1
import Derived.Shelf.LaysM
import Derived.Shelf.Strconv.Itoa2
import Derived.Shelf.Strconv.Itoa3
import Derived.Shelf.Strings.Search1
import Derived.Shelf.Strings.Search2
import Derived.Shelf.Strings.Search3
import Derived.Shelf.Strings.Shaped
import Derived.Shelf.Strings.Prefix
import Derived.Shelf.Strings.Runes
import Derived.Shelf.Strings.IndexAny
import Derived.Shelf.Strings.AsciiSet
import Derived.Shelf.Strings.IndexAnyAll
import Derived.Shelf.Unicode.DecodeSlow
import Derived.Shelf.Strings.BuilderCap
import Derived.Shelf.Spec.SlicesGrow
import Derived.Test.YtcfklbkkdipjhaaGreatDoorProg
import Derived.Lib.Bytealg
import Derived.Test.YtcfklbkkdipjhaaGreatDoorSm1
set_option linter.unusedSimpArgs false
set_option linter.unusedVariables false
namespace Go.Abs
open Go
def Upon (P:Program) (G:Gh) (w:World) (S:St) (a:Act) (dst:Option Nat) (r:Result Next):Delta→Prop
 | .val v dg bs =>
  (∃ x w' G',(r=.ok (.value x) w'∨(r=.ok .skip w'∧x=undef))∧Step G w S a dst v dg bs x G' w') ∨
  (∃ f args,r=.ok (.enter f args) w∧Calls P f args w fun e w'=>∃ x G',e=.returned x∧Step G w S a dst v dg bs x G' w')
 | .pan v bs =>
  (∃ x,r=.halt (.panic x) w∧RN G v x∧bs=[]) ∨
  (∃ f args,r=.ok (.enter f args) w∧Calls P f args w fun e w'=>∃ x G',e=.panicked [{ v:=x,recovered:=false }]∧RN G' v x∧Ext G w G' w'∧WI G' w'∧FR G' w' { S with bx:=aj S.bx bs } a)
section
variable {K:Cfg} {call:CallF} {G:Gh} {w:World} {S:St} {a:Act} {apps:List Nat} {o:Oper} {d:Delta}
theorem vN:∀ {L:List Nat} {m:List (List CV)} {f:Nat→Option (List CV)},L.Nodup→m.length=L.length→∀ s,aj f (L.zip m) s=match idx s L with|some i=>m[i]? | none=>f s
 | [],m,f,_,h,s=>by
  have:m=[]:=List.eq_nil_of_length_eq_zero (by simpa using h)
  subst this;rfl
 | b::L,[],f,_,h,s=>by simp at h
 | b::L,c::m,f,hn,h,s=>by
  obtain⟨h1,h2⟩:=List.nodup_cons.1 hn;have ih:=vN (f:=upd f b (some c)) h2 (by simpa using h) s
  show aj (upd f b (some c)) (L.zip m) s=_
  rw[ih,show idx s (b::L)=if b=s then some 0 else(idx s L).map (· + 1) from rfl]
  by_cases hs:b=s
  ·subst hs;have:idx b L=none:=by
    cases hi:idx b L with
    | none=>rfl
    | some i=>exact absurd (List.mem_of_getElem? (ia hi)) h1
   simp[this,upd]
  ·simp only[if_neg hs];cases idx s L with
   | none=>simp[upd,Ne.symm hs]
   | some i=>simp
theorem pp {G':Gh} {w':World} {L:List Nat} {cs':List (List CV)} (hn:L.Nodup) (hl:cs'.length=L.length) (hf:FR G w S a) (hw:WI G w) (g:Gr (mt L) G w G' w') (hbb:G'.bb=G.bb)
  (hb:∀ (i s:Nat) (l:List CV),L[i]? = some s→cs'[i]? = some l→BoxR G' w' s (l.map (CV.ren (back L)))) :
  (∀ s l,aj S.bx (ck L cs') s=some l→BoxR G' w' s l)∧(∀ s,aj S.bx (ck L cs') s=none→s<LK→G'.bb s=none):=by
 have hz:=fun s=>vN (f:=S.bx) (m:=cs'.map fun c=>c.map (CV.ren (back L))) hn (by simpa using hl) s
 refine⟨fun s l h => ?_,fun s h hlk => ?_⟩
 ·unfold ck at h;rw[hz s] at h;cases hi:idx s L with
  | none =>
   rw[hi] at h;have hs:s ∉ L:=fun hm=>by obtain⟨i,h2⟩:=vy hm;rw[hi] at h2;cases h2
   refine(hf.box s l h).gr hw g ?_ (fun k => ?_)
   ·rintro ⟨t,ht,h1|⟨k,h1⟩⟩
    ·cases h1;exact hs ht
    ·cases h1
   ·rintro ⟨t,ht,h1|⟨k',h1⟩⟩
    ·cases h1
    ·cases h1;exact hs ht
  | some i =>
   rw[hi] at h;simp only[List.getElem?_map,Option.map_eq_some_iff] at h
   obtain⟨l',hl',rfl⟩:=h;exact hb i s l' (ia hi) hl'
 ·unfold ck at h;rw[hz s] at h;cases hi:idx s L with
  | none=>rw[hi] at h;rw[hbb];exact hf.nob s h hlk
  | some i =>
   rw[hi] at h;have hlt:i<L.length:=(List.getElem?_eq_some_iff.1 (ia hi)).1
   simp[hl,hlt] at h
theorem lH {g:Nat→Option Nat}:∀ (u:CV),u.flat=true→u.ren g=u
 | .loc _ _,h=>by cases h
 | .fn f caps,h=>by
  have:caps=[]:=by simpa[CV.flat] using h
  subst this;rfl
 | .top,_=>rfl
 | .pv _,_=>rfl
 | .own _ _,_=>rfl
 | .full _,_=>rfl
 | .bld,_=>rfl
 | .nils,_=>rfl
 | .nilp,_=>rfl
 | .cptr _,_=>rfl
 | .cmap _,_=>rfl
theorem kS {g:Nat→Option Nat} {l:List CV} (h:l.all CV.flat=true):l.map (CV.ren g)=l:=by
 induction l with
 | nil=>rfl
 | cons u l ih =>
  simp only[List.all_cons,Bool.and_eq_true] at h;simp[lH u h.1,ih h.2]
theorem mB {g:Nat→Option Nat} {v:AV} (h:v.flat=true):v.ren g=v:=by
 cases v with
 | c u=>simp only[AV.ren,lH u h]
 | agg l=>simp only[AV.ren,kS (l:=l) h]
 | tup l =>
  simp only[AV.ren]
  congr 1
  have h':l.all TV.flat=true:=h
  clear h
  induction l with
  | nil=>rfl
  | cons u l ih =>
   simp only[List.all_cons,Bool.and_eq_true] at h';rw[List.map_cons,ih h'.2]
   congr 1
   cases u with
   | c u=>simp only[TV.ren,lH u h'.1]
   | agg m=>simp only[TV.ren,kS (l:=m) h'.1]
theorem tR {v:AV} (h:v.flat=true):v.deg.flat=true:=by
 cases v with
 | c u=>cases u<;>first|exact h|rfl
 | agg l=>exact h
 | tup l=>exact h
theorem Bk (g:Nat→Option Nat) (v:AV):v.deg.ren g=(v.ren g).deg:=by
 cases v with
 | c u =>
  cases u with
  | loc s off=>simp only[AV.deg,CV.deg,AV.ren,CV.ren];split<;>rfl
  | fn f caps=>simp only[AV.deg,CV.deg,AV.ren,CV.ren];split<;>rfl
  | _=>rfl
 | agg l=>rfl
 | tup l=>rfl
theorem fC {ℓ:Own}:¬ mt [] ℓ:=by rintro ⟨s,hs,_⟩;simp at hs
theorem wu {own:Bool} {g:FuncId} {args:List AV} {cargs:List Value} (h:bO call own S.bx g args=some d) (hf:FR G w S a) (hw:WI G w)
  (hcall:∀ args bxs r,call g args bxs=some r→Contract K.P g args bxs r) (hargs:All2 (fun v x=>∃ ℓ,RA G w ℓ v x) args cargs) (dst:Option Nat) :
  match d with
  | .val v dg bs=>Calls K.P g cargs.toArray w fun e w'=>∃ x G',e=.returned x∧Step G w S a dst v dg bs x G' w'
  | .pan v bs=>Calls K.P g cargs.toArray w fun e w'=>∃ x G',e=.panicked [{ v:=x,recovered:=false }]∧RN G' v x∧Ext G w G' w'∧WI G' w'∧FR G' w' { S with bx:=aj S.bx bs } a:=by
 let o:Own:=match dst with|some d=>.slot d|none=>.ret
 have hob:∀ s,o≠.box s:=fun s=>by cases dst<;>simp[o]
 unfold bO at h;split at h
 ·rename_i hflat;have hren:(args.map fun a=>(a.deg).ren (lend []))=args.map AV.deg:=by
   apply List.map_congr_left
   intro v hv;exact mB (tR (List.all_eq_true.1 hflat v hv))
  split at h
  ·rename_i v hr;split at h
   case isFalse=>cases h
   rename_i hvf;cases h;have:=jR (o:=o) (L:=[]) (cs:=[]) (by simp) hf hw hob rfl hargs (r:=.ret v []) (by rw[hren];exact hcall _ _ _ hr)
   refine this.mono ?_
   rintro e w' ⟨G',gr,hw',hbb,x,h1,h2,h3,_⟩
   rw[mB hvf] at h2;refine⟨x,G',h1,Step.of_gr hf hw gr hw' (fun d hd => ?_) (fun t ht=>(fC ht).elim) (fun s l hl=>.inl ⟨hl,fC,fun _=>fC⟩) (fun s hs hlk=>by rw[hbb];exact hf.nob s hs hlk)⟩
   subst hd;by_cases ho:own=true
   ·rw[if_pos ho];exact h2
   ·rw[if_neg ho];exact h2.deg
  ·rename_i v hr;split at h
   case isFalse=>cases h
   rename_i hvf;cases h;have:=jR (o:=o) (L:=[]) (cs:=[]) (by simp) hf hw hob rfl hargs (r:=.pan v []) (by rw[hren];exact hcall _ _ _ hr)
   refine this.mono ?_
   rintro e w' ⟨G',gr,hw',hbb,x,h1,h2,h3,_⟩
   rw[lH v hvf] at h2;refine⟨x,G',h1,h2,gr.ext,hw',hf.size,fun t=>(hf.slot t).gr gr fC,fun s l hl=>(hf.box s l hl).gr hw gr fC (fun _=>fC),fun s hs hlk=>by rw[hbb];exact hf.nob s hs hlk⟩
  ·cases h
 ·have hn:=jt (args.flatMap AV.ptrs)
  generalize dedup (args.flatMap AV.ptrs)=L at h hn;simp only at h;split at h
  case h_1=>cases h
  rename_i cs hcs;split at h
  ·rename_i v cs' hr;split at h
   case isFalse=>cases h
   rename_i hlen;cases h;have:=jR (o:=o) hn hf hw hob hcs hargs (hcall _ _ _ hr)
   refine this.mono ?_
   rintro e w' ⟨G',gr,hw',hbb,x,h1,h2,h3,h4⟩
   obtain⟨hb1,hb2⟩:=pp hn hlen hf hw gr hbb h4;refine⟨x,G',h1,Step.of_gr hf hw gr hw' (fun d hd => ?_) (fun t ht => ?_) (fun s l hl=>.inr (hb1 s l hl)) hb2⟩
   ·subst hd;by_cases ho:own=true
    ·rw[if_pos ho];exact h2
    ·rw[if_neg ho,Bk];exact h2.deg
   ·obtain⟨s,_,h5|⟨k,h5⟩⟩:=ht<;>cases h5
  ·rename_i v cs' hr;split at h
   case isFalse=>cases h
   rename_i hlen;cases h;have:=jR (o:=o) hn hf hw hob hcs hargs (hcall _ _ _ hr)
   refine this.mono ?_
   rintro e w' ⟨G',gr,hw',hbb,x,h1,h2,h3,h4⟩
   obtain⟨hb1,hb2⟩:=pp hn hlen hf hw gr hbb h4;exact⟨x,G',h1,h2,gr.ext,hw',hf.size,fun t=>(hf.slot t).gr gr (by rintro ⟨s,_,h5|⟨k,h5⟩⟩<;>cases h5),hb1,hb2⟩
  ·cases h
theorem rparts (hf:FR G w S a):∀ (ps:List (Nat×Operand)),All2 (RPart G w) (ps.map fun p=>(p.1,opd S.sl p.2)) (ps.map fun p=>(p.1,a.eval p.2))
 | []=>.nil
 | p::ps=>.cons ⟨rfl,_,hf.opd p.2⟩ (rparts hf ps)
theorem rargs (hf:FR G w S a):∀ (xs:List Operand),All2 (fun v x=>∃ ℓ,RA G w ℓ v x) (xs.map (opd S.sl)) (xs.map a.eval)
 | []=>.nil
 | x::xs=>.cons ⟨_,hf.opd x⟩ (rargs hf xs)
theorem ropt (hf:FR G w S a) (x:Option Operand):RO G w (x.map (opd S.sl)) (x.map a.eval):=by
 cases x with
 | none=>exact trivial
 | some x=>exact⟨_,hf.opd x⟩
theorem iI {g : FuncId} {fn : Func} {args : Array Value} (h : K.P.funcs[g]? = some fn) (hn : fn.name ≠ "runtime.NumGoroutine") (hb : fn.body.isSome = true) : (callFunc g args).run K.P w = .ok (.enter g args) w := by
 have hb':fn.body≠none:=by cases hx:fn.body<;>simp_all
 simp[callFunc,h,hn,hb']
theorem dG {r:Option AV} (h:okAV r=some d):∃ v,r=some v∧d=.val v none []:=by
 cases r with
 | none=>cases h
 | some v=>cases h;exact⟨v,rfl,rfl⟩
theorem jI {r:Option PV} (h:okPV r=some d):∃ p,r=some p∧d=.val (.c (.pv p)) none []:=by
 cases r with
 | none=>cases h
 | some v=>cases h;exact⟨v,rfl,rfl⟩
theorem bI {r:Result Next} {v:AV} {x:Value} (hf:FR G w S a) (hw:WI G w) (hr:r=.ok (.value x) w) (hv:∀ d,o.dst=some d→RA G w (.slot d) v x):Upon K.P G w S a o.dst r (.val v none []) :=
 .inl ⟨x,w,G,.inl hr,Step.pure hf hw hv⟩
theorem vx:∀ {l:List AV} {m:List (Nat×Nat)} {xs:List Value},locs l=some m→All2 (fun v x=>∃ ℓ,RA G w ℓ v x) l xs→All2 (fun (c:Nat×Nat) (v:Value)=>∃ b,G.bb c.1=some b∧v=.pointer (some ⟨b,c.2,none⟩)) m xs
 | [],m,_,h,.nil=>by simp[locs] at h;subst h;exact .nil
 | v::l,m,x::xs,h,.cons hx hxs=>by
  unfold locs at h;split at h
  ·rename_i heq;cases heq
  ·rename_i s o' l' heq;cases heq;simp only[Option.map_eq_some_iff] at h;obtain⟨m',hm,rfl⟩:=h;obtain⟨ℓ,hx⟩:=hx;exact .cons hx (vx hm hxs)
  ·cases h
theorem uB {c:Call} {ty:TypeId} (h:bv K call S.bx (opd S.sl) c=some d) (hf:FR G w S a) (hw:WI G w)
  (hgood : ∀ g, K.good g = true → ∃ fn, K.P.funcs[g]? = some fn ∧ fn.name ≠ "runtime.NumGoroutine" ∧ fn.body.isSome = true)
  (hcall:∀ g args bxs r,K.good g=true→call g args bxs=some r→Contract K.P g args bxs r) :
  Upon K.P G w S a o.dst ((do let d ←resolve a.eval c ty;invoke d.target d.args:Sem Next).run K.P w) d:=by
 unfold bv at h;split at h
 ·rename_i b hb;have hres:∀ k:Builtin,c.callee=.builtin k→(resolve a.eval c ty).run K.P w=.ok { target:=.builtin k c.argTypes ty (c.args.map fun|.const _=>true|_=>false),args:=c.args.map a.eval } w:=fun k hk=>by
   unfold resolve;rw[hk];rfl
  split at h
  ·split at h
   case h_2=>cases h
   rename_i x t hx ht;obtain⟨p,hp,rfl⟩:=jI h;obtain⟨z,h1,h2⟩:=Da (ty:=ty) hp (hf.opd x);refine bI hf hw (x:=z) ?_ (fun d _=>RA.of_RN (v:=.pv p) h2)
   have ea:c.args.map a.eval=#[a.eval x]:=by apply Array.ext';simp[hx]
   have et:c.argTypes=#[t]:=by apply Array.ext';simp[ht]
   simp[hres _ hb,invoke,builtin,ea,et,h1]
  ·obtain⟨p,hp,rfl⟩:=jI h;obtain⟨z,h1,h2⟩:=Db (P:=K.P) (ts:=c.argTypes) (t:=ty) hp (rargs hf c.args.toList);refine bI hf hw (x:=z) ?_ (fun d _=>RA.of_RN (v:=.pv p) h2)
   have ea:c.args.map a.eval=(c.args.toList.map a.eval).toArray:=by apply Array.ext';simp
   simp only[Sem.run_bind,hres _ hb,Result.andThen_ok,invoke,builtin,ea,h1,Sem.run_pure]
  ·obtain⟨p,hp,rfl⟩:=jI h;obtain⟨z,h1,h2⟩:=Dc (P:=K.P) (ts:=c.argTypes) (t:=ty) hp (rargs hf c.args.toList);refine bI hf hw (x:=z) ?_ (fun d _=>RA.of_RN (v:=.pv p) h2)
   have ea:c.args.map a.eval=(c.args.toList.map a.eval).toArray:=by apply Array.ext';simp
   simp only[Sem.run_bind,hres _ hb,Result.andThen_ok,invoke,builtin,ea,h1,Sem.run_pure]
  ·split at h
   case h_2=>cases h
   rename_i s x hargs;split at h
   case h_2=>cases h
   rename_i v hv;have ea:c.args.map a.eval=#[a.eval s,a.eval x]:=by apply Array.ext';simp[hargs]
   have fin:∀ dg,(∃ u,s=.tmp u∧dg=if bC (opd S.sl s) then some u else none)∨(∃ k,s=.const k∧dg=none)→d=.val v dg []→Upon K.P G w S a o.dst ((do let d ←resolve a.eval c ty;invoke d.target d.args:Sem Next).run K.P w) d:=by
    intro dg hdg hd;subst hd;obtain⟨z,w',G',h1,h2⟩:=wJ (ty:=ty) (dst:=o.dst) hv hf hw (hf.opd x) hdg;refine .inl ⟨z,w',G',.inl ?_,h2⟩
    rw[Array.toArray_toList] at h1;simp only[Sem.run_bind,hres _ hb,Result.andThen_ok,invoke,builtin,ea,h1,Sem.run_pure]
   split at h
   ·rename_i u hs;cases h;exact fin _ (.inl ⟨u,rfl,by rw[if_pos hs]⟩) rfl
   ·rename_i u hs;cases h;exact fin _ (.inl ⟨u,rfl,by rw[if_neg (by simp[hs])]⟩) rfl
   ·rename_i k;cases h;exact fin _ (.inr ⟨k,rfl,rfl⟩) rfl
   ·cases h
  ·cases h
 ·rename_i f hb;split at h
  case h_2=>cases h
  rename_i g caps hfv;split at h
  case isFalse=>cases h
  rename_i hg;have hF:=hf.opd f
  rw[hfv] at hF;obtain⟨vs,hvs,hcaps⟩:∃ vs:List Value,a.eval f=.func (.func g) #[] vs.toArray∧All2 (fun (c:Nat×Nat) (v:Value)=>∃ b,G.bb c.1=some b∧v=.pointer (some ⟨b,c.2,none⟩)) caps vs:=hF
  obtain⟨fn,hfn,hname,hbody⟩:=hgood g hg;have hrun:((do let d ←resolve a.eval c ty;invoke d.target d.args:Sem Next)).run K.P w=.ok (.enter g (c.args.toList.map a.eval++vs).toArray) w:=by
   have e:(c.args.toList.map a.eval++vs).toArray=c.args.map a.eval++vs.toArray:=by apply Array.ext';simp
   have hr:(resolve a.eval c ty)=pure { target:=.fn (.func g) vs.toArray,args:=c.args.map a.eval }:=by
    unfold resolve;rw[hb];simp[hvs,Deferred.ofValue]
   rw[hr,e];simp only[Sem.run_bind,Sem.run_pure,Result.andThen_ok,invoke];exact iI hfn hname hbody
  have hall:All2 (fun v x=>∃ ℓ,RA G w ℓ v x) (c.args.toList.map (opd S.sl)++caps.map fun x=>AV.c (.loc x.1 x.2)) (c.args.toList.map a.eval++vs) :=
   (rargs hf _).append (All2.cV (hcaps.imp fun c v _ h=>⟨.ret,h⟩))
  have:=wu (K:=K) h hf hw (fun args bxs r=>hcall g args bxs r hg) hall o.dst
  rw[hrun];cases d with
  | val v dg bs=>exact .inr ⟨_,_,rfl,this⟩
  | pan v bs=>exact .inr ⟨_,_,rfl,this⟩
 ·cases h
theorem Ck (h:bU K call apps S.bx (opd S.sl) o=some d) (hf:FR G w S a) (hw:WI G w)
  (hgood : ∀ g, K.good g = true → ∃ fn, K.P.funcs[g]? = some fn ∧ fn.name ≠ "runtime.NumGoroutine" ∧ fn.body.isSome = true)
  (hcall:∀ g args bxs r,K.good g=true→call g args bxs=some r→Contract K.P g args bxs r)
  (hst:(match o.op with|.store .. => true|_=>false)=true→o.dst=none) :
  Upon K.P G w S a o.dst ((execOp a.eval o).run K.P w) d:=by
 unfold bU at h;split at h
 ·rename_i x hop;obtain⟨v,dg,G',rfl,hs⟩:=mN h hf hw;exact .inl ⟨_,w,G',.inl (by simp[execOp,hop]),hs⟩
 ·rename_i x hop;obtain⟨v,dg,G',rfl,hs⟩:=mN h hf hw;exact .inl ⟨_,w,G',.inl (by simp[execOp,hop]),hs⟩
 ·rename_i c x y hop;split at h
  case h_2=>cases h
  rename_i t ht;cases h;have hc:=hf.opd c
  rw[ht] at hc;have hcv:=hc.boolv
  cases t
  ·exact bI hf hw (x:=a.eval y) (by simp[execOp,hop,hcv,asBool]) fun d _=>(hf.opd y).deg
  ·exact bI hf hw (x:=a.eval x) (by simp[execOp,hop,hcv,asBool]) fun d _=>(hf.opd x).deg
 ·rename_i t hop;split at h
  case h_2=>cases h
  rename_i l hl;obtain⟨i,z,_,_,hz,_,hcells⟩:=fK (G:=G) (w:=w) hl;obtain⟨v,bs,G',rfl,hs⟩:=qz (ty:=t) h hf hw (zt hcells) (xA (ul hl));refine .inl ⟨_,_,G',.inl ?_,hs⟩
  simp[execOp,hop,Instr.alloc,hz,newVar,newRow]
 ·rename_i t x hop;split at h
  case h_2=>cases h
  rename_i l hl;obtain⟨xs,hxc,hxs⟩:=iU (ℓ:=.ret) hl (gc _) ((hf.opd x).deg);obtain⟨v,bs,G',rfl,hs⟩:=qz (ty:=t) h hf hw hxs (fun e=>absurd (List.mem_of_getElem? e) (kh ‹_›))
  refine .inl ⟨_,_,G',.inl ?_,hs⟩
  simp[execOp,hop,Instr.box,hxc,newVar,newRow]
 ·rename_i t parts hop;obtain⟨v,hv,rfl⟩:=dG h;obtain⟨z,h1,h2,h3⟩:=zY (ℓ:=.ret) (parts':=parts.map fun p=>(p.1,a.eval p.2)) hv (by simpa using rparts hf parts.toList)
  exact bI hf hw (x:=z) (by simp[execOp,hop,h1]) fun d _=>h3.place h2
 ·rename_i t len parts hop;obtain⟨v,hv,rfl⟩:=dG h;obtain⟨z,w',G',h1,h2⟩:=pF (dst:=o.dst) (parts':=parts.map fun p=>(p.1,a.eval p.2)) hv hf hw (by simpa using rparts hf parts.toList)
  exact .inl ⟨z,w',G',.inl (by simp[execOp,hop,h1]),h2⟩
 ·rename_i t x hop;obtain⟨v,bs,z,G',rfl,h1,h2,_⟩:=wa h hf hw (hf.opd x);exact .inl ⟨z,w,G',.inl (by simp[execOp,hop,h1]),h2⟩
 ·rename_i t x y hop;have hd:=hst (by rw[hop])
  obtain⟨v,dg,bs,w',G',rfl,h1,h2⟩:=Ar (dst:=o.dst) h hf hw (hf.opd x) hd;exact .inl ⟨undef,w',G',.inr ⟨by simp[execOp,hop,h1],rfl⟩,h2⟩
 ·rename_i x hop;have hx:=hf.opd x
  split at h
  ·rename_i s off hv;cases h;rw[hv] at hx;obtain⟨b,hb,he⟩:∃ b,G.bb s=some b∧a.eval x=.pointer (some ⟨b,off,none⟩):=hx
   exact bI hf hw (x:=a.eval x) (by simp[execOp,hop,he]) fun d _=>⟨b,hb,he⟩
  ·rename_i l hv;cases h;rw[hv] at hx;obtain⟨b,o',he,hl⟩:∃ b o,a.eval x=.pointer (some ⟨b,o,none⟩)∧∀ (j:Nat) (p:PV),l[j]? = some p→∃ y,G.I b (o+j)=some y∧RP G.I p y:=hx
   exact bI hf hw (x:=a.eval x) (by simp[execOp,hop,he]) fun d _=>⟨b,o',he,hl⟩
  ·rename_i f c hv;cases h;rw[hv] at hx;obtain⟨vs,he,hl⟩:∃ vs:List Value,a.eval x=.func (.func f) #[] vs.toArray∧All2 (fun (c:Nat×Nat) (v:Value)=>∃ b,G.bb c.1=some b∧v=.pointer (some ⟨b,c.2,none⟩)) c vs:=hx
   exact bI hf hw (x:=a.eval x) (by simp[execOp,hop,he]) fun d _=>⟨vs,he,hl⟩
  ·cases h
 ·rename_i op t x y yt hop;obtain⟨p,hp,rfl⟩:=jI h;obtain⟨z,h1,h2⟩:=Dl (P:=K.P) hp (hf.opd x) (hf.opd y) x y;refine bI hf hw (x:=z) ?_ fun d _=>RA.of_RN (v:=.pv p) h2
  have e:execOp a.eval o=(do pure (Next.value (←(do eqGuard op t x y (a.eval x) (a.eval y);Go.binOp op t (a.eval x) (a.eval y))))):=by simp only[execOp,hop]
  rw[e,Sem.run_bind,h1];rfl
 ·rename_i op t x hop;obtain⟨p,hp,rfl⟩:=jI h;obtain⟨z,h1,h2⟩:=Dp (P:=K.P) hp (hf.opd x);exact bI hf hw (x:=z) (by simp[execOp,hop,h1]) fun d _=>RA.of_RN (v:=.pv p) h2
 ·rename_i s t x hop;obtain⟨v,hv,rfl⟩:=dG h;obtain⟨z,w',G',h1,h2⟩:=Ci (dst:=o.dst) hv hf hw (hf.opd x);exact .inl ⟨z,w',G',.inl (by simp[execOp,hop,h1]),h2⟩
 ·rename_i t x hop;obtain⟨v,hv,rfl⟩:=dG h;obtain⟨z,h1,h2,h3⟩:=uO (P:=K.P) (ℓ':=.ret) hv (hf.opd x);exact bI hf hw (x:=z) (by simp[execOp,hop,h1]) fun d _=>h3.place h2
 ·rename_i f first caps hop
  split at h
  case isFalse=>cases h
  rename_i hfirst;split at h
  case h_2=>cases h
  rename_i l hl;cases h;have hlo:=vx hl (rargs hf caps.toList)
  have he:first=#[]:=by simpa using hfirst
  subst he;refine bI hf hw (x:=.func (.func f) #[] (caps.toList.map a.eval).toArray) ?_ fun d _=>⟨_,rfl,hlo⟩
  have e:(caps.toList.map a.eval).toArray=caps.map a.eval:=by apply Array.ext';simp
  rw[e];simp[execOp,hop,Instr.makeFunc]
 ·rename_i t x lo hi mx hop;obtain⟨v,hv,rfl⟩:=dG h;obtain⟨z,h1,p,rfl,h2⟩:=oB (P:=K.P) hv (hf.opd x) (ropt hf lo) (ropt hf hi) (ropt hf mx);exact bI hf hw (x:=z) (by simp[execOp,hop,h1]) fun d _=>RA.of_RN (v:=.pv p) h2
 ·rename_i t x f hop;obtain⟨v,hv,rfl⟩:=dG h;obtain⟨z,h1,u,rfl,h2,h3,h4⟩:=lg (P:=K.P) hv (hf.opd x);exact bI hf hw (x:=z) (by simp[execOp,hop,h1]) fun d _=>RA.of_RN h4
 ·rename_i t x f hop;obtain⟨v,hv,rfl⟩:=dG h;obtain⟨z,h1,h2,h3⟩:=zN (P:=K.P) (ℓ':=.ret) hv (hf.opd x);exact bI hf hw (x:=z) (by simp[execOp,hop,h1]) fun d _=>h3.place h2
 ·rename_i t x i hop;obtain⟨v,hv,rfl⟩:=dG h;obtain⟨z,h1,u,rfl,h2⟩:=qH (P:=K.P) hv (hf.opd x) (hf.opd i);exact bI hf hw (x:=z) (by simp[execOp,hop,h1]) fun d _=>RA.of_RN h2
 ·rename_i t x i hop;obtain⟨v,hv,rfl⟩:=dG h;obtain⟨z,h1,p,rfl,h2⟩:=zU (P:=K.P) hv (hf.opd x) (hf.opd i);exact bI hf hw (x:=z) (by simp[execOp,hop,h1]) fun d _=>RA.of_RN (v:=.pv p) h2
 ·rename_i x xt t ok hop;obtain⟨v,hv,rfl⟩:=dG h;obtain⟨z,h1,h2,h3⟩:=xp (P:=K.P) (xT:=xt) (ℓ':=.ret) hv (hf.opd x);exact bI hf hw (x:=z) (by simp[execOp,hop,h1]) fun d _=>h3.place h2
 ·rename_i x i hop;obtain⟨v,hv,rfl⟩:=dG h;obtain⟨z,h1,h2,h3⟩:=vl (P:=K.P) (w:=w) (ℓ':=.ret) hv (hf.opd x);exact bI hf hw (x:=z) (by simp[execOp,hop,h1]) fun d _=>h2.place h3
 ·rename_i t x hop;obtain⟨v,hv,rfl⟩:=dG h;obtain⟨z,w',G',h1,h2⟩:=yM (dst:=o.dst) hv hf hw (hf.opd x);exact .inl ⟨z,w',G',.inl (by simp[execOp,hop,h1]),h2⟩
 ·rename_i t x i comma hop;obtain⟨v,hv,rfl⟩:=dG h;obtain⟨z,h1,h2,h3⟩:=xG (P:=K.P) (ℓ':=.ret) hv (hf.opd x) (hf.opd i);exact bI hf hw (x:=z) (by simp[execOp,hop,h1]) fun d _=>h3.place h2
 ·rename_i x str hop;obtain⟨v,dg,z,w',rfl,h1,h2⟩:=Bi (P:=K.P) (ty:=o.type) h hf hw;exact .inl ⟨z,w',G,.inl (by simp[execOp,hop,h1]),h2⟩
 ·rename_i c hop;have:=uB (ty:=o.type) (o:=o) h hf hw hgood hcall
  have e:execOp a.eval o=(do let d ←resolve a.eval c o.type;invoke d.target d.args):=by simp[execOp,hop]
  rw[e];exact this
 ·rename_i x hop;have hx:=hf.opd x
  split at h
  ·rename_i t p hv;cases h;rw[hv] at hx;have hx':RP G.I (.ifc t p) (a.eval x):=hx
   refine .inl ⟨a.eval x,?_,hx',rfl⟩
   have he:∃ u,a.eval x=.iface t u:=by
    generalize a.eval x=y at hx';cases hx';exact⟨_,rfl⟩
   obtain⟨u,he⟩:=he;simp[execOp,hop,he,Instr.panic]
  ·rename_i t l hv;cases h;rw[hv] at hx;have hx':RP G.I (.ifa t l) (a.eval x):=hx
   refine .inl ⟨a.eval x,?_,hx',rfl⟩
   have he:∃ u,a.eval x=.iface t u:=by
    generalize a.eval x=y at hx';cases hx';exact⟨_,rfl⟩
   obtain⟨u,he⟩:=he;simp[execOp,hop,he,Instr.panic]
  ·cases h
 ·cases h
end
end Go.Abs
namespace Go.Abs
open Go
structure Sound (K:Cfg) (call:CallF):Prop where
 good : ∀ g, K.good g = true → ∃ fn, K.P.funcs[g]? = some fn ∧ fn.name ≠ "runtime.NumGoroutine" ∧ fn.body.isSome = true
 call:∀ g args bxs r,K.good g=true→call g args bxs=some r→Contract K.P g args bxs r
def Out.exit':Out→Exit
 | .norm=>.normal
 | .exit i=>.exit i
 | .ret=>.ret
 | .pan _=>.normal
def Post (G:Gh) (w:World) (df:List Deferred) (r:Out×St) (Q:Exit→Act→World→Prop):Prop :=
 ∀ a' w' G',Ext G w G' w'→WI G' w'→FR G' w' r.2 a'→a'.defers=df →
  match r.1 with
  | .pan v=>∀ x,RN G' v x→Q (.panic [{ v:=x,recovered:=false }]) a' w'
  | o=>Q o.exit' a' w'
theorem Post.ext {G G':Gh} {w w':World} {df:List Deferred} {r:Out×St} {Q:Exit→Act→World→Prop} (h:Post G w df r Q) (hx:Ext G w G' w'):Post G' w' df r Q :=
 fun a2 w2 G2 h1 h2 h3 h4=>h a2 w2 G2 (hx.trans h1) h2 h3 h4
section
variable {K:Cfg} {call:CallF} {G:Gh} {w:World} {S:St} {a:Act} {o:Oper} {ops:List Oper} {Q:Exit→Act→World→Prop}
theorem iB (a:Act) (d:Option Nat) (x:Value):(a.put d x).defers=a.defers:=by cases d<;>rfl
theorem sT {b:Bool} (h:bw ops S o=some b) (hf:FR G w S a):Region.wanted o (yielded ops.toArray a.tmps)=b:=by
 unfold bw at h;unfold Region.wanted;cases hg:o.guard with
 | none=>rw[hg] at h;simp at h;simp[h]
 | some gw =>
  obtain⟨j,want⟩:=gw;rw[hg] at h;simp only at h ⊢;unfold yielded;have hj:ops.toArray[j]? = ops[j]? := by simp
  rw[hj];cases hd:(ops[j]?).bind (·.dst) with
  | none=>rw[hd] at h;simp at h;simp[h]
  | some d =>
   rw[hd] at h;simp only at h;have hs:=hf.slot d
   simp only[Option.bind_some];cases hv:S.sl d with
   | c v =>
    rw[hv] at h hs;cases v with
    | pv p =>
     cases p with
     | bool c =>
      simp at h;have e:=RA.boolv hs
      rw[Array.getD_eq_getD_getElem?] at e
      cases ht:a.tmps[d]? with
      | none=>rw[ht] at e;cases e
      | some y =>
       rw[ht] at e
       simp at e
       subst e;simp;rw[←h]
     | _=>cases h
    | _=>cases h
   | agg l=>rw[hv] at h;cases h
   | tup l =>
    rw[hv] at h hs;simp at h;obtain⟨vs,e,_⟩:=hs;rw[Array.getD_eq_getD_getElem?] at e
    cases ht:a.tmps[d]? with
    | none=>simp[←h]
    | some y =>
     rw[ht] at e
     simp at e
     subst e;simp[←h]
theorem Bw (hf:FR G w S a) {S':St} (hp:S.put o.dst (.tup [])=some S') (hw:WI G w):FR G w S' (a.put o.dst undef):=by
 have:=Step.frame (x:=undef) hf (Step.pure (dst:=o.dst) (v:=.tup []) (x:=undef) hf hw fun d _=>⟨[],rfl,.nil⟩) (S':=S') (by simpa[aj,St.degAt] using hp)
 exact this
theorem gI (hs:Sound K call) {r:Out×St} (h:aR K call ops o S=some r) (hf:FR G w S a) (hw:WI G w)
  (hst:(match o.op with|.store .. => o.dst.isNone|_=>true)=true) (N:Act→World→Prop)
  (hN:match r.1 with
   | .norm=>∀ a' w' G',Ext G w G' w'→WI G' w'→FR G' w' r.2 a'→a'.defers=a.defers→N a' w'
   | _=>Post G w a.defers r Q) :
  if Region.wanted o (yielded ops.toArray a.tmps) then o.wp K.P a w N Q∨(o.asks K.P a w∧LetsOut Q) else N (a.put o.dst undef) w:=by
 unfold aR at h;split at h
 ·cases h
 ·rename_i hg;rw[sT hg hf];simp only[Option.map_eq_some_iff] at h;obtain⟨S',hS',rfl⟩:=h;simp only at hN;exact hN _ w G (.refl _ _) hw (Bw hf hS' hw) (iB a _ _)
 ·rename_i hg;rw[sT hg hf];refine .inl ?_
  split at h
  ·cases h
  ·rename_i v bs hop;cases h;have:=Ck hop hf hw hs.good hs.call (fun e=>by
    cases ho:o.op<;>simp[ho] at e hst
    exact hst)
   unfold Oper.wp;rcases this with⟨x,hr,hv,rfl⟩|⟨f,args,hr,hc⟩
   ·rw[hr,Oper.upon_panic];simp only at hN;exact hN a w G (.refl _ _) hw hf rfl x hv
   ·rw[hr,Oper.upon_enter];refine hc.mono ?_
    rintro e w' ⟨x,G',rfl,hv,hx,hw',hf'⟩
    simp only at hN;exact hN a w' G' hx hw' hf' rfl x hv
  ·rename_i v dg bs hop;simp only[Option.map_eq_some_iff] at h;obtain⟨S',hS',rfl⟩:=h;simp only at hN;have:=Ck hop hf hw hs.good hs.call (fun e=>by
    cases ho:o.op<;>simp[ho] at e hst
    exact hst)
   unfold Oper.wp;rcases this with⟨x,w',G',hr,hstep⟩|⟨f,args,hr,hc⟩
   ·have hfr:=hstep.frame hf hS'
    rcases hr with hr|⟨hr,rfl⟩
    ·rw[hr,Oper.upon_value];exact hN _ w' G' hstep.ext hstep.wi hfr (iB a _ _)
    ·rw[hr,Oper.upon_skip];exact hN _ w' G' hstep.ext hstep.wi hfr (iB a _ _)
   ·rw[hr,Oper.upon_enter];refine hc.mono ?_
    rintro e w' ⟨x,G',rfl,hstep⟩
    exact hN _ w' G' hstep.ext hstep.wi (hstep.frame hf hS') (iB a _ _)
theorem ug {r:Out×St} (h:aR K call ops o S=some r):r.1=.norm∨∃ v,r.1=.pan v:=by
 unfold aR at h;split at h
 ·cases h
 ·simp only[Option.map_eq_some_iff] at h;obtain⟨S',_,rfl⟩:=h;exact .inl rfl
 ·split at h
  ·cases h
  ·cases h;exact .inr ⟨_,rfl⟩
  ·simp only[Option.map_eq_some_iff] at h;obtain⟨S',_,rfl⟩:=h;exact .inl rfl
theorem AI (hs:Sound K call):∀ (l:List Oper) {S:St} {G:Gh} {w:World} {a:Act} {r:Out×St},aV K call ops l S=some r→FR G w S a→WI G w→ju l=true →
  Post G w a.defers r Q→wpList K.P ops.toArray Q l a w
 | [],S,G,w,a,r,h,hf,hw,_,hp=>by
  simp[aV] at h;subst h;exact hp a w G (.refl _ _) hw hf rfl
 | o::l,S,G,w,a,r,h,hf,hw,hst,hp=>by
  simp only[ju,List.all_cons,Bool.and_eq_true] at hst;unfold aV at h;split at h
  ·rename_i S1 h1;refine gI hs h1 hf hw hst.1 _ fun a' w' G' hx hw' hf' hd => ?_
   exact AI hs l h hf' hw' hst.2 (by rw[hd];exact hp.ext hx)
  ·rename_i hne;refine gI hs h hf hw hst.1 _ ?_
   rcases ug h with h1|⟨v,h1⟩
   ·obtain⟨r1,r2⟩:=r;simp only at h1;subst h1;exact(hne _ h).elim
   ·rw[h1];exact hp
end
end Go.Abs
namespace Go.Abs
open Go
section
variable {K:Cfg} {call:CallF} {S S':St} {o:Oper} {ops:List Oper} {apps:List Nat}
def delta (K:Cfg) (call:CallF) (ops:List Oper) (o:Oper) (S:St):Option Delta :=
 match bw ops S o with
 | none=>none
 | some false=>some (.val (.tup []) none [])
 | some true=>bU K call (aH ops) S.bx (opd S.sl) o
def app (S:St) (dst:Option Nat) (v:AV) (dg:Option Nat) (bs:List (Nat×List CV)):Option St:=(({ S with bx:=aj S.bx bs }:St).degAt dg).put dst v
def eP (ops:List Oper) (o:Oper) (S:St):Key :=
 match bw ops S o with
 | some true=>bZ (aH ops) S.bx (opd S.sl) o
 | _=>.none
theorem gN {S1:St}:aR K call ops o S=some (.norm,S1)↔∃ v dg bs,delta K call ops o S=some (.val v dg bs)∧app S o.dst v dg bs=some S1:=by
 unfold aR delta app;cases hg:bw ops S o with
 | none=>simp
 | some b =>
  cases b
  ·simp only[Option.map_eq_some_iff,Prod.mk.injEq,true_and];constructor
   ·rintro ⟨S2,h,rfl⟩
    exact⟨_,_,_,rfl,by simpa[aj,St.degAt] using h⟩
   ·rintro ⟨v,dg,bs,h1,h2⟩
    cases h1
    exact⟨S1,by simpa[aj,St.degAt] using h2,rfl⟩
  ·simp only;cases ho:bU K call (aH ops) S.bx (opd S.sl) o with
   | none=>simp
   | some d =>
    cases d with
    | val v dg bs =>
     simp only[Option.map_eq_some_iff,Prod.mk.injEq,true_and];constructor
     ·rintro ⟨S2,h,rfl⟩;exact⟨v,dg,bs,rfl,h⟩
     ·rintro ⟨v',dg',bs',h1,h2⟩;cases h1;exact⟨S1,h2,rfl⟩
    | pan v bs=>simp
theorem sV {bx:Nat→Option (List CV)} {ρ ρ':Operand→AV} (h:∀ x∈o.op.operands,ρ x=ρ' x):bU K call apps bx ρ o=bU K call apps bx ρ' o:=by
 obtain⟨dst,op,type,pos,after,guard⟩:=o;have pairs:∀ ps:Array (Nat×Operand),(∀ x∈ps.map (·.2),ρ x=ρ' x)→(ps.toList.map fun p=>(p.1,ρ p.2))=(ps.toList.map fun p=>(p.1,ρ' p.2)):=fun ps hp =>
  List.map_congr_left fun p hm=>by
   rw[hp p.2 (Array.mem_map.2 ⟨p,Array.mem_toList_iff.1 hm,rfl⟩)]
 cases op<;>simp only[Op.operands] at h<;>simp only[bU]
 case build t ps=>rw[pairs ps fun x hx=>h x (by simpa using hx)]
 case buildSlice t n ps=>rw[pairs ps fun x hx=>h x (by simpa using hx)]
 case makeFunc fn first captured =>
  cases fn<;>simp only[]
  rw[List.map_congr_left (l:=captured.toList) fun x hx=>h x (by simp;exact .inr (Array.mem_toList_iff.1 hx))]
 case call c =>
  have hargs:c.args.toList.map ρ=c.args.toList.map ρ':=List.map_congr_left fun x hx=>h x (by simp[Call.operands];exact .inr (Array.mem_toList_iff.1 hx))
  have hall:∀ x∈c.args.toList,ρ x=ρ' x:=fun x hx=>h x (by simp[Call.operands];exact .inr (Array.mem_toList_iff.1 hx))
  unfold bv;cases hc:c.callee with
  | value f =>
   have hf:ρ f=ρ' f:=h f (by simp[Call.operands,hc])
   simp only[hf,hargs]
  | invoke r m=>rfl
  | builtin b =>
   cases b<;>simp only[hargs]
   case len =>
    split
    ·rename_i x t hx _;rw[hall x (by rw[hx];simp)]
    ·rfl
   case append =>
    split
    ·rename_i s x hx;rw[hall s (by rw[hx];simp),hall x (by rw[hx];simp)]
    ·rfl
 case slice t x lo hi mx=>cases lo<;>cases hi<;>cases mx<;>simp_all
 all_goals (first|rfl|(simp_all;done))
theorem sw {bx:Nat→Option (List CV)} {ρ ρ':Operand→AV} (h:∀ x∈o.op.operands,ρ x=ρ' x):bZ apps bx ρ o=bZ apps bx ρ' o:=by
 obtain⟨dst,op,type,pos,after,guard⟩:=o;cases op<;>simp only[Op.operands] at h<;>simp only[bZ]
 case load t x=>rw[h x (by simp)]
 case store t x y=>rw[h x (by simp)]
 case call c =>
  have hargs:c.args.toList.map ρ=c.args.toList.map ρ':=List.map_congr_left fun x hx=>h x (by simp[Call.operands];exact .inr (Array.mem_toList_iff.1 hx))
  cases hc:c.callee with
  | value f =>
   have hf:ρ f=ρ' f:=h f (by simp[Call.operands,hc])
   simp only[hf,hargs]
  | invoke r m=>rfl
  | builtin b=>rfl
def gO (a b:Option (List CV)):Prop:=a.map (List.map CV.deg)=b.map (List.map CV.deg)
def qX (k:Key) (f g:Nat→Option (List CV)):Prop :=
 match k with
 | .none=>True
 | .rd s=>gO (f s) (g s)
 | .tk s|.wr s=>f s=g s
 | .lend l=>∀ s∈l,f s=g s
 | .all=>f=g
theorem jx {bx bx':Nat→Option (List CV)}:∀ {l:List Nat},(∀ s∈l,bx s=bx' s)→aJ bx l=aJ bx' l
 | [],_=>rfl
 | s::l,h=>by
  unfold aJ;rw[h s (by simp),jx fun t ht=>h t (by simp[ht])]
theorem lV {s:Nat}:∀ {l:List Nat},s∈dedup l→s∈l
 | [],h=>by simp[dedup] at h
 | a::l,h=>by
  unfold dedup at h;split at h
  ·exact List.mem_cons_of_mem _ (lV h)
  ·rcases List.mem_cons.1 h with rfl|h
   ·simp
   ·exact List.mem_cons_of_mem _ (lV h)
theorem sK {args:List AV} {caps:List (Nat×Nat)} {s:Nat} (h:s∈dedup ((args++caps.map fun x=>AV.c (.loc x.1 x.2)).flatMap AV.ptrs)):s∈aY args caps:=by
 have h:=lV h
 unfold aY;rw[List.flatMap_append,List.mem_append] at h;rw[List.mem_append];refine h.imp id fun h => ?_
 rw[List.mem_flatMap] at h;obtain⟨v,hv,hs⟩:=h;rw[List.mem_map] at hv;obtain⟨c,hc,rfl⟩:=hv;simp[AV.ptrs,CV.ptrs] at hs;rw[List.mem_map];exact⟨c,hc,hs.symm⟩
theorem qN {own:Bool} {bx bx':Nat→Option (List CV)} {g:FuncId} {args:List AV} (h:∀ s∈dedup (args.flatMap AV.ptrs),bx s=bx' s):bO call own bx g args=bO call own bx' g args:=by
 unfold bO;split
 ·rfl
 ·simp only[jx h]
theorem CV.deg_deg (v:CV):v.deg.deg=v.deg:=by cases v<;>rfl
theorem wo {l m:List CV} (h:l.map CV.deg=m.map CV.deg) (k:Nat):(l[k]?).map CV.deg=(m[k]?).map CV.deg:=by
 rw[←List.getElem?_map,←List.getElem?_map,h]
theorem zI {bx bx':Nat→Option (List CV)} {ρ:Operand→AV} (h:qX (bZ apps bx ρ o) bx bx'):bU K call apps bx ρ o=bU K call apps bx' ρ o:=by
 obtain⟨dst,op,type,pos,after,guard⟩:=o;cases op<;>simp only[bU]
 case alloc t =>
  cases dst with
  | none=>cases zeroCells K.P t<;>rfl
  | some d =>
   have h':bx d=bx' d:=h
   cases zeroCells K.P t<;>simp[cz,h']
 case box t x =>
  cases dst with
  | none=>cases az (ρ x).deg<;>rfl
  | some d =>
   have h':bx d=bx' d:=h
   cases az (ρ x).deg<;>simp[cz,h']
 case load t x =>
  unfold bL;simp only[bZ] at h;have alt:(∀ s off,ρ x≠.c (.loc s off))∨∃ s off,ρ x=.c (.loc s off)∧(bx s=bx' s∨bR apps dst=false∧gO (bx s) (bx' s)):=by
   cases hx:ρ x with
   | c v =>
    rw[hx] at h;cases v with
    | loc s off =>
     simp only at h;refine .inr ⟨s,off,rfl,?_⟩
     by_cases hc:bR apps dst=true
     ·rw[if_pos hc] at h;exact .inl h
     ·rw[if_neg hc] at h;exact .inr ⟨by simpa using hc,h⟩
    | _=>exact .inl (by simp)
   | agg l=>exact .inl (by simp)
   | tup l=>exact .inl (by simp)
  rcases alt with hne|⟨s,off,hx,h'⟩
  ·split
   ·rename_i s off _ hx;exact absurd hx (hne s off)
   ·rename_i s off _ hx;exact absurd hx (hne s off)
   ·rfl
   ·rfl
   ·rfl
  ·rw[hx];rcases h' with h'|⟨hna,h'⟩
   ·cases hsT:cA K.P t with
    | none=>rfl
    | some r=>cases r<;>simp only[h']
   ·cases hsT:cA K.P t with
    | none=>rfl
    | some r =>
     unfold gO at h';cases hb:bx s with
     | none =>
      rw[hb] at h';cases hb':bx' s with
      | none=>cases r<;>simp only[hb,hb']
      | some c'=>rw[hb'] at h';cases h'
     | some c =>
      rw[hb] at h';cases hb':bx' s with
      | none=>rw[hb'] at h';cases h'
      | some c' =>
       rw[hb'] at h';have h2:c.map CV.deg=c'.map CV.deg:=by simpa using h'
       have hlen:c.length=c'.length:=by have:=congrArg List.length h2;simpa using this
       cases r with
       | some n =>
        simp only[hb,hb',hlen];have:((c.drop off).take n).map CV.deg=((c'.drop off).take n).map CV.deg:=by
         rw[List.map_take,List.map_drop,List.map_take,List.map_drop,h2]
        rw[this]
       | none =>
        simp only[hb,hb'];have hg:=wo h2 off
        cases h3:c[off]? with
        | none =>
         rw[h3] at hg;cases h4:c'[off]? with
         | none=>rfl
         | some v'=>rw[h4] at hg;cases hg
        | some v =>
         rw[h3] at hg;cases h4:c'[off]? with
         | none=>rw[h4] at hg;cases hg
         | some v' =>
          rw[h4] at hg;have hg:v.deg=v'.deg:=by simpa using hg
          simp[hna,hg]
 case store t x y =>
  unfold bu;simp only[bZ] at h;cases hx:ρ x with
  | c v =>
   rw[hx] at h;cases v with
   | loc s off =>
    have h':bx s=bx' s:=h
    simp only[h']
   | _=>rfl
  | agg l=>rfl
  | tup l=>rfl
 case makeFunc fn first caps=>cases fn<;>rfl
 case call c =>
  unfold bv;simp only[bZ] at h;cases hc:c.callee with
  | builtin b=>rfl
  | invoke r m=>rfl
  | value f =>
   rw[hc] at h;simp only at h ⊢;cases hf:ρ f with
   | c v =>
    rw[hf] at h;cases v with
    | fn g caps =>
     simp only at h ⊢;by_cases hk:(caps.isEmpty&&(c.args.toList.map ρ).all AV.flat)=true
     ·simp only[Bool.and_eq_true] at hk;have hcap:caps=[]:=by simpa using hk.1
      subst hcap;have hall:(c.args.toList.map ρ++[].map fun (x:Nat×Nat)=>AV.c (.loc x.1 x.2)).all AV.flat=true:=by simpa using hk.2
      unfold bO;rw[if_pos hall,if_pos hall]
     ·rw[if_neg hk] at h;rw[qN fun s hs=>h s (sK hs)]
    | _=>rfl
   | agg l=>rfl
   | tup l=>rfl
theorem zV {bx bx':Nat→Option (List CV)} {ρ:Operand→AV}:bZ apps bx ρ o=bZ apps bx' ρ o:=by
 unfold bZ;rfl
theorem qV {bx:Nat→Option (List CV)} {ρ:Operand→AV} {v:AV} {dg:Option Nat} {bs:List (Nat×List CV)} (h:bU K call apps bx ρ o=some (.val v dg bs)) :
  (∀ u,dg=some u→u∈fm apps o) ∧
   match bZ apps bx ρ o with
   | .none|.rd _=>bs=[]
   | .tk s=>∀ x∈bs,x.1=s∧gO (bx s) (some x.2)
   | .wr s=>∀ x∈bs,x.1=s
   | .lend l=>∀ x∈bs,x.1∈l
   | .all=>True:=by
 have hpv:∀ {r:Option PV},okPV r=some (.val v dg bs)→dg=none∧bs=[]:=fun {r} h=>by
  cases r<;>simp[okPV] at h;exact⟨h.2.1.symm,h.2.2⟩
 have hav:∀ {r:Option AV},okAV r=some (.val v dg bs)→dg=none∧bs=[]:=fun {r} h=>by
  cases r<;>simp[okAV] at h;exact⟨h.2.1.symm,h.2.2⟩
 have hov:∀ {r:AV},dr r=some (.val v dg bs)→dg=none∧bs=[]:=fun {r} h=>by
  simp[dr] at h;exact⟨h.2.1.symm,h.2.2⟩
 obtain⟨dst,op,type,pos,after,guard⟩:=o;have simple:dg=none∧bs=[]→(∀ u,dg=some u→u∈fm apps { dst,op,type,pos,after,guard }) ∧
   match bZ apps bx ρ { dst,op,type,pos,after,guard } with
   | .none|.rd _=>bs=[]
   | .tk s=>∀ x∈bs,x.1=s∧gO (bx s) (some x.2)
   | .wr s=>∀ x∈bs,x.1=s
   | .lend l=>∀ x∈bs,x.1∈l
   | .all=>True:=fun ⟨h1,h2⟩=>by
  subst h1;subst h2;refine⟨fun u hu=>(by cases hu),?_⟩
  split<;>simp
 have take:∀ {always:Bool} {x:Operand},bg apps always dst x (ρ x)=some (.val v dg bs)→bs=[]∧∀ u,dg=some u→x=.tmp u∧(always||bR apps dst)=true:=fun {always x} h=>by
  unfold bg at h;split at h
  case isTrue=>cases h
  split at h
  ·split at h
   ·rename_i u hst;split at h
    ·cases h
    ·cases h
     refine⟨rfl,fun u' hu' => ?_⟩
     cases hu'
     cases x with
     | tmp t =>
      simp only[steal] at hst;by_cases hc:(always||bR apps dst)=true
      ·rw[if_pos hc] at hst;cases hst;exact⟨rfl,hc⟩
      ·rw[if_neg hc] at hst;cases hst
     | const c=>cases hst
     | func f=>cases hst
     | global g=>cases hst
   ·cases h;exact⟨rfl,fun u hu=>(by cases hu)⟩
  ·cases h;exact⟨rfl,fun u hu=>(by cases hu)⟩
 cases op<;>simp only[bU] at h
 case move x =>
  obtain⟨h1,h2⟩:=take h;refine⟨fun u hu => ?_,h1⟩
  obtain⟨h3,h4⟩:=h2 u hu;subst h3;simp only[Bool.false_or] at h4;simp[fm,h4]
 case assign x =>
  obtain⟨h1,h2⟩:=take h;refine⟨fun u hu => ?_,h1⟩
  obtain⟨h3,h4⟩:=h2 u hu;subst h3;simp[fm]
 case pick c x y =>
  split at h
  ·exact simple (hov h)
  ·cases h
 case alloc t =>
  split at h
  case h_2=>cases h
  unfold cz at h;split at h
  case h_2=>cases h
  split at h
  case isFalse=>cases h
  cases h
  exact⟨fun u hu=>(by cases hu),fun x hx=>by simp at hx;rw[hx]⟩
 case box t x =>
  split at h
  case h_2=>cases h
  unfold cz at h;split at h
  case h_2=>cases h
  split at h
  case isFalse=>cases h
  cases h
  exact⟨fun u hu=>(by cases hu),fun x hx=>by simp at hx;rw[hx]⟩
 case build t ps=>exact simple (hav h)
 case buildSlice t n ps=>exact simple (hav h)
 case load t x =>
  unfold bL at h;split at h
  ·split at h
   ·split at h<;>cases h
    exact simple ⟨rfl,rfl⟩
   ·cases h
  ·rename_i s off hs hx;split at h
   ·rename_i cells hcells;split at h
    ·cases h
    ·rename_i v hv;split at h
     ·rename_i hc;cases h;simp only[Bool.and_eq_true] at hc;refine⟨fun u hu=>(by cases hu),?_⟩
      simp only[bZ,hx];rw[if_pos hc.2];intro x hx';simp at hx';subst hx';refine⟨rfl,?_⟩
      rw[hcells];have hlt:off<cells.length:=(List.getElem?_eq_some_iff.1 hv).1
      show some (cells.map CV.deg)=some ((bV cells off [v.deg]).map CV.deg)
      congr 1
      apply List.ext_getElem?
      intro k;rw[List.getElem?_map,List.getElem?_map,eu _ _ _ hlt]
      split
      ·rename_i hk;subst hk;rw[hv];simp[CV.deg_deg]
      ·rfl
     ·cases h;exact simple ⟨rfl,rfl⟩
   ·cases h
  ·split at h<;>cases h
   exact simple ⟨rfl,rfl⟩
  ·split at h<;>cases h
   exact simple ⟨rfl,rfl⟩
  ·cases h
 case store t x y =>
  unfold bu at h;split at h
  ·rename_i s off hx;split at h
   ·split at h
    ·split at h
     ·split at h
      ·cases h
       refine⟨fun u hu=>by cases hu;simp[fm],?_⟩
       simp only[bZ,hx];intro x hx';simp at hx';rw[hx']
      ·cases h
     ·cases h
      refine⟨fun u hu=>(by cases hu),?_⟩
      simp only[bZ,hx];intro x hx';simp at hx';rw[hx']
    ·cases h
   ·cases h
  ·cases h
 case nilCheck x =>
  split at h
  ·exact simple (hov h)
  ·exact simple (hov h)
  ·exact simple (hov h)
  ·cases h
 case binOp op t x y yt=>exact simple (hpv h)
 case unOp op t x=>exact simple (hpv h)
 case convert s d x=>exact simple (hav h)
 case makeInterface t x=>exact simple (hav h)
 case makeFunc fn first caps =>
  cases fn<;>simp only[] at h
  case func f =>
   split at h
   ·split at h
    ·exact simple (hov h)
    ·cases h
   ·cases h
  all_goals cases h
 case slice t x lo hi mx=>exact simple (hav h)
 case fieldAddr t x f=>exact simple (hav h)
 case field t x f=>exact simple (hav h)
 case indexAddr t x i=>exact simple (hav h)
 case index t x i=>exact simple (hav h)
 case typeAssert x t u k=>exact simple (hav h)
 case extract x i=>exact simple (hav h)
 case range t x=>exact simple (hav h)
 case lookup t x i k=>exact simple (hav h)
 case next x str =>
  unfold co at h;split at h
  case h_2=>cases h
  split at h
  case isFalse=>cases h
  split at h<;>cases h
  ·exact⟨fun u hu=>by cases hu;simp[fm],by simp[bZ]⟩
  ·exact simple ⟨rfl,rfl⟩
 case call c =>
  unfold bv at h;split at h
  ·rename_i b hb;split at h
   ·split at h
    ·exact simple (hpv h)
    ·cases h
   ·exact simple (hpv h)
   ·exact simple (hpv h)
   ·split at h
    ·rename_i s x hx;split at h
     ·split at h
      ·cases h
       refine⟨fun u hu=>by cases hu;simp[fm,hb,hx],?_⟩
       simp[bZ,hb]
      ·cases h;exact simple ⟨rfl,rfl⟩
      ·cases h;exact simple ⟨rfl,rfl⟩
      ·cases h
     ·cases h
    ·cases h
   ·cases h
  ·rename_i f hb;split at h
   ·rename_i g caps hf;split at h
    ·unfold bO at h;split at h
     ·split at h
      ·split at h<;>cases h
       exact simple ⟨rfl,rfl⟩
      ·split at h<;>cases h
      ·cases h
     ·rename_i hnf;have hk:bZ apps bx ρ { dst,op:=.call c,type,pos,after,guard }=.lend (aY (c.args.toList.map ρ) caps):=by
       simp only[bZ,hb,hf];rw[if_neg];intro hc;simp only[Bool.and_eq_true] at hc;have hcap:caps=[]:=by simpa using hc.1
       subst hcap;exact hnf (by simpa using hc.2)
      rw[hk];have hzip:∀ {L:List Nat} {cs:List (List CV)} {x:Nat×List CV},x∈ck L cs→x.1∈L:=fun {L cs x} hx=>by
       unfold ck at hx;exact(List.of_mem_zip hx).1
      simp only at h;split at h
      ·cases h
      ·split at h
       ·split at h
        ·cases h
         exact⟨fun u hu=>(by cases hu),fun x hx=>sK (hzip hx)⟩
        ·cases h
       ·split at h<;>cases h
       ·cases h
    ·cases h
   ·cases h
  ·cases h
 case panic x =>
  split at h<;>cases h
 all_goals cases h
end
end Go.Abs
namespace Go.Abs
open Go
section
variable {K:Cfg} {call:CallF} {S S' S1 S2:St} {o oi oj:Oper} {ops:List Oper} {apps:List Nat}
theorem tX {x:Operand} {t:Nat} (hx:x∈o.op.operands) (ht:x=.tmp t):t∈o.looksAt ops.toArray:=by
 subst ht;exact List.mem_append_left _ (List.mem_filterMap.2 ⟨.tmp t,by simpa using hx,rfl⟩)
theorem qD {sl sl':Nat→AV} (h:∀ t∈o.looksAt ops.toArray,sl t=sl' t):∀ x∈o.op.operands,opd sl x=opd sl' x:=fun x hx=>by
 cases x with
 | tmp t=>exact h t (tX hx rfl)
 | const v=>rfl
 | func f=>rfl
 | global g=>rfl
theorem lw (h:∀ t∈o.looksAt ops.toArray,S.sl t=S'.sl t):bw ops S o=bw ops S' o:=by
 unfold bw;cases hg:o.guard with
 | none=>rfl
 | some gw =>
  obtain⟨j,want⟩:=gw;simp only;cases hd:(ops[j]?).bind (·.dst) with
  | none=>rfl
  | some d =>
   have:d∈o.looksAt ops.toArray:=by
    unfold Oper.looksAt;refine List.mem_append_right _ ?_
    have hj:ops.toArray[j]? = ops[j]? := by simp
    rw[hg];simp only[hj,hd];simp
   simp only[h d this]
theorem kW (h:∀ t∈o.looksAt ops.toArray,S.sl t=S'.sl t):eP ops o S=eP ops o S':=by
 unfold eP;rw[lw h];split
 ·rw[sw (qD h)];exact zV
 ·rfl
theorem mI (h:∀ t∈o.looksAt ops.toArray,S.sl t=S'.sl t) (hb:qX (eP ops o S) S.bx S'.bx):delta K call ops o S=delta K call ops o S':=by
 unfold delta;unfold eP at hb;rw[lw h] at hb ⊢;split
 ·rfl
 ·rfl
 ·rename_i hg;rw[hg] at hb;simp only at hb;rw[zI hb];rw[sV (qD h)]
def KW (k:Key) (f:Nat→Option (List CV)) (bs:List (Nat×List CV)):Prop:=∀ x∈bs,match k with
 | .none|.rd _=>False
 | .tk s=>x.1=s∧gO (f s) (some x.2)
 | .wr s=>x.1=s
 | .lend l=>x.1∈l
 | .all=>True
theorem ja {v:AV} {dg:Option Nat} {bs:List (Nat×List CV)} (h:delta K call ops o S=some (.val v dg bs)) :
  (∀ u,dg=some u→u∈fm (aH ops) o)∧KW (eP ops o S) S.bx bs:=by
 unfold delta at h;unfold eP;split at h
 ·cases h
 ·rename_i hg;cases h;rw[hg];exact⟨fun u hu=>(by cases hu),fun x hx=>by simp at hx⟩
 ·rename_i hg;rw[hg];obtain⟨h1,h2⟩:=qV h;refine⟨h1,fun x hx => ?_⟩
  simp only;cases hk:bZ (aH ops) S.bx (opd S.sl) o with
  | none=>rw[hk] at h2;simp only at h2;subst h2;simp at hx
  | rd s=>rw[hk] at h2;simp only at h2;subst h2;simp at hx
  | tk s=>rw[hk] at h2;exact h2 x hx
  | wr s=>rw[hk] at h2;exact h2 x hx
  | lend l=>rw[hk] at h2;exact h2 x hx
  | all=>exact trivial
theorem nr {dst:Option Nat} {v:AV} {dg:Option Nat} {bs:List (Nat×List CV)} (h:app S dst v dg bs=some S1) :
  S1.nt=S.nt∧S1.bx=aj S.bx bs∧(∀ d,dst=some d→d<S.nt)∧∀ t,S1.sl t=if dst=some t then v else if dg=some t then(S.sl t).gv else S.sl t:=by
 unfold app at h;have key:∀ sl:Nat→AV,(∀ t,sl t=if dg=some t then(S.sl t).gv else S.sl t)→({ sl:=sl,bx:=aj S.bx bs,nt:=S.nt }:St).put dst v=some S1 →
   S1.nt=S.nt∧S1.bx=aj S.bx bs∧(∀ d,dst=some d→d<S.nt)∧∀ t,S1.sl t=if dst=some t then v else if dg=some t then(S.sl t).gv else S.sl t:=fun sl hsl hp=>by
  unfold St.put at hp;cases dst with
  | none =>
   simp at hp;subst hp;exact⟨rfl,rfl,fun d e=>(by cases e),fun t=>by simp[hsl t]⟩
  | some d =>
   simp only at hp;split at hp
   case isFalse=>cases hp
   rename_i hd;simp at hp;subst hp;refine⟨rfl,rfl,fun d' e=>by cases e;exact hd,fun t => ?_⟩
   show upd sl d v t=_
   unfold upd;by_cases ht:t=d
   ·subst ht;simp
   ·rw[if_neg ht,if_neg (fun e=>ht (by simpa using e.symm)),hsl t]
 cases dg with
 | none=>exact key S.sl (fun t=>by simp) h
 | some u =>
  refine key (upd S.sl u (S.sl u).gv) (fun t => ?_) h
  unfold upd;by_cases ht:t=u
  ·subst ht;simp
  ·rw[if_neg ht,if_neg (fun e=>ht (by simpa using e.symm))]
theorem yx {dst:Option Nat} {v:AV} {dg:Option Nat} {bs:List (Nat×List CV)} (hd:∀ d,dst=some d→d<S.nt):∃ S1,app S dst v dg bs=some S1:=by
 unfold app;cases dst with
 | none=>exact⟨_,rfl⟩
 | some d =>
  have:=hd d rfl
  cases dg<;>simp[St.degAt,St.put,this]
theorem St.ext' {A B:St} (h1:A.nt=B.nt) (h2:A.bx=B.bx) (h3:∀ t,A.sl t=B.sl t):A=B:=by
 cases A;cases B
 simp only at h1 h2 h3;subst h1;subst h2
 congr 1
 exact funext h3
theorem ej {bs:List (Nat×List CV)}:∀ {f:Nat→Option (List CV)} {s:Nat},(∀ x∈bs,x.1≠s)→aj f bs s=f s:=by
 induction bs with
 | nil=>intro f s _;rfl
 | cons x bs ih =>
  intro f s h;obtain⟨k,c⟩:=x
  show aj (upd f k (some c)) bs s=f s
  rw[ih fun y hy=>h y (by simp[hy])]
  unfold upd;rw[if_neg (fun e=>h (k,c) (by simp) e.symm)]
theorem kV {bs:List (Nat×List CV)}:∀ {f g:Nat→Option (List CV)} {s:Nat},f s=g s→aj f bs s=aj g bs s:=by
 induction bs with
 | nil=>intro f g s h;exact h
 | cons x bs ih =>
  intro f g s h;obtain⟨k,c⟩:=x
  show aj (upd f k (some c)) bs s=aj (upd g k (some c)) bs s
  apply ih
  unfold upd;split
  ·rfl
  ·exact h
theorem pD {b1 b2:List (Nat×List CV)} (h:∀ x∈b1, ∀ y∈b2,x.1≠y.1) (f:Nat→Option (List CV)):aj (aj f b1) b2=aj (aj f b2) b1:=by
 funext s
 by_cases h1:∃ x∈b1,x.1=s
 ·obtain⟨x,hx,rfl⟩:=h1;rw[ej (f:=aj f b1) fun y hy e=>h x hx y hy e.symm]
  apply kV
  rw[ej fun y hy e=>h x hx y hy e.symm]
 ·have h1':∀ x∈b1,x.1≠s:=fun x hx e=>h1 ⟨x,hx,e⟩
  rw[ej (f:=aj f b2) h1']
  apply kV
  rw[ej h1']
theorem um (h:apart2 ops apps oi oj=true):(∀ d∈fI apps oi,d ∉ oj.looksAt ops.toArray∧d ∉ fI apps oj)∧∀ d∈fI apps oj,d ∉ oi.looksAt ops.toArray:=by
 unfold apart2 at h;simp only[Bool.and_eq_true,List.all_eq_true] at h;exact⟨fun d hd=>by simpa using h.1 d hd,fun d hd=>by simpa using h.2 d hd⟩
def doOp (K:Cfg) (call:CallF) (ops:List Oper) (κ:Nat→Key) (i:Nat) (S S1:St):Prop :=
 match ops[i]? with
 | none=>S=S1
 | some o=>aR K call ops o S=some (.norm,S1)∧eP ops o S=κ i
theorem rC {bs:List (Nat×List CV)} {s:Nat}:∀ {f:Nat→Option (List CV)},(∀ x∈bs,x.1=s∧gO (f s) (some x.2))→gO (f s) (aj f bs s):=by
 induction bs with
 | nil=>intro f _;exact rfl
 | cons x bs ih =>
  intro f h;obtain⟨k,c⟩:=x;have h0:=h (k,c) (by simp)
  simp only at h0;obtain⟨rfl,h0⟩:=h0
  show gO (f k) (aj (upd f k (some c)) bs k)
  have hu:upd f k (some c) k=some c:=by simp[upd]
  have h1:gO (upd f k (some c) k) (aj (upd f k (some c)) bs k):=ih fun y hy=>⟨(h y (by simp[hy])).1,by
   rw[hu];have:=(h y (by simp[hy])).2
   unfold gO at this h0 ⊢
   rw[←h0];exact this⟩
  rw[hu] at h1;unfold gO at h0 h1 ⊢;rw[h0];exact h1
def KN (k:Key) (s:Nat):Prop:=match k with
 | .none|.rd _=>False
 | .tk t|.wr t=>s=t
 | .lend l=>s∈l
 | .all=>True
theorem KW.names {k:Key} {f:Nat→Option (List CV)} {bs:List (Nat×List CV)} (h:KW k f bs):∀ x∈bs,KN k x.1:=fun x hx=>by
 have:=h x hx
 cases k<;>first|exact this|exact this.1
theorem gC {ki kj:Key} (hc:ki.clash kj=false) {s t:Nat} (hi:KN ki s) (hj:KN kj t):s≠t:=by
 intro e;subst e;cases ki<;>cases kj<;>simp only[KN] at hi hj<;>simp[Key.clash,Key.sees] at hc<;>first
  | exact hc (hi.symm.trans hj)
  | exact hc (hj.symm.trans hi)
  | exact hc _ hj hi.symm
  | exact hc _ hi hj.symm
  | exact hc _ hj hi
  | exact hc _ hi hj
  | (subst hi;exact hc _ hj rfl)
  | (subst hj;exact hc _ hi rfl)
theorem pT {ki kj:Key} {bi:List (Nat×List CV)} {f:Nat→Option (List CV)} (hc:ki.clash kj=false) (hi:KW ki f bi):qX kj f (aj f bi):=by
 have other:∀ s,(∀ t,KN ki t→t≠s)→f s=aj f bi s:=fun s hs=>by
  rw[ej fun x hx=>hs x.1 (hi.names x hx)]
 cases kj with
 | none=>exact trivial
 | rd s =>
  by_cases htk:∃ t,ki=.tk t
  ·obtain⟨t,rfl⟩:=htk;by_cases hts:t=s
   ·subst hts;exact rC hi
   ·show gO (f s) (aj f bi s)
    rw[other s fun u hu e=>hts (by rw[←e];exact hu.symm)]
    exact rfl
  ·show gO (f s) (aj f bi s)
   rw[other s fun u hu e => ?_]
   ·exact rfl
   ·subst e;cases ki<;>simp only[KN] at hu<;>simp[Key.clash,Key.sees] at hc
    ·exact htk ⟨_,rfl⟩
    ·first|exact hc hu.symm|exact hc hu
    ·exact hc _ hu rfl
 | tk s=>exact other s fun t ht=>gC hc ht (show KN (.tk s) s from rfl)
 | wr s=>exact other s fun t ht=>gC hc ht (show KN (.wr s) s from rfl)
 | lend l=>exact fun s hs=>other s fun t ht=>gC hc ht (show KN (.lend l) s from hs)
 | all =>
  have:bi=[]:=by
   cases bi with
   | nil=>rfl
   | cons x bi =>
    have:=hi x (by simp)
    cases ki<;>simp_all [Key.clash]
  subst this;exact rfl
theorem vq (ki kj:Key):ki.clash kj=kj.clash ki:=by
 cases ki<;>cases kj<;>simp[Key.clash,Key.sees,Bool.beq_comm]
 rw[Bool.eq_iff_iff];simp only[List.any_eq_true,Key.sees,List.contains_iff_mem];exact⟨fun ⟨x,h1,h2⟩=>⟨x,h2,h1⟩,fun ⟨x,h1,h2⟩=>⟨x,h2,h1⟩⟩
theorem commute {κ:Nat→Key} {i j:Nat} (hoi:ops[i]? = some oi) (hoj:ops[j]? = some oj) (hap:apart2 ops (aH ops) oi oj=true) (hk:(κ i).clash (κ j)=false)
  (h1:doOp K call ops κ i S S1) (h2:doOp K call ops κ j S1 S2):∃ S1',doOp K call ops κ j S S1'∧doOp K call ops κ i S1' S2:=by
 unfold doOp at h1 h2;rw[hoi] at h1;rw[hoj] at h2;obtain⟨h1,hk1⟩:=h1;obtain⟨h2,hk2⟩:=h2;obtain⟨vi,di,bi,hdi,hai⟩:=gN.1 h1;obtain⟨vj,dj,bj,hdj,haj⟩:=gN.1 h2;obtain⟨hsi,hbi⟩:=ja hdi;obtain⟨hsj,hbj⟩:=ja hdj;rw[hk1] at hbi;rw[hk2] at hbj;have hx:∀ x∈bi, ∀ y∈bj,x.1≠y.1:=fun x hx y hy=>gC hk (hbi.names x hx) (hbj.names y hy)
 obtain⟨hw1,hw2⟩:=um hap;obtain⟨n1,x1,l1,s1⟩:=nr hai;obtain⟨n2,x2,l2,s2⟩:=nr haj;have wi:∀ t,oi.dst=some t∨di=some t→t∈fI (aH ops) oi:=fun t ht=>by
  unfold fI;rcases ht with ht|ht
  ·exact List.mem_append_left _ (by simp[ht])
  ·exact List.mem_append_right _ (hsi t ht)
 have wj:∀ t,oj.dst=some t∨dj=some t→t∈fI (aH ops) oj:=fun t ht=>by
  unfold fI;rcases ht with ht|ht
  ·exact List.mem_append_left _ (by simp[ht])
  ·exact List.mem_append_right _ (hsj t ht)
 have look1:∀ t∈oj.looksAt ops.toArray,S.sl t=S1.sl t:=fun t ht=>by
  rw[s1 t,if_neg (fun e=>(hw1 t (wi t (.inl e))).1 ht),if_neg (fun e=>(hw1 t (wi t (.inr e))).1 ht)]
 have hkey:eP ops oj S=κ j:=by rw[kW look1];exact hk2
 have hdj':delta K call ops oj S=some (.val vj dj bj):=by
  rw[mI look1 (by rw[hkey,x1];exact pT hk hbi)];exact hdj
 have hbj':=(ja hdj').2
 rw[hkey] at hbj';obtain⟨S1',ha'⟩:=yx (S:=S) (dst:=oj.dst) (v:=vj) (dg:=dj) (bs:=bj) (fun d hd=>by rw[←n1];exact l2 d hd)
 obtain⟨n3,x3,l3,s3⟩:=nr ha';have look2:∀ t∈oi.looksAt ops.toArray,S.sl t=S1'.sl t:=fun t ht=>by
  rw[s3 t,if_neg (fun e=>hw2 t (wj t (.inl e)) ht),if_neg (fun e=>hw2 t (wj t (.inr e)) ht)]
 have hkey2:eP ops oi S1'=κ i:=by rw[←kW look2];exact hk1
 have hdi':delta K call ops oi S1'=some (.val vi di bi):=by
  rw[←mI look2 (by rw[hk1,x3];exact pT (by rw[vq];exact hk) hbj')];exact hdi
 obtain⟨S2',ha2⟩:=yx (S:=S1') (dst:=oi.dst) (v:=vi) (dg:=di) (bs:=bi) (fun d hd=>by rw[n3];exact l1 d hd)
 obtain⟨n4,x4,l4,s4⟩:=nr ha2;have heq:S2'=S2:=by
  refine St.ext' (by rw[n4,n3,n2,n1]) (by rw[x4,x3,x2,x1];exact pD (fun x hx' y hy e=>hx y hy x hx' e.symm) _) fun t => ?_
  rw[s4 t,s3 t,s2 t,s1 t];have e1:oi.dst=some t→¬ oj.dst=some t∧¬ dj=some t:=fun e=>⟨fun e'=>(hw1 t (wi t (.inl e))).2 (wj t (.inl e')),fun e'=>(hw1 t (wi t (.inl e))).2 (wj t (.inr e'))⟩
  have e2:di=some t→¬ oj.dst=some t∧¬ dj=some t:=fun e=>⟨fun e'=>(hw1 t (wi t (.inr e))).2 (wj t (.inl e')),fun e'=>(hw1 t (wi t (.inr e))).2 (wj t (.inr e'))⟩
  by_cases c1:oi.dst=some t
  ·obtain⟨c2,c3⟩:=e1 c1;rw[if_pos c1,if_neg c2,if_neg c3,if_pos c1]
  ·rw[if_neg c1];by_cases c4:di=some t
   ·obtain⟨c2,c3⟩:=e2 c4;rw[if_pos c4,if_neg c2,if_neg c3,if_neg c2,if_neg c3,if_neg c1,if_pos c4]
   ·rw[if_neg c4,if_neg c1,if_neg c4]
 subst heq;refine⟨S1',?_,?_⟩
 ·unfold doOp;rw[hoj];exact⟨gN.2 ⟨vj,dj,bj,hdj',ha'⟩,hkey⟩
 ·unfold doOp;rw[hoi];exact⟨gN.2 ⟨vi,di,bi,hdi',ha2⟩,hkey2⟩
def nT (K:Cfg) (call:CallF) (ops:List Oper) (κ:Nat→Key) (stop:Array Bool):Nat→Array Bool→St→St→Prop
 | 0,listed,S,S'=>listed=stop∧S=S'
 | n+1,listed,S,S' =>
  Region.ready .any ops.toArray listed≠[]∧∀ i∈Region.ready .any ops.toArray listed, ∃ S1,doOp K call ops κ i S S1∧nT K call ops κ stop n (listed.setIfInBounds i true) S1 S'
def Closed (ops:List Oper) (listed:Array Bool):Prop :=
 ∀ (k:Nat) (o:Oper),ops[k]? = some o→listed.getD k false=true→∀ e∈o.after,Region.binds .any e=true→listed.getD e.on false=true
theorem lu {listed:Array Bool} (hc:Closed ops listed):∀ (n j i:Nat),listed.getD j false=true→reach ops n j i=true→listed.getD i false=true
 | 0,_,_,_,h=>by cases h
 | n+1,j,i,hj,h=>by
  unfold reach at h;cases ho:ops[j]? with
  | none=>rw[ho] at h;cases h
  | some o =>
   rw[ho] at h;simp only[Bool.or_eq_true] at h;rcases h with h|h
   ·unfold dM at h;rw[List.any_eq_true] at h;obtain⟨e,he,h2⟩:=h;simp only[Bool.and_eq_true,beq_iff_eq] at h2;have:=hc j o ho hj e (by simpa using he) h2.1
    rw[h2.2] at this;exact this
   ·rw[List.any_eq_true] at h;obtain⟨e,he,h2⟩:=h;simp only[Bool.and_eq_true] at h2;exact lu hc n e.on i (hc j o ho hj e (by simpa using he) h2.1) h2.2
theorem rU {listed:Array Bool} (hc:Closed ops listed) {n j i:Nat} (hj:j∈Region.ready .any ops.toArray listed) (h:reach ops n j i=true):listed.getD i false=true:=by
 obtain⟨_,o,ho,hall⟩:=mem_ready.1 hj;have ho':ops[j]? = some o:=by simpa using ho
 cases n with
 | zero=>cases h
 | succ n =>
  unfold reach at h;rw[ho'] at h;simp only[Bool.or_eq_true] at h;rcases h with h|h
  ·unfold dM at h;rw[List.any_eq_true] at h;obtain⟨e,he,h2⟩:=h;simp only[Bool.and_eq_true,beq_iff_eq] at h2;have:=hall e (by simpa using he) h2.1
   rw[h2.2] at this;exact this
  ·rw[List.any_eq_true] at h;obtain⟨e,he,h2⟩:=h;simp only[Bool.and_eq_true] at h2;exact lu hc n e.on i (hall e (by simpa using he) h2.1) h2.2
theorem uW {listed:Array Bool} (hc:Closed ops listed) {j:Nat} (hj:j∈Region.ready .any ops.toArray listed):Closed ops (listed.setIfInBounds j true):=by
 intro k o ho hk e he hb;obtain⟨_,oj,hoj,hall⟩:=mem_ready.1 hj;by_cases hkj:k=j
 ·subst hkj;have:oj=o:=by
   have:ops[k]? = some oj:=by simpa using hoj
   rw[ho] at this;exact(Option.some.inj this).symm
  subst this;exact getD_set_true (hall e he hb)
 ·rw[getD_set_ne false (Ne.symm hkj)] at hk;exact getD_set_true (hc k o ho hk e he hb)
theorem unlisted {listed:Array Bool} {i:Nat} (hi:i∈Region.ready .any ops.toArray listed):listed.getD i false=false:=by
 have h0:=(mem_ready.1 hi).1
 rcases Nat.lt_or_ge i listed.size with h'|h'
 ·simp[h'] at h0 ⊢;exact h0
 ·simp[Array.getElem?_eq_none h'] at h0
theorem wC {κ:Nat→Key} {i m:Nat} {stop:Array Bool} (hi:ops[i]? = some oi) (hstop:∀ j,j<m→stop.getD j true=true) (hpost:∀ (j:Nat) (oj:Oper),ops[j]? = some oj→m≤j→dM oj i=true) :
  ∀ (fuel:Nat) (listed:Array Bool) (S S1 S':St),Closed ops listed →
  (∀ (j:Nat) (oj:Oper),ops[j]? = some oj→j≠i→listed.getD j true=false→dM oj i=false→apart2 ops (aH ops) oi oj=true) →
  (∀ (j:Nat) (oj:Oper),ops[j]? = some oj→j≠i→listed.getD j true=false→(κ i).clash (κ j)=true→reach ops ops.length j i=true) →
  i∈Region.ready .any ops.toArray listed→doOp K call ops κ i S S1→nT K call ops κ stop fuel (listed.setIfInBounds i true) S1 S'→nT K call ops κ stop (fuel+1) listed S S':=by
 have nodir:∀ {listed:Array Bool} {j:Nat} {oj:Oper},i∈Region.ready .any ops.toArray listed→ops[j]? = some oj→(∀ e∈oj.after,Region.binds .any e=true→listed.getD e.on false=true)→dM oj i=false:=fun {listed j oj} hr _ hall=>by
  have hin:=unlisted hr
  cases hda:dM oj i with
  | false=>rfl
  | true =>
   unfold dM at hda;rw[List.any_eq_true] at hda;obtain⟨e,he,h2⟩:=hda;simp only[Bool.and_eq_true,beq_iff_eq] at h2;have:=hall e (by simpa using he) h2.1
   rw[h2.2,hin] at this;cases this
 intro fuel
 induction fuel with
 | zero =>
  intro listed S S1 S' _ _ _ hr hd H;refine⟨fun h=>(by rw[h] at hr;cases hr),fun j hj => ?_⟩
  by_cases hji:j=i
  ·subst hji;exact⟨S1,hd,H⟩
  ·exfalso
   obtain⟨hjun,oj,hoj,hall⟩:=mem_ready.1 hj;have hoj':ops[j]? = some oj:=by simpa using hoj
   rcases Nat.lt_or_ge j m with hlt|hge
   ·have h1:=hstop j hlt
    rw[←H.1,getD_set_ne true (Ne.symm hji),hjun] at h1;cases h1
   ·have h1:=nodir hr hoj' hall
    rw[hpost j oj hoj' hge] at h1;cases h1
 | succ fuel ih =>
  intro listed S S1 S' hc hfree hkey hr hd H;refine⟨fun h=>(by rw[h] at hr;cases hr),fun j hj => ?_⟩
  by_cases hji:j=i
  ·subst hji;exact⟨S1,hd,H⟩
  ·obtain⟨S2,hd2,H2⟩:=H.2 j (ready_mono hj hji);obtain⟨hjun,oj,hoj,hall⟩:=mem_ready.1 hj;have hoj':ops[j]? = some oj:=by simpa using hoj
   have hin:=unlisted hr
   have hnd:dM oj i=false:=nodir hr hoj' hall
   have hnc:(κ i).clash (κ j)=false:=by
    cases hcl:(κ i).clash (κ j) with
    | false=>rfl
    | true =>
     have:=rU hc hj (hkey j oj hoj' hji hjun hcl)
     rw[hin] at this;cases this
   obtain⟨S1',h3,h4⟩:=commute hi hoj' (hfree j oj hoj' hji hjun hnd) hnc hd hd2;refine⟨S1',h3,ih (listed.setIfInBounds j true) S1' S2 S' (uW hc hj) (fun k ok hk hki hun hno=>hfree k ok hk hki ?_ hno) (fun k ok hk hki hun hcl=>hkey k ok hk hki ?_ hcl) (ready_mono hr (Ne.symm hji)) h4 ?_⟩
   ·by_cases hjk:j=k
    ·subst hjk;exact hjun
    ·rw[getD_set_ne true hjk] at hun;exact hun
   ·by_cases hjk:j=k
    ·subst hjk;exact hjun
    ·rw[getD_set_ne true hjk] at hun;exact hun
   ·rw[Array.setIfInBounds_comm _ _ hji];exact H2
end
end Go.Abs
namespace Go.Abs
open Go
section
variable {P:Program} {G G':Gh} {w w':World} {S:St} {a:Act} {x y:Value}
structure Pend (G:Gh) (w:World) (ℓ:Own) (e:TypeId) (sz:Nat) (c:List (List PV)) (b cap:Nat):Prop where
 ow:G.ow b=some ℓ
 row:∃ cur,w.heap[b]? = some (.cells cur e (0,0))∧cap*sz=cur.size
 cap:c.length+1≤cap
 pos:0<sz
 szs:∀ el∈c,el.length=sz
 seg:Seg G.I b 0 sz c
 free:∀ o,c.length*sz≤o→G.I b o=none
theorem Pend.gr {ch:Own→Prop} {ℓ:Own} {e:TypeId} {sz:Nat} {c:List (List PV)} {b cap:Nat} (h:Pend G w ℓ e sz c b cap) (g:Gr ch G w G' w') (hc:¬ ch ℓ):Pend G' w' ℓ e sz c b cap:=by
 obtain⟨k1,k2,k3⟩:=g.keep b ℓ h.ow hc;obtain⟨cur,h1,h2⟩:=h.row;exact⟨k1,⟨cur,k2.trans h1,h2⟩,h.cap,h.pos,h.szs,h.seg.mono g.ext.I,fun o ho=>(k3 o).trans (h.free o ho)⟩
theorem yk (hw:WI G w) {ℓ ℓ':Own} {b:Nat} {cur new:Array Value} {e:TypeId} (hg:w.heap[b]? = some (.cells cur e (0,0))) (ho:G.ow b=some ℓ) (hℓ:∀ s,ℓ≠.box s) (hℓ':∀ s,ℓ'≠.box s)
  (hkeep:∀ k y,G.I b k=some y→new[k]? = some y):Gr (fun o=>o=ℓ) G w (G.give b ℓ') (w.setRow b new)∧WI (G.give b ℓ') (w.setRow b new):=by
 obtain⟨g,hw'⟩:=rJ (ℓ':=ℓ') hw ho hℓ hℓ';refine⟨⟨⟨g.ext.I,fun c hc hn=>⟨(g.ext.old c hc hn).1,setRow_other w b c new (fun e=>by rw[e,ho] at hn;cases hn),fun _=>rfl⟩,by rw[dI];exact Nat.le_refl _,rfl,rfl,rfl,fun _ _=>rfl⟩,g.bb,
  fun c m hm hne=>⟨(g.keep c m hm hne).1,setRow_other w b c new (fun e=>hne (by rw[e,ho] at hm;exact(Option.some.inj hm).symm)),fun _=>rfl⟩⟩,
  ⟨fun c k y h => ?_,fun c hc=>hw'.fresh c (by rw[dI] at hc;exact hc),hw'.boxI,hw'.bbow,hw.tab.map fun c hc hn=>⟨(g.ext.old c hc hn).1,setRow_other w b c new (fun e=>by rw[e,ho] at hn;cases hn)⟩⟩⟩
 have h':G.I c k=some y:=h
 by_cases hcb:c=b
 ·subst hcb;rw[fB hg];exact hkeep k y h'
 ·rw[cell_setRow_other w b new ⟨c,k,none⟩ hcb];exact hw.cell c k y h'
theorem AF (hw:WI G w) {c:List (List PV)} {ys:List Value} {arr:Array Value} {e:TypeId} {sz cap:Nat} {ℓ:Own} (hpos:0<sz) (hsz:∀ el∈c,el.length=sz) (hys:All2 (RP G.I) c.flatten ys)
  (harr:∀ (k:Nat) (y:Value),ys[k]? = some y→arr[k]? = some y) (hcap:c.length+1≤cap) (hsize:cap*sz=arr.size) (hℓ:∀ s,ℓ≠.box s) :
  ∃ G',Gr (fun _=>False) G w G' (w.alloc (.cells arr e))∧WI G' (w.alloc (.cells arr e))∧G'.bb=G.bb∧Pend G' (w.alloc (.cells arr e)) ℓ e sz c w.heap.size cap:=by
 have hl:=ef sz c hsz
 have hyl:ys.length=c.length*sz:=by rw[←hys.length,hl]
 obtain⟨g,hw'⟩:=jN hw (cs:=arr) (ty:=e) (fz:=(0,0)) (f:=fun k=>ys[k]?) (o:=some ℓ) harr (fun s h=>hℓ s (Option.some.inj h))
 refine⟨_,g,hw',rfl,by simp[Gh.row,upd],⟨arr,heap_alloc_new w _,hsize⟩,hcap,hpos,hsz,?_,fun o ho => ?_⟩
 ·refine eV hsz (ys:=ys) (fun k y h => ?_) (hys.imp fun p y _ h=>h.mono g.ext.I)
  show (if w.heap.size=w.heap.size then _ else _)=_
  rw[if_pos rfl,Nat.zero_add];exact h
 ·show (if w.heap.size=w.heap.size then _ else _)=_
  rw[if_pos rfl,List.getElem?_eq_none (by omega)]
theorem lQ {v:AV} {ca:List (List PV)} (h:aN v=some ca):content v=some ca:=by
 unfold aN at h;split at h<;>first|exact h|cases h
theorem Gr.weaken {ch ch':Own→Prop} (g:Gr ch G w G' w') (h:∀ o,ch o→ch' o):Gr ch' G w G' w':=⟨g.ext,g.bb,fun b ℓ hb hn=>g.keep b ℓ hb fun hc=>hn (h ℓ hc)⟩
theorem tH {t e ty:TypeId} {s d:Nat} {X v0:AV} {ca:List (List PV)} {pl:List PV} {ℓ:Own} {sz:Nat} (ht:P.underlying t=some (.slice e)) (h:eW P [t,t] (S.sl s) X=some v0) (hca:aN (S.sl s)=some ca)
  (hpl:content X=some [pl]) (hs:szOf P e=some sz) (hf:FR G w S a) (hw:WI G w) (hX:RA G w ℓ X y) :
  ∃ w' G' b cap,(Builtin.append_ #[t,t] ty #[a.tmps.getD s undef,y]).run P w=.ok (.slice (some ⟨b,0,none⟩) (ca.length+1) cap) w'∧Gr (fun o=>o=.slot s) G w G' w'∧WI G' w'∧G'.bb=G.bb∧Pend G' w' (.slot d) e sz ca b cap:=by
 unfold eW at h;simp only[ht] at h;split at h
 case h_1=>cases h
 case h_2=>cases h
 case h_4=>cases h
 rename_i c1 cb i hc1 hcb hi hnp _;have e1:=lQ hca
 rw[e1] at hc1;cases hc1;have e2:cb=[pl]:=by
  simp only[fy,ht,hpl] at hcb;exact(Option.some.inj hcb).symm
 subst e2;have hsi:sz=i.size:=by
  unfold szOf at hs;rw[hi] at hs;exact(Option.some.inj hs).symm
 subst hsi;split at h
 case isFalse=>cases h
 rename_i hcond;obtain⟨hlim,hby,hpos,hz,hsa,hsb,hot⟩:=hcond;have hsa':∀ el∈ca,el.length=i.size:=fun el hel=>by simpa using List.all_eq_true.1 hsa el hel
 have hsb':∀ el∈[pl],el.length=i.size:=fun el hel=>by simpa using List.all_eq_true.1 hsb el hel
 cases hzz:i.zero with
 | none=>simp[hzz] at hz
 | some z =>
 have hzs:z.cells.size=i.size:=by simpa[hzz] using hz
 obtain⟨hu,news,hnews,hnall⟩:=qp hcb hw hX hpos hsb';have A:AppT P t t e i z:=⟨ht,hu,hi,hzz,hzs,hpos,hby⟩
 have hS:=hf.slot s
 have hnl:news.length=i.size:=by rw[←hnall.length,ef _ _ hsb'];simp
 have hnews:Brings P w i.size 1 y news:=by simpa using hnews
 have newrow:∀ (ad:Option Addr) (cap:Nat) (olds:List Value),a.tmps.getD s undef=.slice ad ca.length cap→(Builtin.firstCells i.size ca.length (.slice ad ca.length cap)).run P w.drew=.ok olds.toArray w.drew→All2 (RP G.I) ca.flatten olds→cap<ca.length+1 →
   ∃ w' G' b cap',(Builtin.append_ #[t,t] ty #[a.tmps.getD s undef,y]).run P w=.ok (.slice (some ⟨b,0,none⟩) (ca.length+1) cap') w'∧Gr (fun o=>o=.slot s) G w G' w'∧WI G' w'∧G'.bb=G.bb∧Pend G' w' (.slot d) e i.size ca b cap':=by
  intro ad cap olds he hold hos hcap;rw[he];have hrun:=fp (ty:=ty) A (ad:=ad) (n:=ca.length) (m:=1) (cap:=cap) hnews hold hcap (by simpa using hlim)
  obtain⟨gd,hwd⟩:=eA hw;have hge:=grownCap_ge w (ca.length+1) cap e
  have hol:olds.length=ca.length*i.size:=by rw[←hos.length,ef _ _ hsa']
  obtain⟨G',g,hw',hbb,hp⟩:=AF (w:=w.drew) (ℓ:=.slot d) (c:=ca) (ys:=olds) (arr:=olds.toArray++news.toArray++Builtin.zeroCells z.cells (grownCap w (ca.length+1) cap e - (ca.length+1))) (e:=e) (cap:=grownCap w (ca.length+1) cap e) hwd hpos hsa' hos
   (fun k y hk=>by
    have hlt:=(List.getElem?_eq_some_iff.1 hk).1
    rw[Array.append_assoc,Array.getElem?_append_left (by simpa using hlt)];simpa using hk) hge
   (by
    simp only[Array.size_append,List.size_toArray,eO,hzs,hnl,hol];rw[←Nat.succ_mul,←Nat.add_mul]
    congr 1;omega) (by simp)
  exact⟨_,G',_,_,hrun,(gd.trans g).weaken (fun o h=>by simp at h),hw',hbb,hp⟩
 have hcases:(∃ ad,a.tmps.getD s undef=.slice ad 0 0∧ca=[])∨(ca≠[]∧OwnAt G w (.slot s) e ca (a.tmps.getD s undef)):=by
  unfold aN at hca;split at hca
  ·rename_i e' c' heq;cases hca;rw[heq] at hS;have hS':OwnAt G w (.slot s) e' ca (a.tmps.getD s undef):=hS
   rcases hS' with⟨h1,ad,h2,h3⟩|h1
   ·exact .inl ⟨ad,h2,h1⟩
   ·have hee:e'=e:=by
     rw[heq] at hot;rcases hot with hot|hot|hot
     ·cases hot
     ·exact Option.some.inj hot
     ·exact absurd (by simpa using hot) h1.1
    subst hee;exact .inr ⟨h1.1,.inr h1⟩
  ·rename_i heq;cases hca;rw[heq] at hS;exact .inl ⟨none,hS,rfl⟩
  ·cases hca
 rcases hcases with⟨ad,h1,rfl⟩|⟨hne,hown⟩
 ·exact newrow ad 0 [] h1 (by cases ad<;>simp[Builtin.firstCells,loadCells,loadCellsFrom]) .nil (by simp)
 ·rcases hown with⟨h0,_⟩|⟨_,b,cap,cur,sz,hx,how,hheap,hcap,hcur,hsz0,hszs,hseg,hfree⟩
  ·exact absurd h0 hne
  have hsz:sz=i.size:=by
   cases ca with
   | nil=>exact absurd rfl hne
   | cons el c=>rw[←hszs el (by simp),hsa' el (by simp)]
  subst hsz;obtain⟨ys,hy1,hy2,hy3⟩:=fj hpos hsa' hseg;by_cases hroom:ca.length+1≤cap
  ·rw[hx];have hfit:ca.length*i.size+news.length≤cur.size:=by rw[hnl,←hcur,←Nat.succ_mul];exact Nat.mul_le_mul_right _ hroom
   have hrun:=kw (ty:=ty) A (g:=b) (n:=ca.length) (m:=1) (cap:=cap) hnews hheap hroom hfit (gj hnall)
   obtain⟨g,hw'⟩:=yk (ℓ':=.slot d) (new:=(cur.toList.take (ca.length*i.size)++news++cur.toList.drop (ca.length*i.size+news.length)).toArray) hw hheap how (by simp) (by simp) (fun k y hk=>by
    have hlt:k<ca.length*i.size:=by
     rcases Nat.lt_or_ge k (ca.length*i.size) with h|h
     ·exact h
     ·rw[hfree k h] at hk;cases hk
    rw[gg _ _ _ hfit,if_neg (by omega)]
    have:=hw.cell b k y hk
    rw[aa hheap] at this;exact this)
   refine⟨_,_,b,cap,hrun,g,hw',rfl,by simp[Gh.give,upd],⟨_,setRow_heap w b cur _ e _ hheap,by rw[fL _ _ _ hfit];exact hcur⟩,hroom,hpos,hsa',hseg,hfree⟩
  ·refine newrow _ cap ys hx ?_ hy3 (by omega)
   refine run_firstCells_some (P:=P) w.drew i.size ca.length ⟨b,0,none⟩ ca.length cap ys hy1 fun j y hj => ?_
   have hadd:(⟨b,0,none⟩:Addr).add j=⟨b,0+j,none⟩:=by simp only[Addr.add];split<;>simp_all
   rw[hadd];exact(eA hw).2.cell _ _ _ (hy2 j y hj)
theorem FR.top (h:FR G w S a) (l:List Nat):FR G w { S with sl:=kZ S.sl l } a :=
 ⟨h.size,fun t=>by show RA G w _ (kZ S.sl l t) _;unfold kZ;split;exact trivial;exact h.slot t,h.box,h.nob⟩
theorem FR.gr_slot (h:FR G w S a) (hw:WI G w) {d:Nat} (g:Gr (fun ℓ=>ℓ=.slot d) G w G' w') (hbb:G'.bb=G.bb) (ht:S.sl d=.c .top):FR G' w' S a :=
 ⟨h.size,fun t=>by
  by_cases htd:t=d
  ·subst htd;rw[ht];exact trivial
  ·exact(h.slot t).gr g (fun e=>htd (by cases e;rfl)),fun s l hl=>(h.box s l hl).gr hw g (by simp) (by simp),fun s hs hlk=>by rw[hbb];exact h.nob s hs hlk⟩
theorem FR.put_top (h:FR G w S a) {d:Nat} (ht:S.sl d=.c .top) (z:Value):FR G w S (a.put (some d) z) :=
 ⟨by simpa[Act.put] using h.size,fun t=>by
  rw[Act.getD_put];by_cases htd:t=d
  ·subst htd;rw[ht];exact trivial
  ·rw[if_neg (fun e=>htd e.1)];exact h.slot t,h.box,h.nob⟩
theorem xb (hf:FR G w S a) (hw:WI G w) {bs bP off:Nat} {cells:List CV} (hbx:S.bx bs=some cells) (hbb:G.bb bs=some bP) (hlt:off<cells.length) {v:Value} (hv:v.oneCell'=true) {t:TypeId} (hs:szOf P t=some 1) :
  ∃ w',(Instr.storeAt t (.pointer (some ⟨bP,off,none⟩)) v).run P w=.ok () w'∧Gr (fun ℓ=>ℓ=.box bs) G w G w'∧WI G w'∧FR G w' { S with bx:=upd S.bx bs (some (bV cells off [.top])) } a∧∃ cs ty,w'.heap[bP]? = some (.cells cs ty (0,0))∧cs[off]? = some v:=by
 obtain⟨b',cs,ty,hb',hh,⟨hcs,hbl⟩,hcells⟩:=hf.box bs cells hbx;rw[hbb] at hb';cases hb';have hfit:off+[v].length≤cs.size:=by simp;omega
 have hrun:=jk (P:=P) (t:=t) (xs:=[v]) hh (ic hv) hs hfit (by simpa using hv)
 obtain⟨g,hw'⟩:=mm hw (s:=bs) hbb hh (new:=(cs.toList.take off++[v]++cs.toList.drop (off+[v].length)).toArray);refine⟨_,hrun,g,hw',⟨hf.size,fun t=>(hf.slot t).gr g (by simp),fun s l hl => ?_,fun s hs hlk => ?_⟩,_,ty,setRow_heap w bP cs _ ty _ hh,?_⟩
 ·have hl':upd S.bx bs (some (bV cells off [.top])) s=some l:=hl
  unfold upd at hl';split at hl'
  ·rename_i he;subst he;cases hl';refine⟨bP,_,ty,hbb,setRow_heap w bP cs _ ty _ hh,⟨by rw[fL _ _ _ hfit,eD _ _ _ (by simp;omega),hcs],fun e => ?_⟩,fun k u hu => ?_⟩
   ·rw[eu _ _ _ hlt] at e
    split at e
    ·cases e
    ·exact hbl e
   ·rw[eu _ _ _ hlt] at hu;rw[gg _ _ _ hfit];split at hu
    ·rename_i hk;subst hk;cases hu;rw[if_pos (by simp)]
     exact⟨v,by simp,hv⟩
    ·rename_i hk;rw[if_neg (by simp;omega)]
     obtain⟨z,h1,h2⟩:=hcells _ _ hu;exact⟨z,h1,h2.gr g (by simp)⟩
  ·rename_i he;exact(hf.box s l hl').gr hw g (fun e=>he (by cases e;rfl)) (by simp)
 ·have hs':upd S.bx bs (some (bV cells off [.top])) s=none:=hs
  unfold upd at hs';split at hs'
  ·cases hs'
  ·exact hf.nob s hs' hlk
 ·rw[gg _ _ _ hfit,if_pos (by simp)];simp
theorem uT (hf:FR G w S a) (hw:WI G w) {d b cap sz:Nat} {e:TypeId} {ca:List (List PV)} {ps:List PV} (ht:S.sl d=.c .top) (hp:Pend G w (.slot d) e sz ca b cap) {v:Value} {xs:List Value} (hc:v.cells=xs.toArray) (hxs:All2 (RP G.I) ps xs) (hl:ps.length=sz) (hs:szOf P e=some sz) :
  ∃ w' G',(Instr.storeAt e (.pointer (some ⟨b,ca.length*sz,none⟩)) v).run P w=.ok () w'∧Gr (fun ℓ=>ℓ=.slot d) G w G' w'∧WI G' w'∧FR G' w' S a∧G'.bb=G.bb∧OwnAt G' w' (.slot d) e (ca++[ps]) (.slice (some ⟨b,0,none⟩) (ca.length+1) cap):=by
 obtain⟨cur,hrow,hcur⟩:=hp.row;have hxl:xs.length=sz:=by rw[←hxs.length,hl]
 have hfit:ca.length*sz+xs.length≤cur.size:=by rw[hxl,←hcur,←Nat.succ_mul];exact Nat.mul_le_mul_right _ hp.cap
 have hone:=gj hxs
 have hrun:=jk (P:=P) (t:=e) (xs:=xs) hrow hc (by rw[hxl];exact hs) hfit hone
 obtain⟨g,hw'⟩:=qr (ℓ':=.slot d) hw hrow hfit hp.ow (by simp) (by simp) hp.free
 have hlens:∀ el∈ca++[ps],el.length=sz:=fun el hel=>by
  rcases List.mem_append.1 hel with h|h
  ·exact hp.szs el h
  ·simp at h;subst h;exact hl
 refine⟨_,_,hrun,g,hw',hf.gr_slot hw g rfl ht,rfl,.inr ⟨by simp,b,cap,_,sz,by simp,by simp[Gh.ext,upd],setRow_heap w b cur _ e _ hrow,by simpa using hp.cap,by rw[fL _ _ _ hfit];exact hcur,hp.pos,hlens,?_,fun o ho => ?_⟩⟩
 ·obtain⟨ys,hy1,hy2,hy3⟩:=fj hp.pos hp.szs hp.seg;refine eV hlens (ys:=ys++xs) (fun k y hk => ?_) ?_
  ·show (if b=b∧ca.length*sz≤0+k∧0+k<ca.length*sz+xs.length then xs[0+k - ca.length*sz]? else G.I b (0+k))=_
   by_cases hlt:k<ys.length
   ·rw[List.getElem?_append_left hlt] at hk
    rw[if_neg (by omega)];exact hy2 k y hk
   ·rw[List.getElem?_append_right (by omega)] at hk
    have hkl:=(List.getElem?_eq_some_iff.1 hk).1
    rw[if_pos ⟨rfl,by omega,by omega⟩,←hk]
    congr 1;omega
  ·rw[List.flatten_append];exact(hy3.append (by simpa using hxs)).imp fun p y _ h=>h.mono g.ext.I
 ·show (if b=b∧ca.length*sz≤o∧o<ca.length*sz+xs.length then xs[o - ca.length*sz]? else G.I b o)=none
  rw[List.length_append,Nat.add_mul] at ho;simp at ho;rw[if_neg (by omega)];exact hp.free o (by omega)
end
section
variable {o:Oper}
theorem qj {s l d t:Nat} (h:wn o=some (s,l,d,t)):(∃ c,o.op=.call c∧c.callee=.builtin .append∧c.args=#[.tmp s,.tmp l]∧c.argTypes=#[t,t])∧o.dst=some d∧o.guard=none:=by
 unfold wn at h;split at h
 ·rename_i c d' h1 h2 h3;split at h
  ·rename_i s' l' t' u h4 h5 h6;split at h
   ·rename_i e;subst e;cases h;exact⟨⟨c,h1,h4,Array.toList_inj.1 h5,Array.toList_inj.1 h6⟩,h2,h3⟩
   ·cases h
  ·cases h
 ·cases h
theorem tD {t x n d:Nat} (h:ixOf o=some (t,x,n,d)):o.op=.indexAddr t (.tmp x) (.tmp n)∧o.dst=some d∧o.guard=none:=by
 unfold ixOf at h;split at h
 ·rename_i h1 h2 h3;cases h;exact⟨h1,h2,h3⟩
 ·cases h
theorem gZ {t x v:Nat} (h:stOf o=some (t,x,v)):o.op=.store t (.tmp x) (.tmp v)∧o.dst=none∧o.guard=none:=by
 unfold stOf at h;split at h
 ·rename_i h1 h2 h3;cases h;exact⟨h1,h2,h3⟩
 ·cases h
theorem tK {x d:Nat} (h:ncOf o=some (x,d)):o.op=.nilCheck (.tmp x)∧o.dst=some d∧o.guard=none:=by
 unfold ncOf at h;split at h
 ·rename_i h1 h2 h3;cases h;exact⟨h1,h2,h3⟩
 ·cases h
theorem tP {t x f d:Nat} (h:faOf o=some (t,x,f,d)):o.op=.fieldAddr t (.tmp x) f∧o.dst=some d∧o.guard=none:=by
 unfold faOf at h;split at h
 ·rename_i h1 h2 h3;cases h;exact⟨h1,h2,h3⟩
 ·cases h
theorem kK {l:List Oper} {x:Push} (h:jr l=some x):∃ A I W N F H,l=[A,I,W,N,F,H]∧wn A=some (x.s,x.l,x.d,x.t)∧ixOf I=some (x.t,x.d,x.n,x.i)∧stOf W=some (x.e,x.i,x.v)∧ncOf N=some (x.p,x.q) ∧
  faOf F=some (x.st,x.q,x.fld,x.r)∧stOf H=some (x.t,x.r,x.d)∧ll [x.d,x.i,x.q,x.r,x.n]=true∧ll [x.d,x.i,x.q,x.r,x.v]=true∧ll [x.d,x.i,x.q,x.r,x.p]=true:=by
 unfold jr at h;split at h
 case h_2=>cases h
 rename_i A I W N F H;split at h
 case h_2=>cases h
 rename_i h1 h2 h3 h4 h5 h6;split at h
 case isFalse=>cases h
 rename_i hc;obtain⟨rfl,rfl,rfl,rfl,rfl,rfl,rfl,hn⟩:=hc;cases h;exact⟨A,I,W,N,F,H,rfl,h1,h2,h3,h4,h5,h6,hn⟩
end
section
variable {P:Program} {ops:List Oper} {Q:Exit→Act→World→Prop} {a:Act} {w w':World} {N:Act→World→Prop} {o:Oper} {i:Nat}
theorem iJ {z:Value} (ho:ops[i]? = some o) (hg:o.guard=none) (hr:(execOp a.eval o).run P w=.ok (.value z) w') (hk:N (a.put o.dst z) w'):wpOp P ops.toArray Q i N a w:=by
 unfold wpOp;have:ops.toArray[i]? = some o:=by simpa using ho
 simp only[this];rw[if_pos (by simp[Region.wanted,hg])]
 refine .inl ?_
 unfold Oper.wp;rw[hr,Oper.upon_value];exact hk
theorem pZ (ho:ops[i]? = some o) (hg:o.guard=none) (hr:(execOp a.eval o).run P w=.ok .skip w') (hk:N (a.put o.dst undef) w'):wpOp P ops.toArray Q i N a w:=by
 unfold wpOp;have:ops.toArray[i]? = some o:=by simpa using ho
 simp only[this];rw[if_pos (by simp[Region.wanted,hg])]
 refine .inl ?_
 unfold Oper.wp;rw[hr,Oper.upon_skip];exact hk
theorem BH (m:Nat) {i j:Nat} (hi:i<2):(fP m true i j).setIfInBounds (m+1+i) true=fP m true (i+1) j:=by
 unfold fP
 apply Array.ext'
 simp only[Array.toList_setIfInBounds];rw[List.set_append,if_neg (by simp;omega)]
 congr 1
 have:i=0∨i=1:=by omega
 rcases this with rfl|rfl<;>simp[Nat.add_assoc,Nat.add_sub_cancel_left]
theorem BV (m:Nat) {i j:Nat} (hj:j<3):(fP m true i j).setIfInBounds (m+3+j) true=fP m true i (j+1):=by
 unfold fP
 apply Array.ext'
 simp only[Array.toList_setIfInBounds];rw[List.set_append,if_neg (by simp;omega)]
 congr 1
 have:j=0∨j=1∨j=2:=by omega
 rcases this with rfl|rfl|rfl<;>simp[Nat.add_assoc,Nat.add_sub_cancel_left]
theorem Cb (m:Nat):(fP m false 0 0).setIfInBounds m true=fP m true 0 0:=by
 unfold fP
 apply Array.ext'
 simp only[Array.toList_setIfInBounds];rw[List.set_append,if_neg (by simp)]
 simp
end
section
variable {K:Cfg} {ops:List Oper} {Q:Exit→Act→World→Prop} {S S2 S3:St}
structure PI (x:Push) (ca:List (List PV)) (ps:List PV) (sz bs off0 off bP b cap:Nat) (S2 S3:St) (G0:Gh) (w0:World) (df:List Deferred) (i j:Nat) (G:Gh) (a:Act) (w:World):Prop where
 ext:Ext G0 w0 G w
 wi:WI G w
 fr:FR G w (if j=3 then S3 else S2) a
 df:a.defers=df
 hd:a.tmps.getD x.d undef=.slice (some ⟨b,0,none⟩) (ca.length+1) cap
 hn:∃ k,a.tmps.getD x.n undef=.int k ca.length
 hv:∃ xs:List Value,(a.tmps.getD x.v undef).cells=xs.toArray∧All2 (RP G.I) ps xs
 hp:a.tmps.getD x.p undef=.pointer (some ⟨bP,off0,none⟩)
 hbb:G.bb bs=some bP
 hi:1≤i→a.tmps.getD x.i undef=.pointer (some ⟨b,ca.length*sz,none⟩)
 hq:1≤j→a.tmps.getD x.q undef=.pointer (some ⟨bP,off0,none⟩)
 hr:2≤j→a.tmps.getD x.r undef=.pointer (some ⟨bP,off,none⟩)
 pend:i<2→Pend G w (.slot x.d) x.e sz ca b cap
 own:2≤i→OwnAt G w (.slot x.d) x.e (ca++[ps]) (.slice (some ⟨b,0,none⟩) (ca.length+1) cap)
 hdr:3≤j→∃ cs ty,w.heap[bP]? = some (.cells cs ty (0,0))∧cs[off]? = some (.slice (some ⟨b,0,none⟩) (ca.length+1) cap)
theorem lS {a b c d e:Nat} (h:ll [a,b,c,d,e]=true):a≠b∧a≠c∧a≠d∧a≠e∧b≠c∧b≠d∧b≠e∧c≠d∧c≠e∧d≠e:=by
 simp[ll] at h;obtain⟨⟨h1,h2,h3,h4⟩,⟨h5,h6,h7⟩,⟨h8,h9⟩,h10⟩:=h;exact⟨h1,h2,h3,h4,h5,h6,h7,h8,h9,h10⟩
theorem dC (a:Act) {d t:Nat} (z:Value) (h:t≠d):(a.put (some d) z).tmps.getD t undef=a.tmps.getD t undef:=by
 rw[Act.getD_put,if_neg (fun e=>h e.1)]
theorem gK (a:Act) {d:Nat} (z:Value) (h:d<a.tmps.size):(a.put (some d) z).tmps.getD d undef=z:=by
 rw[Act.getD_put,if_pos ⟨rfl,h⟩]
theorem AZ {x:Push} {m:Nat} {ca:List (List PV)} {ps:List PV} {sz bs off0 off bP b cap:Nat} {cells:List CV} {G0:Gh} {w0:World} {df:List Deferred}
  (hx:jr (ops.drop m)=some x) (ht:lU ops m=true) {e:TypeId} (hut:K.P.underlying x.t=some (.slice e)) (hee:e=x.e) (hsz:szOf K.P x.e=some ps.length) (hps:sz=ps.length) (hs1:szOf K.P x.t=some 1)
  (hfa:ar K.P x.st (.c (.loc bs off0)) x.fld=some (.c (.loc bs off))) (hlt:off<cells.length)
  (hS2:∀ t∈[x.d,x.i,x.q,x.r],S2.sl t=.c .top) (hnt:∀ t∈[x.d,x.i,x.q,x.r],t<S2.nt) (hb2:S2.bx bs=some cells) (hS3:S3 = { S2 with bx:=upd S2.bx bs (some (bV cells off [.top])) })
  (hQ:∀ a' w' G',PI x ca ps sz bs off0 off bP b cap S2 S3 G0 w0 df 2 3 G' a' w'→Q .normal a' w') :
  ∀ (k i j:Nat),i≤2→j≤3→(2 - i)+(3 - j)=k→∀ (G:Gh) (a:Act) (w:World),PI x ca ps sz bs off0 off bP b cap S2 S3 G0 w0 df i j G a w→wpAny K.P .any ops.toArray Q k (fP m true i j) a w:=by
 obtain⟨A,I,W,N,F,H,hl,hA,hI,hW,hN,hF,hH,hn1,hn2,hn3⟩:=kK hx;obtain⟨hI1,hI2,hI3⟩:=tD hI;obtain⟨hW1,hW2,hW3⟩:=gZ hW;obtain⟨hN1,hN2,hN3⟩:=tK hN;obtain⟨hF1,hF2,hF3⟩:=tP hF;obtain⟨hH1,hH2,hH3⟩:=gZ hH;obtain⟨ndi,ndq,ndr,ndn,niq,nir,nin,nqr,nqn,nrn⟩:=lS hn1;obtain⟨-,-,-,ndv,-,-,niv,-,nqv,nrv⟩:=lS hn2;obtain⟨-,-,-,ndp,-,-,nip,-,nqp,nrp⟩:=lS hn3;have at':∀ (k:Nat) (o:Oper),[A,I,W,N,F,H][k]? = some o→ops[m+k]? = some o:=fun k o h=>by rw[←hl,List.getElem?_drop] at h;exact h
 have hready:∀ i j,i≤2→j≤3→Region.ready .any ops.toArray (fP m true i j)=(if i<2 then [m+1+i] else [])++(if j<3 then [m+3+j] else []):=fun i j hi hj=>by
  unfold lU at ht;simp only[Bool.and_eq_true] at ht;have:=List.all_eq_true.1 ht.2 i (List.mem_range.2 (by omega))
  have:=List.all_eq_true.1 this j (List.mem_range.2 (by omega))
  simpa using this
 have h3:∀ t∈[x.d,x.i,x.q,x.r], ∀ j,(if j=3 then S3 else S2).sl t=.c .top:=fun t h j=>by
  split
  ·rw[hS3];exact hS2 t h
  ·exact hS2 t h
 have hn3':∀ j,(if j=3 then S3 else S2).nt=S2.nt:=fun j=>by split<;>first|rw[hS3]|rfl
 intro k
 induction k with
 | zero =>
  intro i j hi hj hk G a w h;have:i=2∧j=3:=by omega
  obtain⟨rfl,rfl⟩:=this;exact⟨by rw[hready 2 3 hi hj];rfl,hQ a w G h⟩
 | succ k ih =>
  intro i j hi hj hk G a w h;have hsize:∀ t∈[x.d,x.i,x.q,x.r],t<a.tmps.size:=fun t ht=>by rw[h.fr.size,hn3'];exact hnt t ht
  refine⟨fun e => ?_,fun y hy => ?_⟩
  ·rw[hready i j hi hj] at e
   simp at e;omega
  rw[hready i j hi hj,List.mem_append] at hy;rcases hy with hy|hy
  ·split at hy
   case isFalse=>simp at hy
   rename_i hi2;simp at hy;subst hy;rw[BH m hi2];have hcase:i=0∨i=1:=by omega
   rcases hcase with rfl|rfl
   ·-- the address of the element
    have hp:=h.pend (by omega)
    obtain⟨kn,hkn⟩:=h.hn;refine iJ (o:=I) (z:=.pointer (some ⟨b,ca.length*sz,none⟩)) (w':=w) (by rw[show m+1+0=m+1 by omega];exact at' 1 I rfl) hI3 ?_ ?_
    ·have hadd:(⟨b,0,none⟩:Addr).add (ca.length*sz)=⟨b,ca.length*sz,none⟩:=by
      simp only[Addr.add];split<;>simp_all
     have hev1:a.eval (.tmp x.d)=.slice (some ⟨b,0,none⟩) (ca.length+1) cap:=h.hd
     have hev2:a.eval (.tmp x.n)=.int kn ca.length:=hkn
     have hin:(0:Int)≤(ca.length:Int)∧(ca.length:Int)<((ca.length+1:Nat):Int):=⟨by omega,by omega⟩
     simp only[execOp,hI1,hev1,hev2,Instr.indexAt,Sem.run_bind,asIntOf,Sem.run_pure,run_underlying hut,Result.andThen_ok,Sem.run_ite];rw[if_pos hin];simp[cT (show szOf K.P e=some sz by rw[hee,hps];exact hsz),hadd]
    ·rw[hI2];refine ih 1 j (by omega) hj (by omega) G _ w ⟨h.ext,h.wi,h.fr.put_top (h3 _ (by simp) j) _,h.df,?_,?_,?_,?_,h.hbb,fun _ => ?_,fun hh => ?_,fun hh => ?_,fun _=>hp,fun hh=>by omega,h.hdr⟩
     ·rw[dC _ _ ndi];exact h.hd
     ·rw[dC _ _ (Ne.symm nin)];exact h.hn
     ·rw[dC _ _ (Ne.symm niv)];exact h.hv
     ·rw[dC _ _ (Ne.symm nip)];exact h.hp
     ·exact gK _ _ (hsize _ (by simp))
     ·rw[dC _ _ (Ne.symm niq)];exact h.hq hh
     ·rw[dC _ _ (Ne.symm nir)];exact h.hr hh
   ·-- the element
    have hp:=h.pend (by omega)
    obtain⟨xs,hxc,hxs⟩:=h.hv;obtain⟨w',G',hrun,g,hw',hf',hbb,hown⟩:=uT (P:=K.P) h.fr h.wi (h3 x.d (by simp) j) hp hxc hxs hps.symm (by rw[hps];exact hsz)
    refine pZ (o:=W) (w':=w') (by rw[show m+1+1=m+2 by omega];exact at' 2 W rfl) hW3 ?_ ?_
    ·have hev1:a.eval (.tmp x.i)=.pointer (some ⟨b,ca.length*sz,none⟩):=h.hi (by omega)
     have hev2:a.eval (.tmp x.v)=a.tmps.getD x.v undef:=rfl
     simp only[execOp,hW1,hev1,hev2,Sem.run_bind,hrun,Result.andThen_ok,Sem.run_pure]
    ·rw[hW2];have hne:3≤j→∃ cs ty,w'.heap[bP]? = some (.cells cs ty (0,0))∧cs[off]? = some (.slice (some ⟨b,0,none⟩) (ca.length+1) cap):=fun hh=>by
      obtain⟨cs,ty,h1,h2⟩:=h.hdr hh;have:=(g.keep bP _ (h.wi.bbow bs bP h.hbb) (by simp)).2.1
      exact⟨cs,ty,this.trans h1,h2⟩
     exact ih 2 j (by omega) hj (by omega) G' _ w' ⟨h.ext.trans g.ext,hw',hf',h.df,h.hd,h.hn,⟨xs,hxc,hxs.imp fun _ _ _ h=>h.mono g.ext.I⟩,h.hp,by rw[hbb];exact h.hbb,fun _=>h.hi (by omega),h.hq,h.hr,fun hh=>by omega,fun _=>hown,hne⟩
  ·split at hy
   case isFalse=>simp at hy
   rename_i hj3;simp at hy;subst hy;rw[BV m hj3];have hcase:j=0∨j=1∨j=2:=by omega
   rcases hcase with rfl|rfl|rfl
   ·refine iJ (o:=N) (z:=.pointer (some ⟨bP,off0,none⟩)) (w':=w) (by exact at' 3 N rfl) hN3 ?_ ?_
    ·have hev:a.eval (.tmp x.p)=.pointer (some ⟨bP,off0,none⟩):=h.hp
     simp[execOp,hN1,hev]
    ·rw[hN2];refine ih i 1 hi (by omega) (by omega) G _ w ⟨h.ext,h.wi,h.fr.put_top (h3 x.q (by simp) 0) _,h.df,?_,?_,?_,?_,h.hbb,fun hh => ?_,fun hh => ?_,fun hh=>by omega,h.pend,h.own,fun hh=>by omega⟩
     ·rw[dC _ _ ndq];exact h.hd
     ·rw[dC _ _ (Ne.symm nqn)];exact h.hn
     ·rw[dC _ _ (Ne.symm nqv)];exact h.hv
     ·rw[dC _ _ (Ne.symm nqp)];exact h.hp
     ·rw[dC _ _ niq];exact h.hi hh
     ·exact gK _ _ (hsize _ (by simp))
   ·have hev:a.eval (.tmp x.q)=.pointer (some ⟨bP,off0,none⟩):=h.hq (by omega)
    have hra:RA G w .ret (.c (.loc bs off0)) (.pointer (some ⟨bP,off0,none⟩)):=⟨bP,h.hbb,rfl⟩
    obtain⟨z,h1,u,h2,_,_,h4⟩:=lg (P:=K.P) hfa hra;cases h2;obtain⟨bP',h5,rfl⟩:∃ b,G.bb bs=some b∧z=.pointer (some ⟨b,off,none⟩):=h4
    rw[h.hbb] at h5;cases h5;refine iJ (o:=F) (z:=.pointer (some ⟨bP,off,none⟩)) (w':=w) (by rw[show m+3+1=m+4 by omega];exact at' 4 F rfl) hF3 ?_ ?_
    ·simp only[execOp,hF1,hev,Sem.run_bind,h1,Result.andThen_ok,Sem.run_pure]
    ·rw[hF2];refine ih i 2 hi (by omega) (by omega) G _ w ⟨h.ext,h.wi,h.fr.put_top (h3 x.r (by simp) 1) _,h.df,?_,?_,?_,?_,h.hbb,fun hh => ?_,fun hh => ?_,fun hh => ?_,h.pend,h.own,fun hh=>by omega⟩
     ·rw[dC _ _ ndr];exact h.hd
     ·rw[dC _ _ (Ne.symm nrn)];exact h.hn
     ·rw[dC _ _ (Ne.symm nrv)];exact h.hv
     ·rw[dC _ _ (Ne.symm nrp)];exact h.hp
     ·rw[dC _ _ nir];exact h.hi hh
     ·rw[dC _ _ nqr];exact h.hq (by omega)
     ·exact gK _ _ (hsize _ (by simp))
   ·have hf2:FR G w S2 a:=h.fr
    have hev1:a.eval (.tmp x.r)=.pointer (some ⟨bP,off,none⟩):=h.hr (by omega)
    have hev2:a.eval (.tmp x.d)=.slice (some ⟨b,0,none⟩) (ca.length+1) cap:=h.hd
    obtain⟨w',hrun,g,hw',hf',cs,ty,hh1,hh2⟩:=xb (P:=K.P) hf2 h.wi hb2 h.hbb hlt (v:=.slice (some ⟨b,0,none⟩) (ca.length+1) cap) rfl hs1;refine pZ (o:=H) (w':=w') (by rw[show m+3+2=m+5 by omega];exact at' 5 H rfl) hH3 ?_ ?_
    ·simp only[execOp,hH1,hev1,hev2,Sem.run_bind,hrun,Result.andThen_ok,Sem.run_pure]
    ·rw[hH2];exact ih i 3 hi (by omega) (by omega) G _ w' ⟨h.ext.trans g.ext,hw',by rw[if_pos rfl,hS3];exact hf',h.df,h.hd,h.hn,h.hv,h.hp,h.hbb,h.hi,fun _=>h.hq (by omega),fun _=>h.hr (by omega),fun hh=>(h.pend hh).gr g (by simp),fun hh=>(h.own hh).gr g (by simp),fun _=>⟨cs,ty,hh1,hh2⟩⟩
theorem BM {x:Push} {m:Nat} {S':St} {G:Gh} {w:World} {a:Act} (hx:jr (ops.drop m)=some x) (ht:lU ops m=true) (hend:nA K x S=some S') (hf:FR G w S a) (hw:WI G w)
  (hQ:∀ a' w' G',Ext G w G' w'→WI G' w'→FR G' w' S' a'→a'.defers=a.defers→Q .normal a' w'):wpAny K.P .any ops.toArray Q 6 (fP m false 0 0) a w:=by
 unfold nA at hend;split at hend
 case h_2=>cases hend
 rename_i e v0 ca pl kk k bs off0 hut happ hca hpl hkn hp;split at hend
 case h_2=>cases hend
 rename_i vs cells bs1 off hvs hbx hfa;split at hend
 case h_2=>cases hend
 rename_i ps hps;split at hend
 case isFalse=>cases hend
 rename_i hc;obtain⟨rfl,rfl,rfl,hno,hsz,hs1,hlt,hd1,hd2,hd3,hd4⟩:=hc;cases hend;obtain⟨A,I,W,N,F,H,hl,hA,hI,hW,hN,hF,hH,hn1,hn2,hn3⟩:=kK hx;obtain⟨⟨c,hA1,hA2,hA3,hA4⟩,hA5,hA6⟩:=qj hA;obtain⟨ndi,ndq,ndr,ndn,niq,nir,nin,nqr,nqn,nrn⟩:=lS hn1;obtain⟨-,-,-,ndv,-,-,niv,-,nqv,nrv⟩:=lS hn2;obtain⟨-,-,-,ndp,-,-,nip,-,nqp,nrp⟩:=lS hn3;have hrdy:Region.ready .any ops.toArray (fP m false 0 0)=[m]:=by
  unfold lU at ht;simp only[Bool.and_eq_true] at ht
  simpa using ht.1.2
 refine⟨fun e=>(by rw[hrdy] at e;cases e),fun y hy => ?_⟩
 rw[hrdy] at hy;simp at hy;subst hy;rw[Cb];obtain⟨w1,G1,b,cap,hrun,g,hw1,hbb,hpend⟩:=tH (ty:=A.type) (d:=x.d) hut happ hca hpl hsz hf hw (hf.slot x.l);have hAt:ops[y]? = some A:=by
  have:(ops.drop y)[0]? = some A:=by rw[hl];rfl
  rw[List.getElem?_drop] at this;exact this
 refine iJ (o:=A) (z:=.slice (some ⟨b,0,none⟩) (ca.length+1) cap) (w':=w1) hAt hA6 ?_ ?_
 ·have hres:(resolve a.eval c A.type).run K.P w=.ok { target:=.builtin .append c.argTypes A.type (c.args.map fun|.const _=>true|_=>false),args:=c.args.map a.eval } w:=by
   unfold resolve;rw[hA2];rfl
  have ea:c.args.map a.eval=#[a.tmps.getD x.s undef,a.tmps.getD x.l undef]:=by rw[hA3];apply Array.ext';simp[Act.eval]
  simp only[execOp,hA1,Sem.run_bind,hres,Result.andThen_ok,invoke,builtin,ea,hA4,hrun,Sem.run_pure]
 ·rw[hA5];have hf1:FR G w { S with sl:=kZ S.sl [x.s,x.d,x.i,x.q,x.r] } a:=hf.top _
  have hsl:∀ t∈[x.s,x.d,x.i,x.q,x.r],kZ S.sl [x.s,x.d,x.i,x.q,x.r] t=.c .top:=fun t h=>by unfold kZ;rw[if_pos (by simpa using h)]
  have hf2:=(hf1.gr_slot hw g hbb (hsl x.s (by simp))).put_top (d:=x.d) (hsl x.d (by simp)) (.slice (some ⟨b,0,none⟩) (ca.length+1) cap)
  have hnv:=hf.slot x.n
  rw[hkn] at hnv;have hint:a.tmps.getD x.n undef=.int kk ca.length:=hnv.intv
  have hpv:=hf.slot x.p
  rw[hp] at hpv;obtain⟨bP,hbP,hpe⟩:∃ b,G.bb bs1=some b∧a.tmps.getD x.p undef=.pointer (some ⟨b,off0,none⟩):=hpv
  obtain⟨xs,hxc,hxs⟩:=iU hvs hno (hf.slot x.v);have hxr:=kz hps hxs
  refine AZ (S2 := { S with sl:=kZ S.sl [x.s,x.d,x.i,x.q,x.r] }) (S3 := { S with sl:=kZ S.sl [x.s,x.d,x.i,x.q,x.r],bx:=upd S.bx bs1 (some (bV cells off [.top])) }) (G0:=G) (w0:=w) (df:=a.defers) (bs:=bs1) (off0:=off0) (off:=off) (bP:=bP) (b:=b) (cap:=cap) (ca:=ca) (ps:=ps)
   hx ht hut rfl hsz rfl hs1 hfa hlt (fun t h=>hsl t (List.mem_cons_of_mem _ h)) (fun t h=>by simp at h;rcases h with rfl|rfl|rfl|rfl<;>assumption) hbx rfl (fun a' w' G' h => ?_) 5 0 0 (by omega) (by omega) rfl G1 _ w1
   ⟨g.ext,hw1,hf2,rfl,gK _ _ (by rw[hf.size];exact hd1),⟨kk,by rw[dC _ _ (Ne.symm ndn)];exact hint⟩,⟨xs,by rw[dC _ _ (Ne.symm ndv)];exact hxc,hxr.imp fun _ _ _ h=>h.mono g.ext.I⟩,by rw[dC _ _ (Ne.symm ndp)];exact hpe,by rw[hbb];exact hbP,fun h=>by omega,fun h=>by omega,fun h=>by omega,fun _=>hpend,fun h=>by omega,fun h=>by omega⟩
  have hfr:=h.fr
  rw[if_pos rfl] at hfr;obtain⟨cs,ty,hh1,hh2⟩:=h.hdr (by omega)
  obtain⟨G2,g2,hw2,hown,hbb2⟩:=iq (ℓ':=.cell bs1 off) h.wi (h.own (by omega)) (by simp) (by simp)
  have hfr2:=hfr.gr_slot h.wi g2 hbb2 (hsl x.d (by simp))
  refine hQ a' w' G2 (h.ext.trans g2.ext) hw2 ⟨hfr2.size,hfr2.slot,fun s l hl => ?_,fun s hs hlk => ?_⟩ h.df
  ·have hl':upd S.bx bs1 (some (bV cells off [.own x.e (ca++[ps])])) s=some l:=hl
   unfold upd at hl';split at hl'
   ·rename_i he;subst he;cases hl';obtain⟨b',cs',ty',hb',hh',⟨hcs,hbl⟩,hcells⟩:=hfr2.box s (bV cells off [.top]) (by show upd S.bx s _ s=_;simp[upd])
    have hbe:b'=bP:=by rw[hbb2,h.hbb] at hb';exact(Option.some.inj hb').symm
    subst hbe;rw[hh1] at hh';cases hh';refine⟨b',cs,ty,hb',hh1,⟨by rw[eD _ _ _ (by simp;omega)];rw[eD _ _ _ (by simp;omega)] at hcs;exact hcs,fun e => ?_⟩,fun k u hu => ?_⟩
    ·rw[eu _ _ _ hlt] at e
     split at e
     ·cases e
     ·rename_i hk;refine hbl ?_
      rw[eu _ _ _ hlt,if_neg hk];exact e
    ·rw[eu _ _ _ hlt] at hu;split at hu
     ·rename_i hk;subst hk;cases hu;exact⟨_,hh2,hown⟩
     ·rename_i hk;exact hcells k u (by rw[eu _ _ _ hlt,if_neg hk];exact hu)
   ·rename_i he;exact hfr2.box s l (by show upd S.bx bs1 _ s=_;unfold upd;rw[if_neg he];exact hl')
  ·have hs':upd S.bx bs1 (some (bV cells off [.own x.e (ca++[ps])])) s=none:=hs
   unfold upd at hs';split at hs'
   ·cases hs'
   ·rename_i he;exact hfr2.nob s (by show upd S.bx bs1 _ s=_;unfold upd;rw[if_neg he];exact hs') hlk
end
end Go.Abs
namespace Go.Abs
open Go
section
variable {K:Cfg} {call:CallF} {ops:List Oper} {Q:Exit→Act→World→Prop}
def look:List (Nat×Key)→Nat→Key
 | [],_=>.none
 | (j,k)::l,i=>if j=i then k else look l i
theorem oN:∀ {l:List (Nat×Key)} {i:Nat},look l i≠.none→(i,look l i)∈l
 | [],i,h=>absurd rfl h
 | (j,k)::l,i,h=>by
  unfold look at h ⊢;split
  ·rename_i e;subst e;simp
  ·rename_i e;rw[if_neg e] at h;exact List.mem_cons_of_mem _ (oN h)
theorem wm:∀ {l:List (Nat×Key)} {k i:Nat},(∀ x∈l,k≤x.1)→i<k→look l i=.none
 | [],k,i,_,_=>rfl
 | (j,q)::l,k,i,h,hi=>by
  have:=h (j,q) (by simp)
  unfold look;rw[if_neg (by simp at this;omega)]
  exact wm (fun x hx=>h x (by simp[hx])) hi
theorem jn {o:Oper} {l:List Oper} {k:Nat} {S S1:St} (h1:aR K call ops o S=some (.norm,S1)) :
  br K call ops k (o::l) S=match eP ops o S with|.none=>br K call ops (k+1) l S1|q=>(k,q)::br K call ops (k+1) l S1:=by
 rw[br];simp only[h1];unfold eP;cases hg:bw ops S o with
 | none=>rfl
 | some b =>
  cases b with
  | false=>rfl
  | true =>
   simp only;cases bZ (aH ops) S.bx (opd S.sl) o<;>rfl
theorem uP:∀ (l:List Oper) (k:Nat) (S:St), ∀ x∈br K call ops k l S,k≤x.1
 | [],k,S,x,h=>by simp[br] at h
 | o::l,k,S,x,h=>by
  unfold br at h;simp only at h;split at h
  ·rename_i S1 _;split at h
   ·have:=uP l (k+1) S1 x h;omega
   ·rcases List.mem_cons.1 h with rfl|h
    ·exact Nat.le_refl _
    ·have:=uP l (k+1) S1 x h;omega
  ·simp at h
def Logs (K:Cfg) (call:CallF) (ops:List Oper) (κ:Nat→Key):Nat→List Oper→St→Prop
 | _,[],_=>True
 | k,o::rest,S=>κ k=eP ops o S∧∀ S1,aR K call ops o S=some (.norm,S1)→Logs K call ops κ (k+1) rest S1
theorem rK:∀ (l:List Oper) (k:Nat) (S S':St) (κ:Nat→Key),aV K call ops l S=some (.norm,S')→(∀ i,k≤i→κ i=look (br K call ops k l S) i)→Logs K call ops κ k l S
 | [],_,_,_,_,_,_=>trivial
 | o::l,k,S,S',κ,h,hκ=>by
  unfold aV at h;split at h
  ·rename_i S1 h1;have hlog:=jn (l:=l) (k:=k) h1
   have hge:=uP (K:=K) (call:=call) (ops:=ops) l (k+1) S1
   refine⟨?_,fun S2 h2 => ?_⟩
   ·rw[hκ k (Nat.le_refl _),hlog];cases hc:eP ops o S with
    | none=>exact wm hge (by omega)
    | _=>simp[look]
   ·rw[h1] at h2;cases h2;refine rK l (k+1) S1 S' κ h fun i hi => ?_
    rw[hκ i (by omega),hlog]
    cases eP ops o S<;>simp[look]<;>omega
  ·rename_i hne;exact(hne S' h).elim
theorem mM {log:List (Nat×Key)} (h:dt ops log=true) {i j:Nat} (hij:i<j) (hc:(look log i).clash (look log j)=true):reach ops ops.length j i=true:=by
 have hi:look log i≠.none:=fun e=>by rw[e] at hc;cases hc
 have hj:look log j≠.none:=fun e=>by
  rw[e] at hc
  revert hc;cases look log i<;>simp[Key.clash]
 have mi:=oN hi
 have mj:=oN hj
 unfold dt at h;simp only[Bool.or_eq_true,Bool.not_eq_true'] at h;rcases h with h|h
 ·rw[List.any_eq_false] at h;have h1:=h _ mi
  have h2:=h _ mj
  simp only at h1 h2
  revert hc h1 h2;cases look log i<;>cases look log j<;>simp[Key.clash,Key.writes,Key.sees]
 ·rw[List.all_eq_true] at h;have h1:=h _ mi
  rw[List.all_eq_true] at h1;have h2:=h1 _ mj
  simp only[hij,hc,decide_true,Bool.not_true,Bool.false_or] at h2;exact h2
def upTo (ops:List Oper) (m:Nat):Array Bool:=(List.replicate m true++List.replicate (ops.length - m) false).toArray
theorem oM {m j:Nat} (hj:j<ops.length) (hm:m≤ops.length) (d:Bool):(upTo ops m).getD j d=decide (j<m):=by
 unfold upTo;rw[Array.getD_eq_getD_getElem?,List.getElem?_toArray]
 by_cases h:j<m
 ·rw[List.getElem?_append_left (by simpa using h)]
  simp[h]
 ·rw[List.getElem?_append_right (by simp;omega),List.getElem?_replicate,if_pos (by simp;omega)]
  simp[h]
theorem qS {κ:Nat→Key} {m:Nat} (hml:m≤ops.length) (hpost:∀ (j:Nat) (oj:Oper),ops[j]? = some oj→m≤j→∀ i,i<m→dM oj i=true)
  (hm:∀ i j,i<j→(κ i).clash (κ j)=true→reach ops ops.length j i=true) (hed:∀ (k:Nat) (o:Oper),ops[k]? = some o→∀ e∈o.after,Region.binds .any e=true→e.on<k) :
  ∀ (l:List Oper) (k:Nat) (listed:Array Bool) (S S':St),(∀ j:Nat,j<l.length→l[j]? = ops[k+j]?)→k+l.length=m→lexL ops (aH ops) k l=true →
   (∀ j:Nat,j<ops.length→listed.getD j true=decide (j<k)∧listed.getD j false=decide (j<k))→listed.size=ops.length→Logs K call ops κ k l S→aV K call ops l S=some (.norm,S') →
   nT K call ops κ (upTo ops m) l.length listed S S'
 | [],k,listed,S,S',_,hk,_,hpre,hsz,_,h=>by
  simp[aV] at h;refine⟨?_,h⟩
  simp at hk;subst hk
  apply Array.ext
  ·rw[hsz];simp[upTo];omega
  ·intro i h1 h2;have hi:i<ops.length:=by rw[hsz] at h1;exact h1
   have e1:=(hpre i hi).1
   have e2:=oM (ops:=ops) hi hml true
   rw[←e2] at e1
   simpa[Array.getD_eq_getD_getElem?,h1,h2] using e1
 | o::l,k,listed,S,S',hl,hk,hlex,hpre,hsz,hlog,h=>by
  have hok:ops[k]? = some o:=by simpa using (hl 0 (by simp)).symm
  have hlt:k<ops.length:=(List.getElem?_eq_some_iff.1 hok).1
  have hkm:k<m:=by simp at hk;omega
  simp only[lexL,Bool.and_eq_true] at hlex;obtain⟨⟨_,hfree⟩,hlex'⟩:=hlex;unfold aV at h;split at h
  case h_2=>rename_i hne;exact(hne S' h).elim
  rename_i S1 h1;have hclosed:Closed ops listed:=fun j oj hoj hj e he hb=>by
   have hjl:j<ops.length:=(List.getElem?_eq_some_iff.1 hoj).1
   rw[(hpre j hjl).2] at hj;have:=hed j oj hoj e he hb
   rw[(hpre e.on (by omega)).2]
   simp at hj ⊢;omega
  have hready:k∈Region.ready .any ops.toArray listed:=by
   rw[mem_ready];refine⟨by rw[(hpre k hlt).1];simp,o,by simpa using hok,fun e he hb => ?_⟩
   have:=hed k o hok e he hb
   rw[(hpre e.on (by omega)).2];simp;exact this
  have hdo:doOp K call ops κ k S S1:=by unfold doOp;rw[hok];exact⟨h1,hlog.1.symm⟩
  refine wC (m:=m) hok (fun j hj=>by rw[oM (by omega) hml];simpa using hj) (fun j oj hoj hge=>hpost j oj hoj hge k hkm) l.length listed S S1 S' hclosed (fun j oj hoj hne hun hnd => ?_) (fun j oj hoj hne hun hcl => ?_) hready hdo ?_
  ·have hjl:j<ops.length:=(List.getElem?_eq_some_iff.1 hoj).1
   rw[(hpre j hjl).1] at hun;have hjk:k<j:=by simp at hun;omega
   have hjm:j<m:=by
    rcases Nat.lt_or_ge j m with h'|h'
    ·exact h'
    ·rw[hpost j oj hoj h' k hkm] at hnd;cases hnd
   have hmem:oj∈l:=by
    have:=hl (j - k) (by simp at hk ⊢;omega)
    rw[show k+(j - k)=j by omega,hoj] at this
    rw[show j - k=(j - k - 1)+1 by omega] at this
    simp only[List.getElem?_cons_succ] at this
    exact List.mem_of_getElem? this
   have:=List.all_eq_true.1 hfree oj hmem
   rw[hnd] at this
   simpa using this
  ·have hjl:j<ops.length:=(List.getElem?_eq_some_iff.1 hoj).1
   rw[(hpre j hjl).1] at hun;exact hm k j (by simp at hun;omega) hcl
  ·refine qS hml hpost hm hed l (k+1) (listed.setIfInBounds k true) S1 S' (fun j hj=>by have:=hl (j+1) (by simpa using hj);simpa[Nat.add_assoc,Nat.add_comm 1 j] using this) (by simp at hk ⊢;omega) hlex' (fun j hj => ?_) (by simpa using hsz) (hlog.2 S1 h1) h
   by_cases hjk:k=j
   ·subst hjk;simp[hsz,hlt]
   ·rw[getD_set_ne _ hjk,getD_set_ne _ hjk,(hpre j hj).1,(hpre j hj).2];constructor<;>(congr 1;apply propext;omega)
structure Prog (K:Cfg):Prop where
 mixed:K.P.follows .mixedOrders=true
 good : ∀ g, K.good g = true → ∃ fn c, K.P.funcs[g]? = some fn ∧ fn.name ≠ "runtime.NumGoroutine" ∧ fn.body = some c ∧ dw (K.hook g) c = true
 pr:∀ f F args bxs x,K.good f=true→K.pr f=some F→F args bxs=some x→Contract K.P f args bxs (.ret x.1 x.2)
 hp:∀ f F args bxs r call,K.good f=true→K.hp f=some F→(∀ g args bxs r,K.good g=true→call g args bxs=some r→Contract K.P g args bxs r)→(F args bxs).run call=some r→Contract K.P f args bxs r
theorem FR.gr0 {G G':Gh} {w w':World} {S:St} {a:Act} (h:FR G w S a) (hw:WI G w) (g:Gr (fun _=>False) G w G' w') (hbb:G'.bb=G.bb):FR G' w' S a :=
 ⟨h.size,fun t=>(h.slot t).gr g (fun h=>h),fun s l hl=>(h.box s l hl).gr hw g (fun h=>h) (fun _ h=>h),fun s hs hlk=>by rw[hbb];exact h.nob s hs hlk⟩
theorem rB {κ:Nat→Key} {stop:Array Bool} (hs:Sound K call) (rest:Nat):∀ (fuel:Nat) (listed:Array Bool) (S S':St) (G:Gh) (w:World) (a:Act),nT K call ops κ stop fuel listed S S'→FR G w S a→WI G w →
  (∀ (i:Nat) (o:Oper) (S S1:St),ops[i]? = some o→doOp K call ops κ i S S1→(match o.op with|.store .. => o.dst.isNone|_=>true)=true) →
  (∀ a' w' G',Ext G w G' w'→WI G' w'→FR G' w' S' a'→a'.defers=a.defers→wpAny K.P .any ops.toArray Q rest stop a' w')→wpAny K.P .any ops.toArray Q (fuel+rest) listed a w
 | 0,listed,S,S',G,w,a,h,hf,hw,_,hQ=>by
   obtain⟨h1,h2⟩:=h;subst h1;subst h2;rw[Nat.zero_add];exact hQ a w G (.refl _ _) hw hf rfl
 | n+1,listed,S,S',G,w,a,h,hf,hw,hst,hQ=>by
  rw[show n+1+rest=(n+rest)+1 by omega]
  refine⟨fun h0=>absurd h0 h.1,fun i hi => ?_⟩
  obtain⟨S1,hd,h2⟩:=h.2 i hi;have hd0:=hd
  unfold doOp at hd;unfold wpOp;have ho:ops.toArray[i]? = ops[i]? := by simp
  rw[ho];cases hoi:ops[i]? with
  | none =>
   rw[hoi] at hd;simp only at hd ⊢;subst hd;exact rB hs rest n _ S S' G w a h2 hf hw hst hQ
  | some o =>
   rw[hoi] at hd;simp only at hd ⊢;refine gI (r:=(.norm,S1)) hs hd.1 hf hw (hst i o S S1 hoi hd0) _ fun a' w' G' hx hw' hf' hdf => ?_
   exact rB hs rest n _ S1 S' G' w' a' h2 hf' hw' hst fun a2 w2 G2 h3 h4 h5 h6=>hQ a2 w2 G2 (hx.trans h3) h4 h5 (h6.trans hdf)
theorem qb:∀ (l:List Oper) (k:Nat),(∀ j:Nat,l[j]? = ops[k+j]?)→lexL ops (aH ops) k l=true→∀ (j:Nat) (o:Oper),k≤j→ops[j]? = some o→∀ e∈o.after,Region.binds .any e=true→e.on<j
 | [],k,hl,_,j,o,hkj,ho=>by
  have:=hl (j - k)
  rw[show k+(j - k)=j by omega,ho] at this
  simp at this
 | x::l,k,hl,hlex,j,o,hkj,ho=>by
  simp only[lexL,Bool.and_eq_true] at hlex;by_cases hjk:j=k
  ·subst hjk;have:x=o:=by
    have:=hl 0
    simp[ho] at this;exact this
   subst this;intro e he hb;have:=List.all_eq_true.1 hlex.1.1 e (by simpa using he)
   rw[hb] at this
   simpa using this
  ·exact qb l (k+1) (fun j=>by have:=hl (j+1);simpa[Nat.add_assoc,Nat.add_comm 1 j] using this) hlex.2 j o (by omega) ho
theorem mS:∀ (l:List Oper) (k:Nat),nC k l=true→∀ (j:Nat) (o:Oper),l[j]? = some o→∀ e∈o.after,Region.binds .any e=true→e.on<k+j
 | [],_,_,j,o,h=>by simp at h
 | x::l,k,h,j,o,ho=>by
  simp only[nC,Bool.and_eq_true] at h;cases j with
  | zero =>
   simp at ho;subst ho;intro e he hb;have:=List.all_eq_true.1 h.1 e (by simpa using he)
   rw[hb] at this
   simpa using this
  | succ j =>
   have:=mS l (k+1) h.2 j o (by simpa using ho)
   intro e he hb;have:=this e he hb
   omega
theorem BS (hs:Sound K call) (hm:K.P.follows .mixedOrders=true) {id:Nat} {opa:Array Oper} {S:St} {G:Gh} {w:World} {a:Act} {r:Out×St} (h:gB K call opa.toList S=some r)
  (hok:uJ opa.toList=true) (hf:FR G w S a) (hw:WI G w) (hp:Post G w a.defers r Q):(Code.region id opa true).wp K.P Q a w:=by
 obtain⟨ops,hops⟩:∃ ops,opa.toList=ops:=⟨_,rfl⟩
 have hopa:opa=ops.toArray:=by rw[←hops]
 rw[hops] at h hok;unfold uJ at hok;simp only[Bool.and_eq_true,decide_eq_true_eq] at hok;obtain⟨⟨⟨⟨⟨h6,hsome⟩,hedge⟩,hst⟩,hlex⟩,htail⟩:=hok;unfold gB at h;split at h
 case h_2=>cases h
 rename_i S1 x hpre hx;rw[Option.map_eq_some_iff] at h;obtain⟨S',hend,rfl⟩:=h;unfold gQ at hpre;split at hpre
 case h_2=>cases hpre
 rename_i S1' h1;split at hpre
 case isFalse=>cases hpre
 rename_i hmem;have hpre:=Option.some.inj hpre
 subst hpre;have htl:(ops.take (ops.length - 6)).length=ops.length - 6:=by simp
 have hup:upTo ops (ops.length - 6)=fP (ops.length - 6) false 0 0:=by
  unfold upTo fP;rw[show ops.length - (ops.length - 6)=6 by omega]
  rfl
 have hany:=qS (κ:=look (br K call ops 0 (ops.take (ops.length - 6)) S)) (m:=ops.length - 6) (by omega) (fun j oj hoj hge i hi=>by
   unfold lU at htail;simp only[Bool.and_eq_true] at htail;have h2:=List.all_eq_true.1 htail.1.1 oj (by
    have:(ops.drop (ops.length - 6))[j - (ops.length - 6)]? = some oj:=by rw[List.getElem?_drop,show ops.length - 6+(j - (ops.length - 6))=j by omega];exact hoj
    exact List.mem_of_getElem? this)
   exact List.all_eq_true.1 h2 i (List.mem_range.2 hi))
  (fun i j hij hc=>mM hmem hij hc) (fun k o ho e he hb=>by have:=mS ops 0 hedge k o ho e he hb;omega) (ops.take (ops.length - 6)) 0 (Array.replicate ops.length false) S S1'
  (fun j hj=>by simp at hj;rw[List.getElem?_take,if_pos (by omega),Nat.zero_add]) (by rw[htl];omega) hlex (fun j hj=>by simp[hj]) (by simp) (rK _ _ _ _ _ h1 fun i _=>rfl) h1
 rw[hopa];refine wp_region_any hm ?_
 obtain⟨gd,hwd⟩:=eA hw;have hfd:=hf.gr0 hw gd rfl
 have:=rB (Q:=Q) hs 6 _ _ S S1' G w.drew a hany hfd hwd (fun i o S0 S2 hoi hdo => ?_) fun a' w' G' hx' hw' hf' hd=>by
  rw[hup];refine BM hx htail hend hf' hw' fun a2 w2 G2 hx2 hw2 hf2 hd2 => ?_
  exact hp a2 w2 G2 (gd.ext.trans (hx'.trans hx2)) hw2 hf2 (hd2.trans hd)
 ·rw[htl,show ops.length - 6+6=ops.length by omega] at this
  simpa using this
 ·-- a store has no name
  by_cases hlt:i<ops.length - 6
  ·exact List.all_eq_true.1 hst o (List.mem_of_getElem? (i:=i) (by rw[List.getElem?_take,if_pos hlt];exact hoi))
  ·obtain⟨A,I,W,N,F,H,hl,hA,hI,hW,hN,hF,hH,_⟩:=kK hx;have hmem:o∈[A,I,W,N,F,H]:=by
    rw[←hl];have:(ops.drop (ops.length - 6))[i - (ops.length - 6)]? = some o:=by rw[List.getElem?_drop,show ops.length - 6+(i - (ops.length - 6))=i by omega];exact hoi
    exact List.mem_of_getElem? this
   simp only[List.mem_cons,List.not_mem_nil,or_false] at hmem;rcases hmem with rfl|rfl|rfl|rfl|rfl|rfl
   ·rw[(qj hA).1.choose_spec.1]
   ·rw[(tD hI).1]
   ·rw[(gZ hW).1,(gZ hW).2.1];rfl
   ·rw[(tK hN).1]
   ·rw[(tP hF).1]
   ·rw[(gZ hH).1,(gZ hH).2.1];rfl
theorem wR (hs:Sound K call) (hm:K.P.follows .mixedOrders=true) {id:Nat} {opa:Array Oper} {draw:Bool} {S:St} {G:Gh} {w:World} {a:Act} {r:Out×St} (h:ay K call opa.toList draw S=some r)
  (hok:(ju opa.toList&&(!draw||lexL opa.toList (aH opa.toList) 0 opa.toList))=true) (hf:FR G w S a) (hw:WI G w) (hp:Post G w a.defers r Q):(Code.region id opa draw).wp K.P Q a w:=by
 simp only[Bool.and_eq_true] at hok;unfold ay at h;cases draw with
 | false =>
  rw[if_neg (by simp)] at h
  have:=AI hs opa.toList h hf hw hok.1 hp
  rw[Array.toArray_toList] at this
  exact wp_region_list this
 | true =>
  rw[if_pos rfl] at h;split at h
  case h_2=>cases h
  rename_i S1 h1;split at h
  case isFalse=>cases h
  rename_i hmem;cases h;have hlex:lexL opa.toList (aH opa.toList) 0 opa.toList=true:=by simpa using hok.2
  have hed:=qb opa.toList 0 (fun j=>by simp) hlex
  have hany:=qS (κ:=look (br K call opa.toList 0 opa.toList S)) (m:=opa.toList.length) (Nat.le_refl _) (fun j oj hoj hge=>by have:=(List.getElem?_eq_some_iff.1 hoj).1;omega) (fun i j hij hc=>mM hmem hij hc) (fun k o ho=>hed k o (by omega) ho) opa.toList 0 (Array.replicate opa.size false) S S1
   (fun j _=>by simp) (by simp) hlex (fun j hj=>by simp at hj;simp[hj]) (by simp) (rK _ _ _ _ _ h1 fun i _=>rfl) h1
  refine wp_region_any hm ?_
  obtain⟨gd,hwd⟩:=eA hw;have hfd:=hf.gr0 hw gd rfl
  have:=rB (Q:=Q) hs 0 _ _ S S1 G w.drew a hany hfd hwd (fun i o _ _ hoi _=>List.all_eq_true.1 hok.1 o (List.mem_of_getElem? hoi)) fun a' w' G' hx hw' hf' hd=>by
   refine⟨?_,hp a' w' G' (gd.ext.trans hx) hw' hf' hd⟩
   apply List.eq_nil_iff_forall_not_mem.2
   intro j hj;obtain⟨h1,o,ho,_⟩:=mem_ready.1 hj;have hlt:j<opa.toList.length:=by
    have:=(Array.getElem?_eq_some_iff.1 ho).1
    simpa using this
   rw[oM hlt (Nat.le_refl _)] at h1;simp at h1;simp at hlt;omega
  rw[Array.toArray_toList] at this
  simpa using this
theorem fG (bs:List Nat) (sl:Nat→AV):∀ (l:List Nat) (t:Nat),aI bs sl l t=if t∈l then(sl t).live bs else .c .top
 | [],t=>by simp[aI,bot]
 | k::l,t=>by
  show upd (aI bs sl l) k ((sl k).live bs) t=_
  unfold upd;by_cases h:t=k
  ·subst h;simp
  ·rw[if_neg h,fG bs sl l t];simp[h]
theorem eJ (all:List Nat) (bx:Nat→Option (List CV)):∀ (l:List Nat) (t:Nat),aF all bx l t=if t∈l then(bx t).map (List.map (CV.live all)) else none
 | [],t=>by simp[aF,nobox]
 | k::l,t=>by
  show upd (aF all bx l) k ((bx k).map (List.map (CV.live all))) t=_
  unfold upd;by_cases h:t=k
  ·subst h;simp
  ·rw[if_neg h,eJ all bx l t];simp[h]
def Gh.drop (G:Gh) (bs:List Nat):Gh := { G with bb:=fun s=>if LK≤s∨s∈bs then G.bb s else none }
theorem RN.liveIn {G:Gh} {bs:List Nat} {v:CV} {x:Value} (h:RN G v x):RN (G.drop bs) (v.liveIn bs) x:=by
 have hone:=h.one
 cases v with
 | loc s o =>
  obtain⟨b,h1,h2⟩:=h;simp only[CV.liveIn];split
  ·rename_i hc;refine⟨b,?_,h2⟩
   show (if LK≤s∨s∈bs then G.bb s else none)=_
   rw[if_pos (.inr (by simpa using hc))];exact h1
  ·exact hone
 | fn f caps =>
  obtain⟨vs,h1,h2⟩:=h;simp only[CV.liveIn];split
  ·rename_i hc;refine⟨vs,h1,h2.imp fun c y hcm ⟨b,h3,h4⟩=>⟨b,?_,h4⟩⟩
   show (if LK≤c.1∨c.1∈bs then G.bb c.1 else none)=_
   have:=List.all_eq_true.1 hc c hcm
   rw[if_pos (.inr (by simpa using this))];exact h3
  ·exact hone
 | _=>exact h
theorem RC.live {G:Gh} {w:World} {ℓ:Own} {bs:List Nat} {v:CV} {x:Value} (h:RC G w ℓ v x):RC (G.drop bs) w ℓ (v.live bs) x:=by
 cases v with
 | nils =>
  have e:x=.slice none 0 0:=h
  exact .inl ⟨rfl,none,e,.inl rfl⟩
 | own e c=>exact h
 | iter s pos=>exact h
 | cmap es=>exact h
 | loc s o=>exact .of_RN (RN.liveIn (bs:=bs) (v:=.loc s o) h)
 | fn f caps=>exact .of_RN (RN.liveIn (bs:=bs) (v:=.fn f caps) h)
 | top=>exact h
 | pv p=>exact h
 | full c=>exact h
 | nilp=>exact h
 | cptr l=>exact h
 | bld=>exact h
theorem Bj {kp:List Nat×List Nat} {S:St} {G:Gh} {w:World} {a:Act} (hf:FR G w S a) (hw:WI G w):∃ G',Ext G w G' w∧WI G' w∧FR G' w (head kp S) a:=by
 refine⟨G.drop kp.2,⟨fun _ _ _ h=>h,fun b _ h=>⟨h,rfl,fun _=>rfl⟩,Nat.le_refl _,rfl,rfl,rfl,fun k hk => ?_⟩,⟨hw.cell,hw.fresh,hw.boxI,fun s b hb => ?_,hw.tab.map fun _ _ h=>⟨h,rfl⟩⟩,⟨hf.size,fun t => ?_,fun s l hl => ?_,fun s hs hlk => ?_⟩⟩
 ·show (if LK≤k∨k∈kp.2 then G.bb k else none)=_
  rw[if_pos (.inl hk)]
 ·have hb':(if LK≤s∨s∈kp.2 then G.bb s else none)=some b:=hb
  split at hb'
  ·exact hw.bbow s b hb'
  ·cases hb'
 ·show RA _ _ _ (aI kp.2 S.sl kp.1 t) _
  rw[fG];split
  ·have hs:=hf.slot t
   cases hv:S.sl t with
   | c v =>
    rw[hv] at hs;by_cases ht:v=.top
    ·subst ht;exact trivial
    ·exact .of_RC ((hs.toRC ht).live)
   | agg l =>
    rw[hv] at hs;obtain⟨vs,h1,h2⟩:=hs;exact⟨vs,h1,All2.cV (h2.imp fun _ _ _ h=>h.liveIn)⟩
   | tup l=>exact trivial
  ·exact trivial
 ·have hl':aF kp.2 S.bx kp.2 s=some l:=hl
  rw[eJ] at hl';split at hl'
  case isFalse=>cases hl'
  rename_i hmem;rw[Option.map_eq_some_iff] at hl';obtain⟨l0,hl0,rfl⟩:=hl';obtain⟨b,cs,ty,h1,h2,h3,h4⟩:=hf.box s l0 hl0;refine⟨b,cs,ty,?_,h2,⟨by simpa using h3.1,h3.2.map (fun v e=>by cases v<;>simp only[CV.live] at e<;>(try split at e)<;>first|rfl|cases e)⟩,fun k v hv => ?_⟩
  ·show (if LK≤s∨s∈kp.2 then G.bb s else none)=_
   rw[if_pos (.inr hmem)];exact h1
  ·rw[List.getElem?_map,Option.map_eq_some_iff] at hv
   obtain⟨v0,hv0,rfl⟩:=hv;obtain⟨x,h5,h6⟩:=h4 k v0 hv0;exact⟨x,h5,h6.live⟩
 ·have hs':aF kp.2 S.bx kp.2 s=none:=hs
  rw[eJ] at hs'
  show (if LK≤s∨s∈kp.2 then G.bb s else none)=none
  by_cases hmem:s∈kp.2
  ·rw[if_pos hmem] at hs';rw[if_pos (.inr hmem)];exact hf.nob s (by simpa using hs') hlk
  ·rw[if_neg (fun h=>h.elim (fun h=>by omega) hmem)]
theorem wk (hs:Sound K call) (hm:K.P.follows .mixedOrders=true) (n:Nat) (f:FuncId):∀ (c:Code) {Q:Exit→Act→World→Prop} {S:St} {G:Gh} {w:World} {a:Act} {r:Out×St},bB K call n f c S=some r→dw (K.hook f) c=true →
  FR G w S a→WI G w→Post G w a.defers r Q→c.wp K.P Q a w:=by
 intro c
 induction c with
 | skip =>
  intro Q S G w a r h _ hf hw hp;simp[bB] at h;subst h;exact wp_skip (hp a w G (.refl _ _) hw hf rfl)
 | region id ops draw =>
  intro Q S G w a r h hok hf hw hp;unfold bB at h;unfold dw at hok;by_cases hk:K.hook f id=true
  ·rw[if_pos hk] at h hok;simp only[Bool.and_eq_true] at hok;rw[hok.1];exact BS hs hm h hok.2 hf hw hp
  ·rw[if_neg hk] at h hok;exact wR hs hm h hok hf hw hp
 | seq x y ihx ihy =>
  intro Q S G w a r h hok hf hw hp;simp only[dw,Bool.and_eq_true] at hok;unfold bB at h;split at h
  ·rename_i S1 h1;refine wp_seq (ihx h1 hok.1 hf hw fun a' w' G' hx hw' hf' hd => ?_)
   exact ihy h hok.2 hf' hw' (by rw[hd];exact hp.ext hx)
  ·rename_i hne;refine wp_seq (ihx h hok.1 hf hw fun a' w' G' hx hw' hf' hd => ?_)
   have:=hp a' w' G' hx hw' hf' hd
   obtain⟨o,S1⟩:=r;cases o with
   | norm=>exact(hne S1 h).elim
   | _=>exact this
 | cond cnd x y ihx ihy =>
  intro Q S G w a r h hok hf hw hp;simp only[dw,Bool.and_eq_true] at hok;unfold bB at h;split at h
  ·rename_i t ht;have hc:=hf.opd cnd
   rw[ht] at hc;have hcv:=hc.boolv
   split at h
   ·rename_i e;subst e;exact wp_cond_true hcv (ihx h hok.1 hf hw hp)
   ·rename_i e;have:t=false:=by simpa using e
    subst this;exact wp_cond_false hcv (ihy h hok.2 hf hw hp)
  ·cases h
 | block id c ih =>
  intro Q S G w a r h hok hf hw hp;simp only[dw] at hok;unfold bB at h;split at h
  ·rename_i i S1 h1;refine wp_block (ih h1 hok hf hw fun a' w' G' hx hw' hf' hd => ?_)
   show Exit.inBlock id Q (.exit i) a' w'
   unfold Exit.inBlock;split at h
   ·rename_i e;cases h;simp only[e,if_true];exact hp a' w' G' hx hw' hf' hd
   ·rename_i e;cases h;simp only[e,if_false];exact hp a' w' G' hx hw' hf' hd
  ·rename_i hne;refine wp_block (ih h hok hf hw fun a' w' G' hx hw' hf' hd => ?_)
   have:=hp a' w' G' hx hw' hf' hd
   obtain⟨o,S1⟩:=r;cases o with
   | exit i=>exact(hne i S1 h).elim
   | _=>exact this
 | scope c ih =>
  intro Q S G w a r h hok hf hw hp;simp only[dw] at hok;unfold bB at h;refine wp_scope_straight (ih h hok hf hw fun a' w' G' hx hw' hf' hd => ?_)
  have:=hp a' w' G' hx hw' hf' hd
  obtain⟨o,S1⟩:=r;cases o<;>exact this
 | loop c ih =>
  intro Q S G w a r h hok hf hw hp;simp only[dw] at hok;unfold bB at h;refine wp_loop_rounds n ?_
  have key:∀ (m:Nat) {S:St} {G:Gh} {w:World} {a:Act} {r:Out×St},iter (bB K call n f c) (K.keep f ((ax c).getD 0)) m S=some r→FR G w S a→WI G w→Post G w a.defers r Q→Code.rounds K.P c Q m a w:=by
   intro m
   induction m with
   | zero=>intro S G w a r h _ _ _;cases h
   | succ m ihm =>
    intro S G w a r h hf hw hp;rw[rounds_succ];obtain⟨G',hx0,hw0,hf0⟩:=Bj (kp:=K.keep f ((ax c).getD 0)) hf hw;unfold iter at h;split at h
    ·rename_i S1 h1;refine ih h1 hok hf0 hw0 fun a' w' G2 hx hw' hf' hd => ?_
     exact ihm h hf' hw' (by rw[hd];exact hp.ext (hx0.trans hx))
    ·rename_i hne;refine ih h hok hf0 hw0 fun a' w' G2 hx hw' hf' hd => ?_
     have:=hp a' w' G2 (hx0.trans hx) hw' hf' hd
     obtain⟨o,S1⟩:=r;cases o with
     | norm=>exact(hne S1 h).elim
     | _=>exact this
  exact key n h hf hw hp
 | exit id =>
  intro Q S G w a r h _ hf hw hp;simp[bB] at h;subst h;exact wp_exit (hp a w G (.refl _ _) hw hf rfl)
 | ret =>
  intro Q S G w a r h _ hf hw hp;simp[bB] at h;subst h;exact wp_ret (hp a w G (.refl _ _) hw hf rfl)
 | _=>intro Q S G w a r h;simp[bB] at h
end
end Go.Abs
namespace Go.Abs
open Go
section
variable {K:Cfg} {G:Gh} {w:World} {S:St} {a:Act}
theorem RT.of_RA {ℓ:Own} {v:CV} {x:Value} (h:RA G w ℓ (.c v) x) (hv:v≠.top):RT G (.c v.deg) x:=(h.toRC hv).deg
def kQ (tmps:Array Value):ResultVar→Sem Value
 | .tmp t=>pure (tmps.getD t undef)
 | .cell a t=>do loadVar t (←asAddr (tmps.getD a undef))
theorem mW {t:TypeId} {y x:Value} (h:(Instr.loadAt t y).run K.P w=.ok x w):(do loadVar t (←asAddr y):Sem Value).run K.P w=.ok x w:=by
 cases y with
 | pointer p =>
  cases p with
  | none=>simp[Instr.loadAt,Instr.sureAddr] at h
  | some p=>simpa[Instr.loadAt,Instr.sureAddr,asAddr] using h
 | _=>simp[Instr.loadAt,Instr.sureAddr] at h
theorem xC {r:ResultVar} {v:TV} (h:cN K.P S r=some v) (hf:FR G w S a) (hw:WI G w) :
  ∃ x,(kQ a.tmps r).run K.P w=.ok x w∧RT G v.deg x∧∀ e c,v=.c (.own e c)→∃ t,OwnAt G w (.slot t) e c x:=by
 cases r with
 | tmp t =>
  have hs:=hf.slot t
  refine⟨_,rfl,?_⟩
  simp only[cN] at h;split at h
  ·cases h
  ·rename_i u hne hu;cases h;rw[hu] at hs;have hnt:u≠.top:=fun e=>hne e
   refine⟨RT.of_RA hs hnt,fun ty c e => ?_⟩
   cases e
   exact⟨t,hs⟩
  ·rename_i l hl;cases h;rw[hl] at hs;exact⟨hs,fun _ c e=>(by cases e)⟩
  ·cases h
 | cell p t =>
  simp only[cN] at h;have key:∀ (u:AV) (dg:Option Nat) (bs:List (Nat×List CV)),bL K.P [] S.bx (some 0) t (S.sl p)=some (.val u dg bs)→∃ x,(kQ a.tmps (.cell p t)).run K.P w=.ok x w∧RA G w (.slot 0) u x:=fun u dg bs hl=>by
   obtain⟨v',bs',x,G',e,h1,h2,h3⟩:=wa hl hf hw (hf.slot p);cases h3 rfl;cases e;exact⟨x,mW h1,h2.val 0 rfl⟩
  split at h
  ·cases h
  ·rename_i u dg bs hne hl;cases h;obtain⟨x,h1,h2⟩:=key _ _ _ hl;have hnt:u≠.top:=fun e=>hne e
   exact⟨x,h1,RT.of_RA h2 hnt,fun _ c e=>by cases e;exact⟨0,h2⟩⟩
  ·rename_i l dg bs hl;cases h;obtain⟨x,h1,h2⟩:=key _ _ _ hl;exact⟨x,h1,h2,fun _ c e=>(by cases e)⟩
  ·cases h
theorem kG (hf:FR G w S a) (hw:WI G w):∀ {rs:List ResultVar} {l:List TV},bW K.P S rs=some l→∃ xs,(rs.mapM (kQ a.tmps)).run K.P w=.ok xs w ∧
  All2 (fun v x=>RT G (TV.deg v) x∧∀ e c,v=.c (.own e c)→∃ t,OwnAt G w (.slot t) e c x) l xs
 | [],l,h=>by
  simp[bW] at h;subst h;exact⟨[],by simp,.nil⟩
 | r::rs,l,h=>by
  unfold bW at h;split at h
  case h_2=>cases h
  rename_i v m hv hm;cases h;obtain⟨x,h1,h2⟩:=xC hv hf hw;obtain⟨xs,h3,h4⟩:=kG hf hw hm;exact⟨x::xs,by simp[List.mapM_cons,h1,h3],.cons h2 h4⟩
def iG:List Value→Value
 | [x]=>x
 | l=>.tuple l.toArray
theorem mC {fn:Func} {tmps:Array Value} {xs:List Value} (h:(fn.results.toList.mapM (kQ tmps)).run K.P w=.ok xs w) :
  (results fn tmps).run K.P w=.ok (iG xs) w:=by
 have e:results fn tmps=(do let vs ←fn.results.mapM (kQ tmps);pure (if h:vs.size=1 then vs[0] else .tuple vs)):=by
  unfold results
  congr 1
 rw[e,Array.mapM_eq_mapM_toList];simp only[map_eq_pure_bind,Sem.run_bind,h,Result.andThen_ok,Sem.run_pure]
 match xs with
 | []=>rfl
 | [x]=>rfl
 | x::y::l=>simp[iG]
theorem gH (s k b:Nat) (h:aK s=some k) (hb:G.bb s=some b):G.bb k=some b:=by
 unfold aK at h;split at h
 ·cases h;exact hb
 ·cases h
theorem BoxR.lent {s:Nat} {l:List CV} (h:BoxR G w s l):BoxR G w s (l.map (CV.ren aK)):=by
 obtain⟨b,cs,ty,h1,h2,h3,h4⟩:=h;refine⟨b,cs,ty,h1,h2,⟨by simpa using h3.1,h3.2.map (fun v e=>nu e)⟩,fun k u hu => ?_⟩
 rw[List.getElem?_map,Option.map_eq_some_iff] at hu
 obtain⟨u',hu',rfl⟩:=hu;obtain⟨y,h5,h6⟩:=h4 k u' hu';refine⟨y,h5,?_⟩
 by_cases ho:u'.plain=true
 ·exact .of_RN (RN.ren (G:=G) (G1:=G) (fun _ _ _ h=>h) gH (h6.to_RN ho))
 ·cases u'<;>simp[CV.plain] at ho
  case iter s2 pos=>exact IterAt.one h6
  case cmap es=>exact h6
  exact h6
theorem jG (hb:∀ s l,S.bx s=some l→BoxR G w s l):∀ {n:Nat} {cs:List (List CV)},bf S.bx n=some cs→cs.length=n∧∀ (i:Nat) (l:List CV),cs[i]? = some l→BoxR G w (LK+i) l
 | 0,cs,h=>by simp[bf] at h;subst h;exact⟨rfl,fun i l h=>by simp at h⟩
 | n+1,cs,h=>by
  unfold bf at h;split at h
  case h_2=>cases h
  rename_i l c hl hc;cases h;obtain⟨h1,h2⟩:=jG hb hl;refine⟨by simp[h1],fun i m hi => ?_⟩
  by_cases hin:i<n
  ·rw[List.getElem?_append_left (by omega)] at hi
   exact h2 i m hi
  ·rw[List.getElem?_append_right (by omega)] at hi
   have hi0:i=n:=by
    have:=(List.getElem?_eq_some_iff.1 hi).1
    simp at this;omega
   subst hi0;simp[h1] at hi;subst hi;exact(hb _ _ hc).lent
theorem Av {f:FuncId} {fn:Func} {n:Nat} {o:Option (Out×St)} {r:Res} (h:leave K f fn n o=some r) {G0:Gh} {w0:World} {df:List Deferred} (hdf:df=[]) :
  ∃ o',o=some o'∧Post G0 w0 df o' (bodyPost K.P fn fun e w'=>∃ G',Ext G0 w0 G' w'∧WI G' w'∧REnd n G' w' e r):=by
 subst hdf;have ret:∀ {S:St} (x1:Out),(x1=.norm∨x1=.ret)→(match dT K.P (K.ownRet f) S fn,bf S.bx n with
   | some v,some cs=>some (Res.ret (v.ren aK) cs)
   | _,_=>none)=some r→Post G0 w0 [] (x1,S) (bodyPost K.P fn fun e w'=>∃ G',Ext G0 w0 G' w'∧WI G' w'∧REnd n G' w' e r):=by
  intro S x1 hx1 h a' w' G1 hx hw hf hd;split at h
  case h_2=>cases h
  rename_i v cs hv hcs;cases h;unfold dT at hv;have fin:∀ (x:Value) (G2:Gh),(results fn a'.tmps).run K.P w'=.ok x w'→Ext G1 w' G2 w'→WI G2 w'→RA G2 w' .ret (v.ren aK) x→(∀ s l,S.bx s=some l→BoxR G2 w' s l) →
    bodyPost K.P fn (fun e w'=>∃ G',Ext G0 w0 G' w'∧WI G' w'∧REnd n G' w' e (.ret (v.ren aK) cs)) x1.exit' a' w':=fun x G2 h1 h2 h3 h4 h5=>by
   obtain⟨h6,h7⟩:=jG h5 hcs;have:a'.defers=[]∧∃ v',(results fn a'.tmps).run K.P w'=.ok v' w'∧∃ G',Ext G0 w0 G' w'∧WI G' w'∧REnd n G' w' (.returned v') (.ret (v.ren aK) cs) :=
    ⟨hd,x,h1,G2,hx.trans h2,h3,x,rfl,h4,h6,h7⟩
   rcases hx1 with rfl|rfl<;>exact this
  have main:bodyPost K.P fn (fun e w'=>∃ G',Ext G0 w0 G' w'∧WI G' w'∧REnd n G' w' e (.ret (v.ren aK) cs)) x1.exit' a' w':=by
   split at hv
   ·rename_i v1 hv1;cases hv;obtain⟨xs,h1,h2⟩:=kG hf hw hv1;have h3:=mC h1
    cases h2 with
    | cons h4 h5 =>
    cases h5
    rename_i x;simp only[iG] at h3;by_cases hown:K.ownRet f=true∧∃ e c,v1=.c (.own e c)
    ·obtain⟨ho,e,c,rfl⟩:=hown;obtain⟨t,h6⟩:=h4.2 e c rfl;obtain⟨G2,g,hw2,h7,hbb⟩:=iq (ℓ':=.ret) hw h6 (by simp) (by simp)
     refine fin x G2 h3 g.ext hw2 ?_ fun s l hl=>(hf.box s l hl).gr hw g (by simp) (by simp)
     rw[if_pos ho];exact h7
    ·have hd1:((if K.ownRet f=true then v1.keepOwn else v1.deg):TV)=v1.deg:=by
      split
      ·rename_i ho;cases v1 with
       | c u=>cases u<;>first|rfl|exact absurd ⟨ho,_,_,rfl⟩ hown
       | agg l=>rfl
      ·rfl
     refine fin x G1 h3 (.refl _ _) hw ?_ hf.box
     rw[hd1];exact RA.ren_plain (G:=G1) (G1:=G1) (w:=w') (ℓ:=.ret) (fun _ _ _ h=>h) gH (by cases v1 with|c u=>exact gc (.c u)|agg l=>rfl) (RA.of_RT h4.1)
   ·rename_i l hne hl;cases hv;obtain⟨xs,h1,h2⟩:=kG hf hw hl;have h3:=mC h1
    have h4:iG xs=.tuple xs.toArray:=by
     match xs,h2 with
     | [],_=>rfl
     | [x],.cons _ .nil=>exact(hne _ rfl).elim
     | x::y::l,_=>rfl
    rw[h4] at h3;refine fin _ G1 h3 (.refl _ _) hw ?_ hf.box
    refine⟨xs,rfl,All2.cV (All2.cV (h2.imp fun u x _ h => ?_))⟩
    exact RT.ren (G:=G1) (G1:=G1) (fun _ _ _ h=>h) gH h.1
   ·cases hv
  rcases hx1 with rfl|rfl<;>exact main
 unfold leave at h;split at h
 ·exact⟨_,rfl,ret .norm (.inl rfl) h⟩
 ·exact⟨_,rfl,ret .ret (.inr rfl) h⟩
 ·rename_i v S;split at h
  case h_2=>cases h
  rename_i cs hcs;cases h;refine⟨_,rfl,fun a' w' G1 hx hw hf hd x hv => ?_⟩
  obtain⟨h6,h7⟩:=jG hf.box hcs;exact⟨hd,G1,hx,hw,x,rfl,RN.ren (G:=G1) (G1:=G1) (fun _ _ _ h=>h) gH hv,h6,h7⟩
 ·cases h
theorem An {args:List AV} {cargs:List Value} {bxs:List (List CV)} {nt:Nat} (hargs:All2 (fun v x=>RA G w .ret v x) args cargs) (hno:∀ v∈args,bC v=false)
  (hb:∀ (i:Nat) (l:List CV),bxs[i]? = some l→BoxR G w (LK+i) l) (hbb:∀ s b,G.bb s=some b→∃ i,i<bxs.length∧s=LK+i) (hlen:args.length≤nt) :
  FR G w (aZ nt args bxs) { tmps:=cargs.toArray++Array.replicate (nt - cargs.toArray.size) undef,defers:=[] }:=by
 have hl:=hargs.length
 refine⟨?_,fun t => ?_,fun s l h => ?_,fun s h hlk => ?_⟩
 ·show (cargs.toArray++Array.replicate (nt - cargs.toArray.size) undef).size=nt
  simp;omega
 ·show RA G w (.slot t) ((args[t]?).getD (.c .top)) _
  cases ht:args[t]? with
  | none=>exact trivial
  | some v =>
   obtain⟨x,h1,h2⟩:=hargs.get ht;have hlt:=(List.getElem?_eq_some_iff.1 h1).1
   have:(cargs.toArray++Array.replicate (nt - cargs.toArray.size) undef).getD t undef=x:=by
    rw[Array.getD_eq_getD_getElem?,Array.getElem?_append_left (by simpa using hlt)]
    simp[h1]
   show RA G w (.slot t) v ((cargs.toArray++Array.replicate (nt - cargs.toArray.size) undef).getD t undef)
   rw[this];exact h2.place (hno v (List.mem_of_getElem? ht))
 ·have h':(if LK≤s then bxs[s - LK]? else none)=some l:=h
  split at h'
  case isFalse=>cases h'
  rename_i hs;have:=hb (s - LK) l h'
  rwa [show LK+(s - LK)=s by omega] at this
 ·cases hg:G.bb s with
  | none=>rfl
  | some b =>
   obtain⟨i,_,e⟩:=hbb s b hg;omega
theorem pk {ex:Code→St→Option (Out×St)} {f:FuncId} {args:List AV} {bxs:List (List CV)} {r:Res} (h:enter K ex f args bxs=some r)
  (hex:∀ (fn:Func) (c:Code),K.P.funcs[f]? = some fn→fn.body=some c→∀ {Q:Exit→Act→World→Prop} {S:St} {G:Gh} {w:World} {a:Act} {r:Out×St},ex c S=some r→FR G w S a→WI G w→Post G w a.defers r Q→c.wp K.P Q a w) :
  Contract K.P f args bxs r:=by
 unfold enter at h;split at h
 ·cases h
 rename_i fn hfn;split at h
 ·cases h
 rename_i c hc;split at h
 case isFalse=>cases h
 rename_i hlen;intro G w cargs hw hargs hno hb hbb;refine calls_of_wp hfn hc ?_
 obtain⟨o',ho',hpost⟩:=Av (G0:=G) (w0:=w) (df:=[]) h rfl;exact hex fn c hfn hc ho' (An hargs hno hb hbb hlen.1) hw hpost
theorem tE (hK:Prog K):∀ (n:Nat) (f:FuncId) (args:List AV) (bxs:List (List CV)) (r:Res),K.good f=true→bQ K n f args bxs=some r→Contract K.P f args bxs r
 | 0,_,_,_,_,_,h=>by cases h
 | n+1,f,args,bxs,r,hg,h=>by
  have ih:=tE hK n
  have hs:Sound K (bQ K n):=⟨fun g hg=>let ⟨fn,c,h1,h2,h3,_⟩:=hK.good g hg;⟨fn,h1,h2,by rw[h3];rfl⟩,fun g args bxs r hg h=>ih g args bxs r hg h⟩
  unfold bQ at h;split at h
  ·rename_i F hF;rw[Option.map_eq_some_iff] at h;obtain⟨x,hx,rfl⟩:=h;exact hK.pr f F args bxs x hg hF hx
  split at h
  ·rename_i F hF;exact hK.hp f F args bxs r (bQ K n) hg hF (fun g args bxs r hg h=>ih g args bxs r hg h) h
  ·refine pk h fun fn c hfn hc {Q S G w a r} hr hf hw hp => ?_
   obtain⟨fn',c',h1,_,h3,h4⟩:=hK.good f hg;rw[hfn] at h1;cases h1;rw[hc] at h3;cases h3;exact wk hs hK.mixed n f c hr h4 hf hw hp
end
end Go.Abs
namespace Go.Abs
open Go
section
variable {α β:Type}
noncomputable def limO (F:Nat→Option α):Option α:=by
 classical
 exact if h:∃ n,(F n).isSome then F h.choose else none
def Up (F:Nat→Option α):Prop:=∀ n m r,n≤m→F n=some r→F m=some r
theorem cH {F:Nat→Option α} (hF:Up F) {r:α}:limO F=some r↔∃ n,F n=some r:=by
 classical
 unfold limO;constructor
 ·intro h;split at h
  ·rename_i hx;exact⟨_,h⟩
  ·cases h
 ·rintro ⟨n,hn⟩
  have hx:∃ n,(F n).isSome:=⟨n,by simp[hn]⟩
  rw[dif_pos hx];obtain⟨s,hs⟩:=Option.isSome_iff_exists.1 hx.choose_spec;have h1:=hF n (max n hx.choose) r (by omega) hn
  have h2:=hF hx.choose (max n hx.choose) s (by omega) hs
  rw[hs,←h2,h1]
theorem gm (d:Option α):Up fun _=>d:=fun _ _ _ _ h=>h
theorem cd (d:Option α):limO (fun _=>d)=d:=by
 apply Option.ext
 intro r;rw[cH (gm d)];exact⟨fun ⟨_,h⟩=>h,fun h=>⟨0,h⟩⟩
theorem kY {F:Nat→Option α} {k:Nat→α→Option β} (hF:Up F) (hk:∀ x,Up fun n=>k n x):Up fun n=>(F n).bind (k n):=by
 intro n m r hnm h;rw[Option.bind_eq_some_iff] at h ⊢;obtain⟨x,h1,h2⟩:=h;exact⟨x,hF n m x hnm h1,hk x n m r hnm h2⟩
theorem iw {F:Nat→Option α} {k:Nat→α→Option β} (hF:Up F) (hk:∀ x,Up fun n=>k n x):limO (fun n=>(F n).bind (k n))=(limO F).bind fun x=>limO fun n=>k n x:=by
 apply Option.ext
 intro r;rw[cH (kY hF hk),Option.bind_eq_some_iff];constructor
 ·rintro ⟨n,h⟩
  rw[Option.bind_eq_some_iff] at h;obtain⟨x,h1,h2⟩:=h;exact⟨x,(cH hF).2 ⟨n,h1⟩,(cH (hk x)).2 ⟨n,h2⟩⟩
 ·rintro ⟨x,h1,h2⟩
  obtain⟨n,h1⟩:=(cH hF).1 h1;obtain⟨m,h2⟩:=(cH (hk x)).1 h2;refine⟨max n m,?_⟩
  rw[Option.bind_eq_some_iff];exact⟨x,hF n _ x (by omega) h1,hk x m _ r (by omega) h2⟩
theorem lZ {F:Nat→Option α} (k:α→Option β) (hF:Up F):(Up fun n=>(F n).bind k)∧limO (fun n=>(F n).bind k)=(limO F).bind k:=by
 refine⟨kY (k:=fun _=>k) hF fun _=>gm _,?_⟩
 rw[iw (k:=fun _=>k) hF fun _=>gm _]
 simp only[cd]
theorem qt {F:Nat→Option α} (hF:Up F):limO (fun n=>F (n+1))=limO F:=by
 apply Option.ext
 intro r;rw[cH (fun n m r h=>hF (n+1) (m+1) r (by omega)),cH hF]
 exact⟨fun ⟨n,h⟩=>⟨n+1,h⟩,fun ⟨n,h⟩=>⟨n,hF n (n+1) r (by omega) h⟩⟩
end
section
variable {K:Cfg} {c:Nat→CallF}
def UpC (c:Nat→CallF):Prop:=∀ g a b,Up fun n=>c n g a b
noncomputable def limC (c:Nat→CallF):CallF:=fun g a b=>limO fun n=>c n g a b
theorem tN (own:Bool) (bx:Nat→Option (List CV)) (g:FuncId) (args:List AV):(∃ d, ∀ call,bO call own bx g args=d)∨∃ a b k, ∀ call:CallF,bO call own bx g args=(call g a b).bind k:=by
 by_cases hf:args.all AV.flat=true
 ·refine .inr ⟨args.map AV.deg,[],fun r=>match r with
   | .ret v []=>if v.flat then some (.val (if own then v else v.deg) none []) else none
   | .pan v []=>if v.flat then some (.pan v []) else none
   | _=>none,fun call => ?_⟩
  unfold bO;rw[if_pos hf];cases call g (args.map AV.deg) [] with
  | none=>rfl
  | some r=>cases r with
   | ret v l=>cases l<;>rfl
   | pan v l=>cases l<;>rfl
 ·cases hg:aJ bx (dedup (args.flatMap AV.ptrs)) with
  | none =>
   refine .inl ⟨none,fun call => ?_⟩
   unfold bO;rw[if_neg hf];simp only[hg]
  | some cs =>
   let L:=dedup (args.flatMap AV.ptrs)
   refine .inr ⟨args.map fun a=>(a.deg).ren (lend L),cs.map fun c=>c.map (CV.ren (lend L)),fun r=>match r with
    | .ret v cs'=>if cs'.length=L.length then some (.val ((if own then v else v.deg).ren (back L)) none (ck L cs')) else none
    | .pan v cs'=>if cs'.length=L.length then some (.pan (v.ren (back L)) (ck L cs')) else none,fun call => ?_⟩
   unfold bO;rw[if_neg hf];simp only[hg];cases call g (args.map fun a=>(a.deg).ren (lend L)) (cs.map fun c=>c.map (CV.ren (lend L))) with
   | none=>rfl
   | some r=>cases r<;>rfl
theorem rf (bx:Nat→Option (List CV)) (ρ:Operand→AV) (cl:Call):(∃ d, ∀ call,bv K call bx ρ cl=d)∨∃ g a b k, ∀ call:CallF,bv K call bx ρ cl=(call g a b).bind k:=by
 unfold bv;cases hc:cl.callee with
 | builtin b=>exact .inl ⟨_,fun _=>rfl⟩
 | invoke r m=>exact .inl ⟨_,fun _=>rfl⟩
 | value f =>
  simp only;split
  ·rename_i g caps _;by_cases hg:K.good g=true
   ·simp only[hg,if_true];rcases tN (K.ownRet g) bx g (cl.args.toList.map ρ++caps.map fun x=>.c (.loc x.1 x.2)) with h|⟨a,b,k,h⟩
    ·exact .inl h
    ·exact .inr ⟨g,a,b,k,h⟩
   ·refine .inl ⟨none,fun call => ?_⟩
    rw[if_neg hg]
  ·exact .inl ⟨_,fun _=>rfl⟩
theorem oX (apps:List Nat) (bx:Nat→Option (List CV)) (ρ:Operand→AV) (o:Oper):(∃ d, ∀ call,bU K call apps bx ρ o=d)∨∃ g a b k, ∀ call:CallF,bU K call apps bx ρ o=(call g a b).bind k:=by
 obtain⟨dst,op,type,pos,after,guard⟩:=o;cases op
 case call cl=>simp only[bU];exact rf bx ρ cl
 case makeFunc fn first captured=>cases fn<;>exact .inl ⟨_,fun _=>rfl⟩
 all_goals exact .inl ⟨_,fun _=>rfl⟩
theorem mD (call:CallF) (ops:List Oper) (o:Oper) (S:St):aR K call ops o S=(bw ops S o).bind fun g=>if g then(bU K call (aH ops) S.bx (opd S.sl) o).bind fun d=>(match d with
  | .pan v bs=>some (.pan v, { S with bx:=aj S.bx bs })
  | .val v dg bs=>((({ S with bx:=aj S.bx bs }:St).degAt dg).put o.dst v).map (Out.norm,·)) else(S.put o.dst (.tup [])).map (Out.norm,·):=by
 unfold aR;cases bw ops S o with
 | none=>rfl
 | some b =>
  cases b with
  | false=>rfl
  | true =>
   simp only[Option.bind_some,if_true];cases bU K call (aH ops) S.bx (opd S.sl) o with
   | none=>rfl
   | some d=>cases d<;>rfl
theorem zE (hc:UpC c) (apps:List Nat) (bx:Nat→Option (List CV)) (ρ:Operand→AV) (o:Oper):(Up fun n=>bU K (c n) apps bx ρ o)∧limO (fun n=>bU K (c n) apps bx ρ o)=bU K (limC c) apps bx ρ o:=by
 rcases oX (K:=K) apps bx ρ o with⟨d,h⟩|⟨g,a,b,k,h⟩
 ·simp only[h];exact⟨fun _ _ _ _ h=>h,cd d⟩
 ·simp only[h];exact lZ k (hc g a b)
theorem xR (hc:UpC c) (ops:List Oper) (o:Oper) (S:St):(Up fun n=>aR K (c n) ops o S)∧limO (fun n=>aR K (c n) ops o S)=aR K (limC c) ops o S:=by
 simp only[mD];cases bw ops S o with
 | none=>exact⟨fun _ _ _ _ h=>h,cd none⟩
 | some b =>
  simp only[Option.bind_some];cases b with
  | false=>exact⟨fun _ _ _ _ h=>h,cd _⟩
  | true =>
   simp only[if_true];obtain⟨h1,h2⟩:=zE (K:=K) hc (aH ops) S.bx (opd S.sl) o;rw[←h2];exact lZ _ h1
theorem mV (call:CallF) (ops:List Oper) (o:Oper) (l:List Oper) (S:St):aV K call ops (o::l) S=(aR K call ops o S).bind fun r=>match r.1 with
  | .norm=>aV K call ops l r.2
  | _=>some r:=by
 conv=>lhs;unfold aV
 cases aR K call ops o S with
 | none=>rfl
 | some r =>
  obtain⟨x,S1⟩:=r;cases x<;>rfl
theorem jS (hc:UpC c) (ops:List Oper):∀ (l:List Oper) (S:St),(Up fun n=>aV K (c n) ops l S)∧limO (fun n=>aV K (c n) ops l S)=aV K (limC c) ops l S
 | [],S=>⟨fun _ _ _ _ h=>h,cd _⟩
 | o::l,S=>by
  simp only[mV];obtain⟨h1,h2⟩:=xR (K:=K) hc ops o S;have hk:∀ r:Out×St,Up fun n=>(match r.1 with
    | .norm=>aV K (c n) ops l r.2
    | _=>some r):=fun r=>by
   obtain⟨x,S1⟩:=r;cases x with
   | norm=>exact(jS hc ops l S1).1
   | _=>exact fun _ _ _ _ h=>h
  refine⟨kY h1 hk,?_⟩
  rw[iw h1 hk,h2]
  congr 1
  funext r
  obtain⟨x,S1⟩:=r;cases x with
  | norm=>exact(jS hc ops l S1).2
  | _=>exact cd _
def CallF.le (c c':CallF):Prop:=∀ g a b r,c g a b=some r→c' g a b=some r
theorem nj (hc:UpC c) (n:Nat):(c n).le (limC c):=fun g a b _ h=>(cH (hc g a b)).2 ⟨n,h⟩
theorem wI {c1 c2:CallF} (h:c1.le c2) {ops:List Oper} {o:Oper} {S:St} {r:Out×St} (hr:aR K c1 ops o S=some r):aR K c2 ops o S=some r:=by
 rw[mD] at hr ⊢;cases hg:bw ops S o with
 | none=>rw[hg] at hr;cases hr
 | some b =>
  rw[hg] at hr;cases b with
  | false=>exact hr
  | true =>
   simp only[Option.bind_some,if_true] at hr ⊢;rw[Option.bind_eq_some_iff] at hr ⊢;obtain⟨d,h1,h2⟩:=hr;refine⟨d,?_,h2⟩
   rcases oX (K:=K) (aH ops) S.bx (opd S.sl) o with⟨d',hd⟩|⟨g,a,b,k,hd⟩
   ·rw[hd] at h1 ⊢;exact h1
   ·rw[hd,Option.bind_eq_some_iff] at h1 ⊢;obtain⟨x,h3,h4⟩:=h1;exact⟨x,h _ _ _ _ h3,h4⟩
theorem jb {c1 c2:CallF} (h:c1.le c2) (ops:List Oper):∀ (l:List Oper) (k:Nat) (S S':St),aV K c1 ops l S=some (.norm,S')→br K c1 ops k l S=br K c2 ops k l S
 | [],_,_,_,_=>rfl
 | o::l,k,S,S',hr=>by
  rw[mV,Option.bind_eq_some_iff] at hr;obtain⟨⟨x,S1⟩,h1,h2⟩:=hr;cases x with
  | norm =>
   rw[jn h1,jn (wI h h1),jb h ops l (k+1) S1 S' h2]
  | _=>simp at h2
theorem lK (hc:UpC c) (ops:List Oper) (draw:Bool) (S:St):(Up fun n=>ay K (c n) ops draw S)∧limO (fun n=>ay K (c n) ops draw S)=ay K (limC c) ops draw S:=by
 obtain⟨h1,h2⟩:=jS (K:=K) hc ops ops S;cases draw with
 | false =>
  simp only[ay,Bool.false_eq_true,if_false];exact⟨h1,h2⟩
 | true =>
  have key:∀ (call:CallF) (r:Out×St),ay K call ops true S=some r↔aV K call ops ops S=some r∧(match r.1 with|.norm=>dt ops (br K call ops 0 ops S)=true|_=>False):=fun call r=>by
   unfold ay;rw[if_pos rfl];cases hr:aV K call ops ops S with
   | none=>simp
   | some q =>
    obtain⟨x,S1⟩:=q;cases x with
    | norm =>
     simp only[Option.some.injEq];by_cases hm:dt ops (br K call ops 0 ops S)=true
     ·simp only[hm,if_true,Option.some.injEq];constructor
      ·intro e;subst e;exact⟨rfl,trivial⟩
      ·exact fun h=>h.1
     ·simp only[hm];constructor
      ·intro e;cases e
      ·rintro ⟨rfl,h⟩;exact absurd h (by simp)
    | _ =>
     simp only[Option.some.injEq];constructor
     ·intro e;cases e
     ·rintro ⟨rfl,h⟩;exact h.elim
  have hup:Up fun n=>ay K (c n) ops true S:=fun n m r hnm hr=>by
   rw[key] at hr ⊢;obtain⟨h3,h4⟩:=hr;refine⟨h1 n m r hnm h3,?_⟩
   obtain⟨x,S1⟩:=r;cases x with
   | norm =>
    simp only at h4 ⊢;rw[←jb (fun g a b r h=>hc g a b n m r hnm h) ops ops 0 S S1 h3]
    exact h4
   | _=>exact h4
  refine⟨hup,Option.ext fun r => ?_⟩
  rw[cH hup,key];constructor
  ·rintro ⟨n,hr⟩
   rw[key] at hr;obtain⟨h3,h4⟩:=hr;refine⟨by rw[←h2];exact(cH h1).2 ⟨n,h3⟩,?_⟩
   obtain⟨x,S1⟩:=r;cases x with
   | norm =>
    simp only at h4 ⊢;rw[←jb (nj hc n) ops ops 0 S S1 h3];exact h4
   | _=>exact h4
  ·rintro ⟨h3,h4⟩
   rw[←h2] at h3;obtain⟨n,h3⟩:=(cH h1).1 h3;refine⟨n,?_⟩
   rw[key];refine⟨h3,?_⟩
   obtain⟨x,S1⟩:=r;cases x with
   | norm =>
    simp only at h4 ⊢;rw[jb (nj hc n) ops ops 0 S S1 h3];exact h4
   | _=>exact h4
theorem Cs (hc:UpC c) (ops pre:List Oper) (S:St):(Up fun n=>gQ K (c n) ops pre S)∧limO (fun n=>gQ K (c n) ops pre S)=gQ K (limC c) ops pre S:=by
 obtain⟨h1,h2⟩:=jS (K:=K) hc ops pre S;have key:∀ (call:CallF) (S1:St),gQ K call ops pre S=some S1↔aV K call ops pre S=some (.norm,S1)∧dt ops (br K call ops 0 pre S)=true:=fun call S1=>by
  unfold gQ;cases hr:aV K call ops pre S with
  | none=>simp
  | some q =>
   obtain⟨x,S2⟩:=q;cases x<;>simp
   exact And.comm
 have hup:Up fun n=>gQ K (c n) ops pre S:=fun n m r hnm hr=>by
  rw[key] at hr ⊢;obtain⟨h3,h4⟩:=hr;refine⟨h1 n m _ hnm h3,?_⟩
  rw[←jb (fun g a b r h=>hc g a b n m r hnm h) ops pre 0 S r h3]
  exact h4
 refine⟨hup,Option.ext fun r => ?_⟩
 rw[cH hup,key];constructor
 ·rintro ⟨n,hr⟩
  rw[key] at hr;obtain⟨h3,h4⟩:=hr;refine⟨by rw[←h2];exact(cH h1).2 ⟨n,h3⟩,?_⟩
  rw[←jb (nj hc n) ops pre 0 S r h3];exact h4
 ·rintro ⟨h3,h4⟩
  rw[←h2] at h3;obtain⟨n,h3⟩:=(cH h1).1 h3;refine⟨n,?_⟩
  rw[key];refine⟨h3,?_⟩
  rw[jb (nj hc n) ops pre 0 S r h3];exact h4
theorem wN (call:CallF) (ops:List Oper) (S:St):gB K call ops S=(gQ K call ops (ops.take (ops.length - 6)) S).bind fun S1=>(jr (ops.drop (ops.length - 6))).bind fun x=>(nA K x S1).map (Out.norm,·):=by
 unfold gB;cases gQ K call ops (ops.take (ops.length - 6)) S<;>cases jr (ops.drop (ops.length - 6))<;>rfl
theorem Bo (hc:UpC c) (ops:List Oper) (S:St):(Up fun n=>gB K (c n) ops S)∧limO (fun n=>gB K (c n) ops S)=gB K (limC c) ops S:=by
 obtain⟨h1,h2⟩:=Cs (K:=K) hc ops (ops.take (ops.length - 6)) S;simp only[wN];rw[←h2];exact lZ _ h1
def du (k:St→Option (Out×St)) (r:Out×St):Option (Out×St) :=
 match r.1 with
 | .norm=>k r.2
 | _=>some r
theorem jV (body:St→Option (Out×St)) (kp:List Nat×List Nat) (n:Nat) (S:St):iter body kp (n+1) S=(body (head kp S)).bind (du (iter body kp n)):=by
 conv=>lhs;unfold iter
 cases body (head kp S) with
 | none=>rfl
 | some r =>
  obtain⟨x,S1⟩:=r;cases x<;>rfl
theorem sJ (call:CallF) (n:Nat) (f:FuncId) (a b:Code) (S:St):bB K call n f (.seq a b) S=(bB K call n f a S).bind (du (bB K call n f b)):=by
 conv=>lhs;unfold bB
 cases bB K call n f a S with
 | none=>rfl
 | some r =>
  obtain⟨x,S1⟩:=r;cases x<;>rfl
def dh (id:Nat) (r:Out×St):Out×St :=
 match r.1 with
 | .exit i=>if i=id then(.norm,r.2) else r
 | _=>r
theorem pg (call:CallF) (n:Nat) (f:FuncId) (id:Nat) (x:Code) (S:St):bB K call n f (.block id x) S=(bB K call n f x S).map (dh id):=by
 conv=>lhs;unfold bB
 cases bB K call n f x S with
 | none=>rfl
 | some r =>
  obtain⟨x,S1⟩:=r;cases x with
  | exit i =>
   simp only[Option.map_some,dh];split<;>rfl
  | _=>rfl
theorem su {k:Nat→St→Option (Out×St)} (hk:∀ S,Up fun n=>k n S) (r:Out×St):Up fun n=>du (k n) r:=by
 obtain⟨x,S1⟩:=r;cases x with
 | norm=>exact hk S1
 | _=>exact fun _ _ _ _ h=>h
theorem nq {body:Nat→St→Option (Out×St)} (hb:∀ S,Up fun n=>body n S) (kp:List Nat×List Nat):∀ (k m n k':Nat) (S:St) (r:Out×St),n≤m→k≤k'→iter (body n) kp k S=some r→iter (body m) kp k' S=some r
 | 0,_,_,_,_,_,_,_,h=>by cases h
 | k+1,m,n,0,_,_,_,hk,_=>by omega
 | k+1,m,n,k'+1,S,r,hnm,hk,h=>by
  rw[jV,Option.bind_eq_some_iff] at h ⊢;obtain⟨⟨x,S1⟩,h1,h2⟩:=h;refine⟨(x,S1),hb _ n m _ hnm h1,?_⟩
  cases x with
  | norm=>exact nq hb kp k m n k' S1 r hnm (by omega) h2
  | _=>exact h2
theorem jX (hc:UpC c) (f:FuncId):∀ (x:Code) (S:St),Up fun n=>bB K (c n) n f x S:=by
 intro x
 induction x with
 | skip=>intro S _ _ _ _ h;exact h
 | region id ops draw =>
  intro S;simp only[bB];split
  ·exact(Bo hc ops.toList S).1
  ·exact(lK hc ops.toList draw S).1
 | seq a b iha ihb =>
  intro S;simp only[sJ];exact kY (iha S) fun r=>su ihb r
 | cond cn a b iha ihb =>
  intro S;simp only[bB];split
  ·split
   ·exact iha S
   ·exact ihb S
  ·exact fun _ _ _ _ h=>h
 | block id a ih =>
  intro S n m r hnm h;simp only[pg,Option.map_eq_some_iff] at h ⊢;obtain⟨q,h1,h2⟩:=h;exact⟨q,ih S n m q hnm h1,h2⟩
 | loop a ih =>
  intro S n m r hnm h;simp only[bB] at h ⊢;exact nq (body:=fun n=>bB K (c n) n f a) ih _ n m n m S r hnm hnm h
 | scope a ih =>
  intro S;simp only[bB];exact ih S
 | exit id=>intro S _ _ _ _ h;exact h
 | ret=>intro S _ _ _ _ h;exact h
 | _=>intro S _ _ _ _ h;exact h
theorem oQ (ex:Code→St→Option (Out×St)) (f:FuncId) (args:List AV) (bxs:List (List CV)) {fn:Func} {x:Code} (hf:K.P.funcs[f]? = some fn) (hx:fn.body=some x) :
  enter K ex f args bxs=if args.length≤fn.ntmps∧fn.ntmps<LK then(ex x (aZ fn.ntmps args bxs)).bind (fun r=>leave K f fn bxs.length (some r)) else none:=by
 unfold enter;simp only[hf,hx];split
 ·cases ex x (aZ fn.ntmps args bxs)<;>rfl
 ·rfl
theorem Plan.run_le {c1 c2:CallF} (h:c1.le c2):∀ {p:Plan} {r:Res},p.run c1=some r→p.run c2=some r
 | .fail,_,hr=>by cases hr
 | .done _,_,hr=>hr
 | .call g a b k,r,hr=>by
  unfold Plan.run at hr ⊢;split at hr
  ·rename_i q hq;rw[h g a b q hq];exact Plan.run_le h hr
  ·cases hr
theorem eK:UpC (bQ K):=by
 have key:∀ n, ∀ g a b r,bQ K n g a b=some r→bQ K (n+1) g a b=some r∧∀ m,n≤m→bQ K m g a b=some r:=by
  intro n;have step:∀ n m:Nat,n≤m→∀ g a b r,bQ K n g a b=some r→bQ K m g a b=some r:=by
   intro n
   induction n with
   | zero=>intro m _ g a b r h;cases h
   | succ n ih =>
    intro m hm g a b r h;obtain⟨m,rfl⟩:∃ k,m=k+1:=⟨m - 1,by omega⟩
    have hnm:n≤m:=by omega
    unfold bQ at h ⊢;split
    ·rename_i F hF;rw[hF] at h;exact h
    rename_i hF0;rw[hF0] at h;simp only at h;split
    ·rename_i F hF;rw[hF] at h;exact Plan.run_le (fun g a b r hr=>ih m hnm g a b r hr) h
    ·rename_i hF;rw[hF] at h;simp only at h;have hup:∀ (x:Code) (S:St) (r:Out×St),bB K (bQ K n) n g x S=some r→bB K (bQ K m) m g x S=some r:=fun x S r hr=>by
      let c:Nat→CallF:=fun j=>if j<m then bQ K n else bQ K m
      have hc:UpC c:=fun g a b i j r hij hr=>by
       show c j g a b=some r
       have hr:c i g a b=some r:=hr
       simp only[c] at hr ⊢;split at hr
       ·split
        ·exact hr
        ·exact ih m hnm g a b r hr
       ·rw[if_neg (by omega)];exact hr
      rcases Nat.lt_or_ge n m with hlt|hge
      ·have h1:c n=bQ K n:=if_pos hlt
       have h2:c m=bQ K m:=if_neg (by omega)
       have:=jX (K:=K) hc g x S n m r hnm (by show bB K (c n) n g x S=some r;rw[h1];exact hr)
       have this:bB K (c m) m g x S=some r:=this
       rw[h2] at this;exact this
      ·have:n=m:=by omega
       subst this;exact hr
     cases hf:K.P.funcs[g]? with
     | none=>unfold enter at h;simp only[hf] at h;cases h
     | some fn =>
      cases hx:fn.body with
      | none=>unfold enter at h;simp only[hf,hx] at h;cases h
      | some x =>
       rw[oQ _ _ _ _ hf hx] at h ⊢;split at h
       ·rename_i hl;rw[if_pos hl];rw[Option.bind_eq_some_iff] at h ⊢;obtain⟨q,h1,h2⟩:=h;exact⟨q,hup _ _ _ h1,h2⟩
       ·cases h
  exact fun g a b r h=>⟨step n (n+1) (by omega) g a b r h,fun m hm=>step n m hm g a b r h⟩
 exact fun g a b n m r hnm h=>(key n g a b r h).2 m hnm
noncomputable def den (K:Cfg):CallF:=limC (bQ K)
noncomputable def exL (K:Cfg) (f:FuncId) (x:Code) (S:St):Option (Out×St):=limO fun n=>bB K (bQ K n) n f x S
theorem dL {g:FuncId} {a:List AV} {b:List (List CV)} {r:Res}:den K g a b=some r↔∃ n,bQ K n g a b=some r:=cH (eK g a b)
theorem ou (hK:Prog K) {f:FuncId} {args:List AV} {bxs:List (List CV)} {r:Res} (hg:K.good f=true) (h:den K f args bxs=some r):Contract K.P f args bxs r:=by
 obtain⟨n,h⟩:=dL.1 h;exact tE hK n f args bxs r hg h
theorem pi {f:FuncId} {F:List AV→List (List CV)→Option (AV×List (List CV))} (h:K.pr f=some F) (args:List AV) (bxs:List (List CV)):den K f args bxs=(F args bxs).map fun x=>.ret x.1 x.2:=by
 apply Option.ext
 intro r;rw[dL];constructor
 ·rintro ⟨n,hn⟩
  cases n with
  | zero=>cases hn
  | succ n =>
   unfold bQ at hn;simp only[h] at hn;exact hn
 ·intro hr;refine⟨1,?_⟩
  unfold bQ;simp only[h];exact hr
theorem lp {c:Nat→CallF} (hc:UpC c):∀ p:Plan,(Up fun n=>p.run (c n))∧limO (fun n=>p.run (c n))=p.run (limC c)
 | .fail=>⟨gm _,cd _⟩
 | .done r=>⟨gm _,cd _⟩
 | .call g a b k=>by
  have e:∀ c:CallF,(Plan.call g a b k).run c=(c g a b).bind fun r=>(k r).run c:=fun c=>by
   rw[Plan.run];cases c g a b<;>rfl
  simp only[e];refine⟨kY (k:=fun n r=>(k r).run (c n)) (hc g a b) fun r=>(lp hc (k r)).1,?_⟩
  rw[iw (k:=fun n r=>(k r).run (c n)) (hc g a b) fun r=>(lp hc (k r)).1]
  show Option.bind (limC c g a b) _=_
  congr 1
  funext r
  exact(lp hc (k r)).2
theorem zK {f:FuncId} {F:List AV→List (List CV)→Plan} (hp:K.pr f=none) (h:K.hp f=some F) (args:List AV) (bxs:List (List CV)):den K f args bxs=(F args bxs).run (den K):=by
 show limO (fun n=>bQ K n f args bxs)=_
 rw[←qt (eK f args bxs)];refine Eq.trans ?_ (lp (eK (K:=K)) (F args bxs)).2
 congr 1
 funext n
 conv=>lhs;unfold bQ
 simp only[hp,h]
theorem rH {f:FuncId} {fn:Func} {x:Code} (hp:K.pr f=none) (hh:K.hp f=none) (hf:K.P.funcs[f]? = some fn) (hx:fn.body=some x) (args:List AV) (bxs:List (List CV)) :
  den K f args bxs=if args.length≤fn.ntmps∧fn.ntmps<LK then(exL K f x (aZ fn.ntmps args bxs)).bind (fun r=>leave K f fn bxs.length (some r)) else none:=by
 show limO (fun n=>bQ K n f args bxs)=_
 rw[←qt (eK f args bxs)];have:(fun n=>bQ K (n+1) f args bxs)=fun n=>if args.length≤fn.ntmps∧fn.ntmps<LK then(bB K (bQ K n) n f x (aZ fn.ntmps args bxs)).bind (fun r=>leave K f fn bxs.length (some r)) else none:=by
  funext n
  conv=>lhs;unfold bQ
  simp only[hp,hh];exact oQ _ _ _ _ hf hx
 rw[this];split
 ·rw[iw (k:=fun _ r=>leave K f fn bxs.length (some r)) (jX eK f x _) fun _=>gm _]
  simp only[cd];rfl
 ·exact cd none
theorem cf (f:FuncId) (S:St):exL K f .skip S=some (.norm,S):=cd _
theorem cF (f:FuncId) (S:St):exL K f .ret S=some (.ret,S):=cd _
theorem ce (f:FuncId) (id:Nat) (S:St):exL K f (.exit id) S=some (.exit id,S):=cd _
theorem bA (f:FuncId) (id:Nat) (ops:Array Oper) (draw:Bool) (S:St) (h:K.hook f id=false):exL K f (.region id ops draw) S=ay K (den K) ops.toList draw S:=by
 unfold exL;simp only[bB,h,Bool.false_eq_true,if_false];exact(lK eK ops.toList draw S).2
theorem xw {k:Nat→St→Option (Out×St)} (r:Out×St):limO (fun n=>du (k n) r)=du (fun S=>limO fun n=>k n S) r:=by
 obtain⟨x,S1⟩:=r;cases x with
 | norm=>rfl
 | _=>exact cd _
theorem cG (f:FuncId) (a b:Code) (S:St):exL K f (.seq a b) S=(exL K f a S).bind (du (exL K f b)):=by
 unfold exL;simp only[sJ];rw[iw (jX eK f a S) fun r=>su (fun S=>jX eK f b S) r]
 congr 1
 funext r
 exact xw r
theorem cj (f:FuncId) (cn:Operand) (a b:Code) (S:St):exL K f (.cond cn a b) S=(match opd S.sl cn with
  | .c (.pv (.bool t))=>if t then exL K f a S else exL K f b S
  | _=>none):=by
 unfold exL;simp only[bB];cases opd S.sl cn with
 | c v =>
  cases v with
  | pv p =>
   cases p with
   | bool t=>cases t<;>rfl
   | _=>exact cd none
  | _=>exact cd none
 | _=>exact cd none
theorem bH (f:FuncId) (a:Code) (S:St):exL K f (.scope a) S=exL K f a S:=by
 unfold exL;simp only[bB]
theorem bF (f:FuncId) (id:Nat) (a:Code) (S:St):exL K f (.block id a) S=(exL K f a S).map (dh id):=by
 unfold exL;simp only[pg];have:∀ F:Nat→Option (Out×St),Up F→limO (fun n=>(F n).map (dh id))=(limO F).map (dh id):=fun F hF=>by
  have e:(fun n=>(F n).map (dh id))=fun n=>(F n).bind fun x=>some (dh id x):=by
   funext n;cases F n<;>rfl
  rw[e,iw (k:=fun _ x=>some (dh id x)) hF fun _=>gm _]
  simp only[cd];cases limO F<;>rfl
 exact this _ (jX eK f a S)
theorem aB (f:FuncId) (a:Code) (S:St):exL K f (.loop a) S=(exL K f a (head (K.keep f ((ax a).getD 0)) S)).bind (du (exL K f (.loop a))):=by
 have hup:=jX (K:=K) (c:=bQ K) eK f
 apply Option.ext
 intro r;unfold exL;rw[cH (hup _ S)];rw[Option.bind_eq_some_iff];have hit:∀ n,bB K (bQ K n) n f (.loop a)=iter (bB K (bQ K n) n f a) (K.keep f ((ax a).getD 0)) n:=fun n=>by funext S;simp only[bB]
 constructor
 ·rintro ⟨n,h⟩
  rw[hit] at h;cases n with
  | zero=>cases h
  | succ n =>
   rw[jV,Option.bind_eq_some_iff] at h;obtain⟨q,h1,h2⟩:=h;refine⟨q,(cH (hup a _)).2 ⟨n+1,h1⟩,?_⟩
   obtain⟨x,S1⟩:=q;cases x with
   | norm =>
    refine(cH (hup _ S1)).2 ⟨n+1,?_⟩
    rw[hit];exact nq (body:=fun n=>bB K (bQ K n) n f a) (hup a) _ n (n+1) (n+1) (n+1) S1 r (by omega) (by omega) h2
   | _=>exact h2
 ·rintro ⟨q,h1,h2⟩
  obtain⟨n,h1⟩:=(cH (hup a _)).1 h1;obtain⟨x,S1⟩:=q;cases x with
  | norm =>
   obtain⟨m,h2⟩:=(cH (hup (.loop a) S1)).1 h2;rw[hit] at h2;refine⟨max n m+1,?_⟩
   rw[hit,jV,Option.bind_eq_some_iff];refine⟨(.norm,S1),hup a _ n _ _ (by omega) h1,?_⟩
   exact nq (body:=fun n=>bB K (bQ K n) n f a) (hup a) _ m (max n m+1) m (max n m) S1 r (by omega) (by omega) h2
  | _ =>
   refine⟨n+1,?_⟩
   rw[hit,jV,Option.bind_eq_some_iff];exact⟨_,hup a _ n (n+1) _ (by omega) h1,h2⟩
end
end Go.Abs
namespace Go.Abs
open Go
inductive Desc where
 | str
 | int (k:IntKind)
 | sl (e:TypeId) (u8:Bool)
def bm (P:Program) (t:TypeId):Option Desc :=
 match P.underlying t with
 | some .string=>some .str
 | some (.int k)=>some (.int k)
 | some (.slice e)=>some (.sl e (isU8 P e))
 | _=>none
def fe (P:Program) (t:TypeId):Option (List (Nat×Nat)) :=
 match P.underlying t with
 | some (.struct fs)=>fs.toList.mapM (fun f=>(P.info? f.type).map fun i=>(f.offset,i.size))
 | _=>none
def iA (P:Program) (t:TypeId):Option (TypeId×Nat) :=
 match P.underlying t with
 | some (.slice e)=>(match P.info? e with
  | some i=>if i.bytes≤4096∧0<i.size∧i.zero.any (fun z=>z.cells.size==i.size) then some (e,i.size) else none
  | none=>none)
 | _=>none
variable {P:Program} {t u e:TypeId}
theorem gh (h:bm P t=some .str):P.underlying t=some .string:=by
 unfold bm at h;split at h<;>first|assumption|cases h
theorem kR {k:IntKind} (h:bm P t=some (.int k)):P.underlying t=some (.int k):=by
 unfold bm at h;split at h
 ·cases h
 ·cases h;assumption
 ·cases h
 ·cases h
theorem iV {b:Bool} (h:bm P t=some (.sl e b)):P.underlying t=some (.slice e)∧isU8 P e=b:=by
 unfold bm at h;split at h
 ·cases h
 ·cases h
 ·cases h;exact⟨by assumption,rfl⟩
 ·cases h
theorem td {n:Nat} (h:iA P t=some (e,n)):P.underlying t=some (.slice e)∧∃ i,P.info? e=some i∧i.size=n∧(i.bytes≤4096∧0<i.size∧i.zero.any (fun z=>z.cells.size==i.size)=true):=by
 unfold iA at h;split at h
 case h_2=>cases h
 rename_i hu;split at h
 case h_2=>cases h
 rename_i i hi;split at h
 case isFalse=>cases h
 rename_i hc;cases h;exact⟨hu,i,hi,rfl,hc⟩
def lens (n:Nat) (c:List (List PV)):Bool:=c.all fun el=>el.length==n
theorem eZ {n:Nat} (h:iA P t=some (e,n)) {s x:AV}:eW P [t,u] s x =
    (match aN s,fy P e u x with
     | some a,some b=>if a.length+b.length<fg∧lens n a=true∧lens n b=true∧(ownT s=none∨ownT s=some e∨a.isEmpty=true) then some (.c (.own e (a++b))) else none
     | _,_=>(match s,fy P e u x with
       | .c (.full a),some (y::b)=>if a.length+(y::b).length<fg∧lens n a=true∧lens n (y::b)=true then some (.c (.own e (a++y::b))) else none
       | _,_=>none)):=by
  obtain⟨hu,i,hi,rfl,h1,h2,h3⟩:=td h;unfold eW;simp only[hu,hi];cases s with
  | c v =>
    cases v with
    | full c =>
      simp only[content,aN];cases fy P e u x with
      | none=>rfl
      | some b =>
        cases b with
        | nil=>rfl
        | cons y b=>simp[h1,h2,h3,lens,ownT]
    | own e' c =>
      simp only[content,aN];cases fy P e u x with
      | none=>rfl
      | some b=>simp[h1,h2,h3,lens]
    | nils =>
      simp only[content,aN];cases fy P e u x with
      | none=>rfl
      | some b=>simp[h1,h2,h3,lens]
    | pv p=>simp[aN]
    | _=>simp[content,aN]
  | _=>simp[content,aN]
theorem dk {b:Bool} {e':TypeId} (h:bm P u=some (.sl e' b)) {x:AV}:fy P e u x=content x:=by
 unfold fy;simp only[(iV h).1]
theorem AL (h:bm P u=some .str) {x:AV} (h8:isU8 P e=true):fy P e u x=(match x with|.c (.pv (.str s))=>some (s.map fun b=>[.int .u8 b.toNat])|_=>none):=by
 unfold fy;simp only[gh h];split<;>simp[h8]
theorem cy (h:bm P t=some .str) {x:AV}:kA P t x=(match x with|.c (.pv (.str s))=>some (.int .i64 s.length)|_=>none):=by
 unfold kA;simp only[gh h];rfl
theorem ah {b:Bool} (h:bm P t=some (.sl e b)) {x:AV}:kA P t x=(match content x with|some c=>some (.int .i64 c.length)|none=>none):=by
 unfold kA;simp only[(iV h).1];rfl
theorem ag {b:Bool} (h:bm P t=some (.sl e b)) {x i:AV}:ey P t x i =
    (match content x,i with
     | some c,.c (.pv (.int _ n))=>if 0≤n then(match c[n.toNat]? with|some el=>if szOf P e=some el.length then some (.c (.cptr el)) else none|none=>none) else none
     | _,_=>none):=by
  have e0:ey P t x i=eI P t x i:=by
    unfold ey;simp only[(iV h).1]
  rw[e0];unfold eI;simp only[(iV h).1];cases content x with
  | none=>rfl
  | some c =>
    cases i with
    | c v=>cases v<;>first|rfl|(rename_i p;cases p<;>rfl)
    | _=>rfl
theorem fk (h:bm P t=some .str) {x i:AV}:jA P t x i =
    (match x,i with
     | .c (.pv (.str s)),.c (.pv (.int _ i))=>if 0≤i then(match s[i.toNat]? with|some b=>some (.c (.pv (.int .u8 b.toNat)))|none=>none) else none
     | _,_=>none):=by
  unfold jA;simp only[gh h];rfl
theorem ai (h:bm P t=some .str) {x:AV} {lo hi:Option AV}:dW P t x lo hi none =
    (match x with
     | .c (.pv (.str s)) =>
       (match bound s.length hi s.length with
        | some h=>(match bound h lo 0 with|some l=>some (.c (.pv (.str ((s.take h).drop l))))|none=>none)
        | none=>none)
     | _=>none):=by
  unfold dW;simp only[gh h];rfl
theorem cS {b:Bool} {n:Nat} (h:bm P t=some (.sl e b)) (hn:szOf P e=some n) {x:AV} {lo hi:Option AV}:dW P t x lo hi none =
    (match content x with
     | some c =>
       (match bound c.length hi c.length with
        | some h=>(match bound h lo 0 with
          | some l=>if lens n c=true then some (.c (.pv (.sl ((c.take h).drop l)))) else none
          | none=>none)
        | none=>none)
     | none=>none):=by
  unfold dW;simp only[(iV h).1,hn];cases content x with
  | none=>rfl
  | some c =>
    simp only[Option.any_some];rfl
theorem bh {parts:List (Nat×AV)} {z:List CV} {pl:List (Nat×Nat)} (hz:zeroCells P t=some z) (hp:fe P t=some pl) :
  jF P t parts=(match aD (fun i=>pl[i]?) z parts with|some l=>some (.agg l)|none=>none):=by
 unfold fe at hp;split at hp
 case h_2=>cases hp
 rename_i fs hu;unfold jF;simp only[hz,hu,hp];rfl
theorem bo {b:Bool} {len n:Nat} {parts:List (Nat×AV)} {z:List CV} (h:bm P t=some (.sl e b)) (hn:szOf P e=some n) (hz:zeroCells P e=some z) (hc:z.length=n∧0<n∧len*n≤1048576) :
  dl P t len parts=(match aD (fun i=>some (i*n,n)) (reps z len) parts with
    | some l=>(match pvs l with|some ps=>some (.c (.own e (chunks n ps len)))|none=>none)
    | none=>none):=by
 unfold dl;simp only[(iV h).1,hn,hz];rw[if_pos hc];rfl
theorem cZ {k k':IntKind} (h:bm P t=some (.int k)) (hu:bm P u=some (.int k')) {x:AV}:fX P t u x=(match x with|.c (.pv (.int _ n))=>some (.c (.pv (.int k' (k'.wrap n))))|_=>none):=by
 unfold fX;simp only[kR h,kR hu];rfl
theorem rD {k:IntKind} (h:bm P t=some (.int k)) (hu:bm P u=some .str) {x:AV}:fX P t u x=(match x with|.c (.pv (.int _ n))=>some (.c (.pv (.str (Utf8.encode n).data.toList)))|_=>none):=by
 unfold fX;simp only[kR h,gh hu];rfl
theorem dZ (h : bm P t = some (.sl e true)) (hu : bm P u = some .str) {x : AV} : fX P t u x = (match content x with
       | some c=>(match bytesOf c with|some s=>some (.c (.pv (.str s)))|none=>none)
       | none=>none):=by
  obtain⟨h1,h2⟩:=iV h;unfold fX;simp only[gh hu,h1,h2,if_true];rfl
theorem gu (h:bm P t=some .str) {x:AV}:jv P t x=(match x with|.c (.pv (.str s))=>some (.c (.iter s 0))|_=>none):=by
 unfold jv;simp only[gh h];rfl
theorem bG (a b:Nat):(some a==some b)=(a==b):=rfl
theorem cg (a b:Nat):(some a != some b) = !(a==b):=rfl
theorem ci (s:Nat):nobox s=none:=rfl
theorem dp (t:Nat):bot t=.c .top:=rfl
def Ends (r:Option (Out×St)) (Q:Out→St→Prop):Prop:=∃ o S,r=some (o,S)∧Q o S
theorem aX {o:Out} {S:St} {Q:Out→St→Prop}:Ends (some (o,S)) Q=Q o S:=by
 apply propext
 exact⟨fun ⟨_,_,e,h⟩=>by cases e;exact h,fun h=>⟨_,_,rfl,h⟩⟩
theorem tB {α:Type} {ops:List Oper} {n j i:Nat} {a b:α} (h:reach ops n j i=true):(if reach ops n j i=true then a else b)=a:=if_pos h
theorem wU {ops:List Oper} {n j i:Nat} {b:Bool} (h:reach ops n j i=true):(reach ops n j i&&b)=b:=by rw[h];rfl
end Go.Abs
namespace Go.Abs
open Go
theorem CV.live_live (bs:List Nat) (v:CV):(v.live bs).live bs=v.live bs:=by
 cases v with
 | loc s o =>
  by_cases h:bs.contains s=true
  ·have e:CV.live bs (.loc s o)=.loc s o:=if_pos h
   rw[e,e]
  ·have e:CV.live bs (.loc s o)=.top:=if_neg h
   rw[e];rfl
 | fn f c =>
  by_cases h:c.all (fun x=>bs.contains x.1)=true
  ·have e:CV.live bs (.fn f c)=.fn f c:=if_pos h
   rw[e,e]
  ·have e:CV.live bs (.fn f c)=.top:=if_neg h
   rw[e];rfl
 | _=>rfl
theorem CV.liveIn_liveIn (bs:List Nat) (v:CV):(v.liveIn bs).liveIn bs=v.liveIn bs:=by
 cases v with
 | loc s o =>
  by_cases h:bs.contains s=true
  ·have e:CV.liveIn bs (.loc s o)=.loc s o:=if_pos h
   rw[e,e]
  ·have e:CV.liveIn bs (.loc s o)=.top:=if_neg h
   rw[e];rfl
 | fn f c =>
  by_cases h:c.all (fun x=>bs.contains x.1)=true
  ·have e:CV.liveIn bs (.fn f c)=.fn f c:=if_pos h
   rw[e,e]
  ·have e:CV.liveIn bs (.fn f c)=.top:=if_neg h
   rw[e];rfl
 | _=>rfl
theorem AV.live_live (bs:List Nat) (v:AV):(v.live bs).live bs=v.live bs:=by
 cases v with
 | c v=>simp only[AV.live,CV.live_live]
 | agg l=>simp[AV.live,CV.liveIn_liveIn,Function.comp_def]
 | tup l=>rfl
theorem lR (kp:List Nat×List Nat) (S:St):head kp (head kp S)=head kp S:=by
 refine St.ext' rfl ?_ ?_
 ·funext s
  show aF kp.2 (aF kp.2 S.bx kp.2) kp.2 s=aF kp.2 S.bx kp.2 s
  rw[eJ,eJ];split
  ·cases S.bx s with
   | none=>rfl
   | some l=>simp[CV.live_live,Function.comp_def]
  ·rfl
 ·intro t
  show aI kp.2 (aI kp.2 S.sl kp.1) kp.1 t=aI kp.2 S.sl kp.1 t
  rw[fG,fG];split
  ·exact AV.live_live _ _
  ·rfl
def fQ (r:Nat):Code→Option Code
 | .loop a=>bif Nat.beq ((ax a).getD 0) r then some a else fQ r a
 | .seq a b=>(fQ r a).orElse fun _=>fQ r b
 | .cond _ a b=>(fQ r a).orElse fun _=>fQ r b
 | .block _ a=>fQ r a
 | .scope a=>fQ r a
 | _=>none
def aO (fn:Func) (r:Nat):Code:=((fn.body.bind (fQ r))).getD .skip
theorem gY {r:Option (Out×St)} {Q Q':Out→St→Prop} (h:Ends r Q) (f:∀ o S,Q o S→Q' o S):Ends r Q':=by
 obtain⟨o,S,e,q⟩:=h;exact⟨o,S,e,f o S q⟩
end Go.Abs
namespace Go.Proofs
open Go.Shelf
def Tryz.lays169_ren:Go.Shelf.Ren:=⟨fun|169=>131|n=>n,fun|70=>166|9=>9|0=>0|72=>168|37=>69|127=>222|3=>3|5=>5|n=>n,fun|n=>n⟩
theorem Tryz.lays169:Go.Proofs.Lays.n169 Tryz.prog Tryz.lays169_ren := {
 mixed:=by kernel_rfl
 f169:=Tryz.func131.trans (congrArg some (by kernel_rfl))
 t0:=Tryz.underlying0
 a0:=Tryz.isAgg0
 z0:=Tryz.sizeOf0
 v0:=Tryz.zeroValue0
 t3:=Tryz.underlying3
 a3:=Tryz.isAgg3
 z3:=Tryz.sizeOf3
 v3:=Tryz.zeroValue3
 t9:=Tryz.underlying9
 a9:=Tryz.isAgg9
 z9:=Tryz.sizeOf9
 v9:=Tryz.zeroValue9
 t37:=Tryz.underlying69
 a37:=Tryz.isAgg69
 z37:=Tryz.sizeOf69
 v37:=Tryz.zeroValue69
 t70:=Tryz.underlying166
 a70:=Tryz.isAgg166
 z70:=Tryz.sizeOf166
 v70:=Tryz.zeroValue166
 t72:=Tryz.underlying168
 a72:=Tryz.isAgg168
 z72:=Tryz.sizeOf168
 v72:=Tryz.zeroValue168
 t127:=Tryz.underlying222
 a127:=Tryz.isAgg222
 z127:=Tryz.sizeOf222
 v127:=Tryz.zeroValue222 }
theorem Tryz.Builder_Extra_169:Builder.Extra Tryz.prog Tryz.lays169_ren := {
 sizeBuilder:=by kernel_rfl
 liesBuilder:=by kernel_rfl
 t5:=Tryz.underlying5
 a5:=Tryz.isAgg5
 z5:=Tryz.sizeOf5
 v5:=Tryz.zeroValue5
 infoByte:=by kernel_rfl
 cellsByte:=by kernel_rfl
 sizeByte:=by kernel_rfl
 neB5:=by decide }
def Tryz.lays156_ren:Go.Shelf.Ren:=⟨fun|156=>120|165=>186|166=>129|169=>131|240=>190|241=>232|276=>234|277=>273|n=>n,fun|31=>41|9=>9|3=>3|4=>4|0=>0|20=>20|72=>168|76=>172|70=>166|37=>69|75=>171|127=>222|164=>253|5=>5|80=>175|n=>n,fun|n=>n⟩
theorem Tryz.lays156:Go.Proofs.Lays.n156 Tryz.prog Tryz.lays156_ren := {
 mixed:=by kernel_rfl
 f156:=Tryz.func120.trans (congrArg some (by kernel_rfl))
 f165:=Tryz.func186.trans (congrArg some (by kernel_rfl))
 f166:=Tryz.func129.trans (congrArg some (by kernel_rfl))
 f169:=Tryz.func131.trans (congrArg some (by kernel_rfl))
 f240:=Tryz.func190.trans (congrArg some (by kernel_rfl))
 f241:=Tryz.func232.trans (congrArg some (by kernel_rfl))
 f276:=Tryz.func234.trans (congrArg some (by kernel_rfl))
 f277:=Tryz.func273.trans (congrArg some (by kernel_rfl))
 t0:=Tryz.underlying0
 a0:=Tryz.isAgg0
 z0:=Tryz.sizeOf0
 v0:=Tryz.zeroValue0
 t3:=Tryz.underlying3
 a3:=Tryz.isAgg3
 z3:=Tryz.sizeOf3
 v3:=Tryz.zeroValue3
 t4:=Tryz.underlying4
 a4:=Tryz.isAgg4
 z4:=Tryz.sizeOf4
 v4:=Tryz.zeroValue4
 t9:=Tryz.underlying9
 a9:=Tryz.isAgg9
 z9:=Tryz.sizeOf9
 v9:=Tryz.zeroValue9
 t20:=Tryz.underlying20
 a20:=Tryz.isAgg20
 z20:=Tryz.sizeOf20
 v20:=Tryz.zeroValue20
 t31:=Tryz.underlying41
 a31:=Tryz.isAgg41
 z31:=Tryz.sizeOf41
 v31:=Tryz.zeroValue41
 t37:=Tryz.underlying69
 a37:=Tryz.isAgg69
 z37:=Tryz.sizeOf69
 v37:=Tryz.zeroValue69
 t70:=Tryz.underlying166
 a70:=Tryz.isAgg166
 z70:=Tryz.sizeOf166
 v70:=Tryz.zeroValue166
 t72:=Tryz.underlying168
 a72:=Tryz.isAgg168
 z72:=Tryz.sizeOf168
 v72:=Tryz.zeroValue168
 t75:=Tryz.underlying171
 a75:=Tryz.isAgg171
 z75:=Tryz.sizeOf171
 v75:=Tryz.zeroValue171
 t76:=Tryz.underlying172
 a76:=Tryz.isAgg172
 z76:=Tryz.sizeOf172
 v76:=Tryz.zeroValue172
 t127:=Tryz.underlying222
 a127:=Tryz.isAgg222
 z127:=Tryz.sizeOf222
 v127:=Tryz.zeroValue222
 t164:=Tryz.underlying253
 a164:=Tryz.isAgg253
 z164:=Tryz.sizeOf253
 v164:=Tryz.zeroValue253 }
theorem Tryz.Builder_Extra_156:Builder.Extra Tryz.prog Tryz.lays156_ren := {
 sizeBuilder:=by kernel_rfl
 liesBuilder:=by kernel_rfl
 t5:=Tryz.underlying5
 a5:=Tryz.isAgg5
 z5:=Tryz.sizeOf5
 v5:=Tryz.zeroValue5
 infoByte:=by kernel_rfl
 cellsByte:=by kernel_rfl
 sizeByte:=by kernel_rfl
 neB5:=by decide }
open Go.RowKit in
theorem Tryz.strings_Join_none (a:Option Addr) (c:Nat) (sep:ByteArray) (w:World) :
  Calls Tryz.prog 120 #[.slice a 0 c,.string sep] w fun e w'=>e=.returned (.string ⟨#[]⟩)∧w'=w:=Any.strings_Join_none Tryz.lays156 Tryz.Builder_Extra_156 a c sep w
open Go.RowKit in
theorem Tryz.strings_Join (bk o c:Nat) (xs:List ByteArray) (sep:ByteArray) (w:World) (hcells:∀ (j:Nat) x,xs[j]? = some x→w.cell? ⟨bk,o+j,none⟩=some (.string x)) (hbk:bk<w.heap.size) (hN:xs.length≤140737488355328) (hcap:xs.length≤c) (hlen:(Lib.join (xs.map (·.data.toList)) sep.data.toList).length≤140737488355328) :
  Calls Tryz.prog 120 #[.slice (some ⟨bk,o,none⟩) xs.length c,.string sep] w fun e w'=>e=.returned (.string ⟨(Lib.join (xs.map (·.data.toList)) sep.data.toList).toArray⟩)∧Below w.heap.size w w':=Any.strings_Join Tryz.lays156 Tryz.Builder_Extra_156 bk o c xs sep w hcells hbk hN hcap hlen
def Tryz.lays160_ren:Go.Shelf.Ren:=⟨fun|160=>339|232=>343|231=>342|227=>287|234=>345|233=>344|236=>347|235=>346|228=>288|271=>352|151=>351|197=>350|120=>359|152=>285|260=>358|137=>155|119=>313|224=>283|225=>282|217=>213|266=>251|n=>n,fun|9=>9|4=>4|3=>3|5=>5|117=>290|116=>289|0=>0|124=>308|21=>21|105=>333|46=>286|119=>347|139=>350|138=>349|n=>n,fun|3=>6|4=>7|n=>n⟩
theorem Tryz.lays160:Go.Proofs.Lays.n160 Tryz.prog Tryz.lays160_ren := {
 mixed:=by kernel_rfl
 f119:=Tryz.func313.trans (congrArg some (by kernel_rfl))
 f120:=Tryz.func359.trans (congrArg some (by kernel_rfl))
 f137:=Tryz.func155.trans (congrArg some (by kernel_rfl))
 f151:=Tryz.func351.trans (congrArg some (by kernel_rfl))
 f152:=Tryz.func285.trans (congrArg some (by kernel_rfl))
 f160:=Tryz.func339.trans (congrArg some (by kernel_rfl))
 f197:=Tryz.func350.trans (congrArg some (by kernel_rfl))
 f217:=Tryz.func213.trans (congrArg some (by kernel_rfl))
 f224:=Tryz.func283.trans (congrArg some (by kernel_rfl))
 f225:=Tryz.func282.trans (congrArg some (by kernel_rfl))
 f227:=Tryz.func287.trans (congrArg some (by kernel_rfl))
 f228:=Tryz.func288.trans (congrArg some (by kernel_rfl))
 f231:=Tryz.func342.trans (congrArg some (by kernel_rfl))
 f232:=Tryz.func343.trans (congrArg some (by kernel_rfl))
 f233:=Tryz.func344.trans (congrArg some (by kernel_rfl))
 f234:=Tryz.func345.trans (congrArg some (by kernel_rfl))
 f235:=Tryz.func346.trans (congrArg some (by kernel_rfl))
 f236:=Tryz.func347.trans (congrArg some (by kernel_rfl))
 f260:=Tryz.func358.trans (congrArg some (by kernel_rfl))
 f266:=Tryz.func251.trans (congrArg some (by kernel_rfl))
 f271:=Tryz.func352.trans (congrArg some (by kernel_rfl))
 t0:=Tryz.underlying0
 a0:=Tryz.isAgg0
 z0:=Tryz.sizeOf0
 v0:=Tryz.zeroValue0
 t3:=Tryz.underlying3
 a3:=Tryz.isAgg3
 z3:=Tryz.sizeOf3
 v3:=Tryz.zeroValue3
 t4:=Tryz.underlying4
 a4:=Tryz.isAgg4
 z4:=Tryz.sizeOf4
 v4:=Tryz.zeroValue4
 t5:=Tryz.underlying5
 a5:=Tryz.isAgg5
 z5:=Tryz.sizeOf5
 v5:=Tryz.zeroValue5
 t9:=Tryz.underlying9
 a9:=Tryz.isAgg9
 z9:=Tryz.sizeOf9
 v9:=Tryz.zeroValue9
 t21:=Tryz.underlying21
 a21:=Tryz.isAgg21
 z21:=Tryz.sizeOf21
 v21:=Tryz.zeroValue21
 t46:=Tryz.underlying286
 a46:=Tryz.isAgg286
 z46:=Tryz.sizeOf286
 v46:=Tryz.zeroValue286
 t105:=Tryz.underlying333
 a105:=Tryz.isAgg333
 z105:=Tryz.sizeOf333
 v105:=Tryz.zeroValue333
 t116:=Tryz.underlying289
 a116:=Tryz.isAgg289
 z116:=Tryz.sizeOf289
 t117:=Tryz.underlying290
 a117:=Tryz.isAgg290
 z117:=Tryz.sizeOf290
 v117:=Tryz.zeroValue290
 t119:=Tryz.underlying347
 a119:=Tryz.isAgg347
 z119:=Tryz.sizeOf347
 t124:=Tryz.underlying308
 a124:=Tryz.isAgg308
 z124:=Tryz.sizeOf308
 v124:=Tryz.zeroValue308
 t138:=Tryz.underlying349
 a138:=Tryz.isAgg349
 z138:=Tryz.sizeOf349
 v138:=Tryz.zeroValue349
 t139:=Tryz.underlying350
 a139:=Tryz.isAgg350
 z139:=Tryz.sizeOf350
 v139:=Tryz.zeroValue350
 g3:=by kernel_rfl
 g4:=by kernel_rfl }
def Tryz.lays137_ren:Go.Shelf.Ren:=⟨fun|137=>155|217=>213|266=>251|n=>n,fun|9=>9|5=>5|3=>3|n=>n,fun|n=>n⟩
theorem Tryz.lays137:Go.Proofs.Lays.n137 Tryz.prog Tryz.lays137_ren := {
 mixed:=by kernel_rfl
 f137:=Tryz.func155.trans (congrArg some (by kernel_rfl))
 f217:=Tryz.func213.trans (congrArg some (by kernel_rfl))
 f266:=Tryz.func251.trans (congrArg some (by kernel_rfl))
 t3:=Tryz.underlying3
 a3:=Tryz.isAgg3
 z3:=Tryz.sizeOf3
 v3:=Tryz.zeroValue3
 t5:=Tryz.underlying5
 a5:=Tryz.isAgg5
 z5:=Tryz.sizeOf5
 v5:=Tryz.zeroValue5
 t9:=Tryz.underlying9
 a9:=Tryz.isAgg9
 z9:=Tryz.sizeOf9
 v9:=Tryz.zeroValue9 }
open Go.RowKit in
theorem Tryz.strings_IndexByte (s:ByteArray) (c:Int) (w:World) :
  Calls Tryz.prog 155 #[.string s,.int .u8 c] w fun e w'=>e=.returned (.int .i64 (Lib.indexByte s.data.toList c.toNat.toUInt8))∧w'=w:=Any.strings_IndexByte Tryz.lays137 s c w
def Tryz.lays172_ren:Go.Shelf.Ren:=⟨fun|172=>340|244=>348|245=>349|247=>353|279=>354|280=>355|281=>356|282=>357|287=>360|316=>361|171=>191|205=>362|321=>363|322=>364|243=>235|246=>276|283=>299|284=>300|285=>301|286=>302|129=>322|317=>321|318=>323|319=>324|320=>325|337=>329|338=>330|n=>n,fun|9=>9|3=>3|75=>171|76=>172|4=>4|5=>5|167=>336|37=>69|0=>0|85=>337|2=>2|168=>339|53=>296|175=>342|46=>286|210=>345|127=>222|145=>354|143=>352|21=>21|171=>295|173=>299|212=>315|51=>304|20=>20|213=>316|232=>323|233=>324|80=>175|n=>n,fun|15=>4|16=>5|17=>1|18=>2|19=>3|n=>n⟩
theorem Tryz.lays172:Go.Proofs.Lays.n172 Tryz.prog Tryz.lays172_ren := {
 mixed:=by kernel_rfl
 f129:=Tryz.func322.trans (congrArg some (by kernel_rfl))
 f171:=Tryz.func191.trans (congrArg some (by kernel_rfl))
 f172:=Tryz.func340.trans (congrArg some (by kernel_rfl))
 f205:=Tryz.func362.trans (congrArg some (by kernel_rfl))
 f243:=Tryz.func235.trans (congrArg some (by kernel_rfl))
 f244:=Tryz.func348.trans (congrArg some (by kernel_rfl))
 f245:=Tryz.func349.trans (congrArg some (by kernel_rfl))
 f246:=Tryz.func276.trans (congrArg some (by kernel_rfl))
 f247:=Tryz.func353.trans (congrArg some (by kernel_rfl))
 f279:=Tryz.func354.trans (congrArg some (by kernel_rfl))
 f280:=Tryz.func355.trans (congrArg some (by kernel_rfl))
 f281:=Tryz.func356.trans (congrArg some (by kernel_rfl))
 f282:=Tryz.func357.trans (congrArg some (by kernel_rfl))
 f283:=Tryz.func299.trans (congrArg some (by kernel_rfl))
 f284:=Tryz.func300.trans (congrArg some (by kernel_rfl))
 f285:=Tryz.func301.trans (congrArg some (by kernel_rfl))
 f286:=Tryz.func302.trans (congrArg some (by kernel_rfl))
 f287:=Tryz.func360.trans (congrArg some (by kernel_rfl))
 f316:=Tryz.func361.trans (congrArg some (by kernel_rfl))
 f317:=Tryz.func321.trans (congrArg some (by kernel_rfl))
 f318:=Tryz.func323.trans (congrArg some (by kernel_rfl))
 f319:=Tryz.func324.trans (congrArg some (by kernel_rfl))
 f320:=Tryz.func325.trans (congrArg some (by kernel_rfl))
 f321:=Tryz.func363.trans (congrArg some (by kernel_rfl))
 f322:=Tryz.func364.trans (congrArg some (by kernel_rfl))
 f337:=Tryz.func329.trans (congrArg some (by kernel_rfl))
 f338:=Tryz.func330.trans (congrArg some (by kernel_rfl))
 t0:=Tryz.underlying0
 a0:=Tryz.isAgg0
 z0:=Tryz.sizeOf0
 v0:=Tryz.zeroValue0
 t2:=Tryz.underlying2
 a2:=Tryz.isAgg2
 z2:=Tryz.sizeOf2
 v2:=Tryz.zeroValue2
 t3:=Tryz.underlying3
 a3:=Tryz.isAgg3
 z3:=Tryz.sizeOf3
 v3:=Tryz.zeroValue3
 t4:=Tryz.underlying4
 a4:=Tryz.isAgg4
 z4:=Tryz.sizeOf4
 v4:=Tryz.zeroValue4
 t5:=Tryz.underlying5
 a5:=Tryz.isAgg5
 z5:=Tryz.sizeOf5
 v5:=Tryz.zeroValue5
 t9:=Tryz.underlying9
 a9:=Tryz.isAgg9
 z9:=Tryz.sizeOf9
 v9:=Tryz.zeroValue9
 t20:=Tryz.underlying20
 a20:=Tryz.isAgg20
 z20:=Tryz.sizeOf20
 v20:=Tryz.zeroValue20
 t21:=Tryz.underlying21
 a21:=Tryz.isAgg21
 z21:=Tryz.sizeOf21
 v21:=Tryz.zeroValue21
 t37:=Tryz.underlying69
 a37:=Tryz.isAgg69
 z37:=Tryz.sizeOf69
 v37:=Tryz.zeroValue69
 t46:=Tryz.underlying286
 a46:=Tryz.isAgg286
 z46:=Tryz.sizeOf286
 v46:=Tryz.zeroValue286
 t51:=Tryz.underlying304
 a51:=Tryz.isAgg304
 z51:=Tryz.sizeOf304
 v51:=Tryz.zeroValue304
 t53:=Tryz.underlying296
 a53:=Tryz.isAgg296
 z53:=Tryz.sizeOf296
 v53:=Tryz.zeroValue296
 t75:=Tryz.underlying171
 a75:=Tryz.isAgg171
 z75:=Tryz.sizeOf171
 v75:=Tryz.zeroValue171
 t76:=Tryz.underlying172
 a76:=Tryz.isAgg172
 z76:=Tryz.sizeOf172
 v76:=Tryz.zeroValue172
 t85:=Tryz.underlying337
 a85:=Tryz.isAgg337
 z85:=Tryz.sizeOf337
 v85:=Tryz.zeroValue337
 t127:=Tryz.underlying222
 a127:=Tryz.isAgg222
 z127:=Tryz.sizeOf222
 v127:=Tryz.zeroValue222
 t143:=Tryz.underlying352
 a143:=Tryz.isAgg352
 z143:=Tryz.sizeOf352
 v143:=Tryz.zeroValue352
 t145:=Tryz.underlying354
 a145:=Tryz.isAgg354
 z145:=Tryz.sizeOf354
 v145:=Tryz.zeroValue354
 t167:=Tryz.underlying336
 a167:=Tryz.isAgg336
 z167:=Tryz.sizeOf336
 v167:=Tryz.zeroValue336
 t168:=Tryz.underlying339
 a168:=Tryz.isAgg339
 z168:=Tryz.sizeOf339
 v168:=Tryz.zeroValue339
 t171:=Tryz.underlying295
 a171:=Tryz.isAgg295
 z171:=Tryz.sizeOf295
 v171:=Tryz.zeroValue295
 t173:=Tryz.underlying299
 a173:=Tryz.isAgg299
 z173:=Tryz.sizeOf299
 v173:=Tryz.zeroValue299
 t175:=Tryz.underlying342
 a175:=Tryz.isAgg342
 z175:=Tryz.sizeOf342
 v175:=Tryz.zeroValue342
 t210:=Tryz.underlying345
 a210:=Tryz.isAgg345
 z210:=Tryz.sizeOf345
 v210:=Tryz.zeroValue345
 t212:=Tryz.underlying315
 a212:=Tryz.isAgg315
 z212:=Tryz.sizeOf315
 v212:=Tryz.zeroValue315
 t213:=Tryz.underlying316
 a213:=Tryz.isAgg316
 z213:=Tryz.sizeOf316
 t232:=Tryz.underlying323
 a232:=Tryz.isAgg323
 z232:=Tryz.sizeOf323
 v232:=Tryz.zeroValue323
 t233:=Tryz.underlying324
 a233:=Tryz.isAgg324
 z233:=Tryz.sizeOf324
 v233:=Tryz.zeroValue324
 g15:=by kernel_rfl
 g16:=by kernel_rfl
 g17:=by kernel_rfl
 g18:=by kernel_rfl
 g19:=by kernel_rfl }
open Go.RowKit in
theorem Tryz.strconv_Atoi (s:ByteArray) (n:Int) (hl:s.size≤18) (h:Lib.atoi s.data.toList=some n) (w:World) :
  Calls Tryz.prog 340 #[.string s] w fun e w'=>e=.returned (.tuple #[.int .i64 n,.nilIface])∧∃ t,w'=Lib.bytesWorld w 5 t:=Any.strconv_Atoi Tryz.lays172 s n hl h w
def Tryz.laysM171_ren:Go.Shelf.Ren:=⟨fun|171=>191|243=>235|246=>276|283=>299|284=>300|285=>301|286=>302|129=>322|317=>321|318=>323|319=>324|320=>325|337=>329|338=>330|n=>n,fun|3=>3|9=>9|2=>2|4=>4|171=>295|0=>0|53=>296|37=>69|5=>5|173=>299|212=>315|51=>304|20=>20|213=>316|46=>286|232=>323|233=>324|n=>n,fun|17=>1|18=>2|19=>3|n=>n⟩
theorem Tryz.laysM171:Go.Proofs.LaysM.n171 Tryz.prog Tryz.laysM171_ren := {
 mixed:=by kernel_rfl
 f129:=Tryz.func322.trans (congrArg some (by kernel_rfl))
 f171:=Tryz.func191.trans (congrArg some (by kernel_rfl))
 f243:=Tryz.func235.trans (congrArg some (by kernel_rfl))
 f246:=Tryz.func276.trans (congrArg some (by kernel_rfl))
 f283:=Tryz.func299.trans (congrArg some (by kernel_rfl))
 f284:=Tryz.func300.trans (congrArg some (by kernel_rfl))
 f285:=Tryz.func301.trans (congrArg some (by kernel_rfl))
 f286:=Tryz.func302.trans (congrArg some (by kernel_rfl))
 f317:=Tryz.func321.trans (congrArg some (by kernel_rfl))
 f318:=Tryz.func323.trans (congrArg some (by kernel_rfl))
 f319:=Tryz.func324.trans (congrArg some (by kernel_rfl))
 f320:=Tryz.func325.trans (congrArg some (by kernel_rfl))
 f337:=Tryz.func329.trans (congrArg some (by kernel_rfl))
 f338:=Tryz.func330.trans (congrArg some (by kernel_rfl))
 t0:=Tryz.underlying0
 a0:=Tryz.isAgg0
 z0:=Tryz.sizeOf0
 v0:=Tryz.zeroValue0
 t2:=Tryz.underlying2
 a2:=Tryz.isAgg2
 z2:=Tryz.sizeOf2
 v2:=Tryz.zeroValue2
 t3:=Tryz.underlying3
 a3:=Tryz.isAgg3
 z3:=Tryz.sizeOf3
 v3:=Tryz.zeroValue3
 t4:=Tryz.underlying4
 a4:=Tryz.isAgg4
 z4:=Tryz.sizeOf4
 v4:=Tryz.zeroValue4
 t5:=Tryz.underlying5
 a5:=Tryz.isAgg5
 z5:=Tryz.sizeOf5
 v5:=Tryz.zeroValue5
 t9:=Tryz.underlying9
 a9:=Tryz.isAgg9
 z9:=Tryz.sizeOf9
 v9:=Tryz.zeroValue9
 t20:=Tryz.underlying20
 a20:=Tryz.isAgg20
 z20:=Tryz.sizeOf20
 v20:=Tryz.zeroValue20
 t37:=Tryz.underlying69
 a37:=Tryz.isAgg69
 z37:=Tryz.sizeOf69
 v37:=Tryz.zeroValue69
 t46:=Tryz.underlying286
 a46:=Tryz.isAgg286
 z46:=Tryz.sizeOf286
 v46:=Tryz.zeroValue286
 t51:=Tryz.underlying304
 a51:=Tryz.isAgg304
 z51:=Tryz.sizeOf304
 v51:=Tryz.zeroValue304
 t53:=Tryz.underlying296
 a53:=Tryz.isAgg296
 z53:=Tryz.sizeOf296
 v53:=Tryz.zeroValue296
 t171:=Tryz.underlying295
 a171:=Tryz.isAgg295
 z171:=Tryz.sizeOf295
 v171:=Tryz.zeroValue295
 t173:=Tryz.underlying299
 a173:=Tryz.isAgg299
 z173:=Tryz.sizeOf299
 v173:=Tryz.zeroValue299
 t212:=Tryz.underlying315
 a212:=Tryz.isAgg315
 z212:=Tryz.sizeOf315
 v212:=Tryz.zeroValue315
 t213:=Tryz.underlying316
 a213:=Tryz.isAgg316
 z213:=Tryz.sizeOf316
 t232:=Tryz.underlying323
 a232:=Tryz.isAgg323
 z232:=Tryz.sizeOf323
 v232:=Tryz.zeroValue323
 t233:=Tryz.underlying324
 a233:=Tryz.isAgg324
 z233:=Tryz.sizeOf324
 v233:=Tryz.zeroValue324
 g17:=by kernel_rfl
 g18:=by kernel_rfl
 g19:=by kernel_rfl
 i0:=by kernel_rfl
 i2:=by kernel_rfl
 i3:=by kernel_rfl
 i4:=by kernel_rfl
 i5:=by kernel_rfl
 i9:=by kernel_rfl
 i20:=by kernel_rfl
 i37:=by kernel_rfl
 i46:=by kernel_rfl
 i51:=by kernel_rfl
 i53:=by kernel_rfl
 i171:=by kernel_rfl
 i173:=by kernel_rfl
 i212:=by kernel_rfl
 i232:=by kernel_rfl
 i233:=by kernel_rfl
 m17:=by kernel_rfl
 m18:=by kernel_rfl
 m19:=by kernel_rfl }
open Go.RowKit Go.Sort Go.Lib in
theorem Tryz.strconv_Itoa (n : Int) (h0 : -9223372036854775808 ≤ n) (h1 : n ≤ 9223372036854775807) (w : World) (htab : Lib.TabIs Tryz.prog w "internal/strconv.uint64pow10" .u64 Lib.pow10Tab) :
  Calls Tryz.prog 191 #[.int .i64 n] w fun e w'=>e=.returned (.string ⟨(Lib.itoa n).toArray⟩)∧∃ k os,w'=grow (w.drewN k) os:=Any.strconv_Itoa Tryz.laysM171 n h0 h1 w htab
def Tryz.lays143_ren:Go.Shelf.Ren:=⟨fun|143=>211|219=>250|217=>213|225=>282|224=>283|267=>284|266=>251|314=>312|n=>n,fun|9=>9|3=>3|4=>4|5=>5|46=>286|146=>305|51=>304|n=>n,fun|1=>0|n=>n⟩
theorem Tryz.lays143:Go.Proofs.Lays.n143 Tryz.prog Tryz.lays143_ren := {
 mixed:=by kernel_rfl
 f143:=Tryz.func211.trans (congrArg some (by kernel_rfl))
 f217:=Tryz.func213.trans (congrArg some (by kernel_rfl))
 f219:=Tryz.func250.trans (congrArg some (by kernel_rfl))
 f224:=Tryz.func283.trans (congrArg some (by kernel_rfl))
 f225:=Tryz.func282.trans (congrArg some (by kernel_rfl))
 f266:=Tryz.func251.trans (congrArg some (by kernel_rfl))
 f267:=Tryz.func284.trans (congrArg some (by kernel_rfl))
 f314:=Tryz.func312.trans (congrArg some (by kernel_rfl))
 t3:=Tryz.underlying3
 a3:=Tryz.isAgg3
 z3:=Tryz.sizeOf3
 v3:=Tryz.zeroValue3
 t4:=Tryz.underlying4
 a4:=Tryz.isAgg4
 z4:=Tryz.sizeOf4
 v4:=Tryz.zeroValue4
 t5:=Tryz.underlying5
 a5:=Tryz.isAgg5
 z5:=Tryz.sizeOf5
 v5:=Tryz.zeroValue5
 t9:=Tryz.underlying9
 a9:=Tryz.isAgg9
 z9:=Tryz.sizeOf9
 v9:=Tryz.zeroValue9
 t46:=Tryz.underlying286
 a46:=Tryz.isAgg286
 z46:=Tryz.sizeOf286
 v46:=Tryz.zeroValue286
 t51:=Tryz.underlying304
 a51:=Tryz.isAgg304
 z51:=Tryz.sizeOf304
 v51:=Tryz.zeroValue304
 t146:=Tryz.underlying305
 a146:=Tryz.isAgg305
 z146:=Tryz.sizeOf305
 v146:=Tryz.zeroValue305
 g1:=by kernel_rfl }
open Go.RowKit Go.Lib in
theorem Tryz.strings_Index (s sub:ByteArray) (m:Int) (w:World) (hs:s.size<4294967281) (hm:w.cell? ⟨0,0,none⟩=some (.int .i64 m)) :
  Calls Tryz.prog 211 #[.string s,.string sub] w fun e w'=>e=.returned (.int .i64 (Lib.index s.data.toList sub.data.toList))∧w'=w:=Any.strings_Index Tryz.lays143 s sub m w hs hm
def Tryz.lays144_ren:Go.Shelf.Ren:=⟨fun|144=>298|143=>211|219=>250|217=>213|225=>282|224=>283|267=>284|266=>251|314=>312|n=>n,fun|9=>9|4=>4|3=>3|5=>5|46=>286|146=>305|51=>304|n=>n,fun|1=>0|n=>n⟩
theorem Tryz.lays144:Go.Proofs.Lays.n144 Tryz.prog Tryz.lays144_ren := {
 mixed:=by kernel_rfl
 f143:=Tryz.func211.trans (congrArg some (by kernel_rfl))
 f144:=Tryz.func298.trans (congrArg some (by kernel_rfl))
 f217:=Tryz.func213.trans (congrArg some (by kernel_rfl))
 f219:=Tryz.func250.trans (congrArg some (by kernel_rfl))
 f224:=Tryz.func283.trans (congrArg some (by kernel_rfl))
 f225:=Tryz.func282.trans (congrArg some (by kernel_rfl))
 f266:=Tryz.func251.trans (congrArg some (by kernel_rfl))
 f267:=Tryz.func284.trans (congrArg some (by kernel_rfl))
 f314:=Tryz.func312.trans (congrArg some (by kernel_rfl))
 t3:=Tryz.underlying3
 a3:=Tryz.isAgg3
 z3:=Tryz.sizeOf3
 v3:=Tryz.zeroValue3
 t4:=Tryz.underlying4
 a4:=Tryz.isAgg4
 z4:=Tryz.sizeOf4
 v4:=Tryz.zeroValue4
 t5:=Tryz.underlying5
 a5:=Tryz.isAgg5
 z5:=Tryz.sizeOf5
 v5:=Tryz.zeroValue5
 t9:=Tryz.underlying9
 a9:=Tryz.isAgg9
 z9:=Tryz.sizeOf9
 v9:=Tryz.zeroValue9
 t46:=Tryz.underlying286
 a46:=Tryz.isAgg286
 z46:=Tryz.sizeOf286
 v46:=Tryz.zeroValue286
 t51:=Tryz.underlying304
 a51:=Tryz.isAgg304
 z51:=Tryz.sizeOf304
 v51:=Tryz.zeroValue304
 t146:=Tryz.underlying305
 a146:=Tryz.isAgg305
 z146:=Tryz.sizeOf305
 v146:=Tryz.zeroValue305
 g1:=by kernel_rfl }
open Go.RowKit Go.Lib in
theorem Tryz.strings_Contains_one (s:ByteArray) (c:UInt8) (w:World) :
  Calls Tryz.prog 298 #[.string s,.string ⟨#[c]⟩] w fun e w'=>e=.returned (.bool (decide (0≤Lib.indexByte s.data.toList c)))∧w'=w:=Any.strings_Contains_one Tryz.lays144 s c w
def Tryz.lays99_ren:Go.Shelf.Ren:=⟨fun|99=>153|206=>210|n=>n,fun|9=>9|4=>4|3=>3|n=>n,fun|n=>n⟩
theorem Tryz.lays99:Go.Proofs.Lays.n99 Tryz.prog Tryz.lays99_ren := {
 mixed:=by kernel_rfl
 f99:=Tryz.func153.trans (congrArg some (by kernel_rfl))
 f206:=Tryz.func210.trans (congrArg some (by kernel_rfl))
 t3:=Tryz.underlying3
 a3:=Tryz.isAgg3
 z3:=Tryz.sizeOf3
 v3:=Tryz.zeroValue3
 t4:=Tryz.underlying4
 a4:=Tryz.isAgg4
 z4:=Tryz.sizeOf4
 v4:=Tryz.zeroValue4
 t9:=Tryz.underlying9
 a9:=Tryz.isAgg9
 z9:=Tryz.sizeOf9
 v9:=Tryz.zeroValue9 }
open Go.RowKit Go.Lib in
theorem Tryz.strings_HasPrefix (s p:ByteArray) (w:World) :
  Calls Tryz.prog 153 #[.string s,.string p] w fun e w'=>e=.returned (.bool (Lib.hasPrefix s.data.toList p.data.toList))∧w'=w:=Any.strings_HasPrefix Tryz.lays99 s p w
def Tryz.lays153_ren:Go.Shelf.Ren:=⟨fun|153=>252|152=>285|226=>286|227=>287|228=>288|137=>155|119=>313|224=>283|225=>282|217=>213|266=>251|n=>n,fun|9=>9|3=>3|4=>4|5=>5|21=>21|117=>290|116=>289|0=>0|46=>286|124=>308|n=>n,fun|n=>n⟩
theorem Tryz.lays153:Go.Proofs.Lays.n153 Tryz.prog Tryz.lays153_ren := {
 mixed:=by kernel_rfl
 f119:=Tryz.func313.trans (congrArg some (by kernel_rfl))
 f137:=Tryz.func155.trans (congrArg some (by kernel_rfl))
 f152:=Tryz.func285.trans (congrArg some (by kernel_rfl))
 f153:=Tryz.func252.trans (congrArg some (by kernel_rfl))
 f217:=Tryz.func213.trans (congrArg some (by kernel_rfl))
 f224:=Tryz.func283.trans (congrArg some (by kernel_rfl))
 f225:=Tryz.func282.trans (congrArg some (by kernel_rfl))
 f226:=Tryz.func286.trans (congrArg some (by kernel_rfl))
 f227:=Tryz.func287.trans (congrArg some (by kernel_rfl))
 f228:=Tryz.func288.trans (congrArg some (by kernel_rfl))
 f266:=Tryz.func251.trans (congrArg some (by kernel_rfl))
 t0:=Tryz.underlying0
 a0:=Tryz.isAgg0
 z0:=Tryz.sizeOf0
 v0:=Tryz.zeroValue0
 t3:=Tryz.underlying3
 a3:=Tryz.isAgg3
 z3:=Tryz.sizeOf3
 v3:=Tryz.zeroValue3
 t4:=Tryz.underlying4
 a4:=Tryz.isAgg4
 z4:=Tryz.sizeOf4
 v4:=Tryz.zeroValue4
 t5:=Tryz.underlying5
 a5:=Tryz.isAgg5
 z5:=Tryz.sizeOf5
 v5:=Tryz.zeroValue5
 t9:=Tryz.underlying9
 a9:=Tryz.isAgg9
 z9:=Tryz.sizeOf9
 v9:=Tryz.zeroValue9
 t21:=Tryz.underlying21
 a21:=Tryz.isAgg21
 z21:=Tryz.sizeOf21
 v21:=Tryz.zeroValue21
 t46:=Tryz.underlying286
 a46:=Tryz.isAgg286
 z46:=Tryz.sizeOf286
 v46:=Tryz.zeroValue286
 t116:=Tryz.underlying289
 a116:=Tryz.isAgg289
 z116:=Tryz.sizeOf289
 t117:=Tryz.underlying290
 a117:=Tryz.isAgg290
 z117:=Tryz.sizeOf290
 v117:=Tryz.zeroValue290
 t124:=Tryz.underlying308
 a124:=Tryz.isAgg308
 z124:=Tryz.sizeOf308
 v124:=Tryz.zeroValue308 }
open Go.RowKit Go.Lib in
theorem Tryz.strings_IndexAny_long (hv116:∀ w,(zeroValue 289).run Tryz.prog w=.ok (.agg (Array.replicate 256 (.bool false))) w) (s chars:ByteArray) (w:World) (h2:2≤chars.size) (h8:8<s.size) (hs:s.size<4294967281) (hcs:chars.size<4294967281) (hascii:∀ (j:Nat) b,chars.data.toList[j]? = some b→b.toNat<128) :
  Calls Tryz.prog 252 #[.string s,.string chars] w fun e w'=>e=.returned (.int .i64 (Lib.indexAny s.data.toList chars.data.toList))∧w'=((w.alloc (.cells (Lib.setCells chars.data.toList) 289)).alloc (.cells (Lib.setCells chars.data.toList) 289)):=Any.strings_IndexAny_long Tryz.lays153 hv116 (by kernel_rfl) s chars w h2 h8 hs hcs hascii
def Tryz.growV_ren:Go.Shelf.Ren:=⟨fun|4=>333|n=>n,fun|22=>22|25=>58|3=>3|4=>4|9=>9|20=>20|0=>0|n=>n,fun|n=>n⟩
theorem Tryz.growV:Go.Proofs.Lays8.n4 Tryz.prog Tryz.growV_ren := {
 mixed:=by kernel_rfl
 f4:=⟨Tryz.f333.name,by decide,Tryz.func333.trans (congrArg some (by kernel_rfl))⟩
 t0:=Tryz.underlying0
 a0:=Tryz.isAgg0
 z0:=Tryz.sizeOf0
 v0:=Tryz.zeroValue0
 t3:=Tryz.underlying3
 a3:=Tryz.isAgg3
 z3:=Tryz.sizeOf3
 v3:=Tryz.zeroValue3
 t4:=Tryz.underlying4
 a4:=Tryz.isAgg4
 z4:=Tryz.sizeOf4
 v4:=Tryz.zeroValue4
 t9:=Tryz.underlying9
 a9:=Tryz.isAgg9
 z9:=Tryz.sizeOf9
 v9:=Tryz.zeroValue9
 t20:=Tryz.underlying20
 a20:=Tryz.isAgg20
 z20:=Tryz.sizeOf20
 v20:=Tryz.zeroValue20
 t22:=Tryz.underlying22
 a22:=Tryz.isAgg22
 z22:=Tryz.sizeOf22
 v22:=Tryz.zeroValue22 }
end Go.Proofs
namespace Go.Abs
inductive Sim where
 | mk (kind:Int) (name value:List UInt8) (a b:Int) (l:List Sim)
def Sim.kind:Sim→Int
 | .mk k _ _ _ _ _=>k
structure Prt where
 comb:Int
 l:List Sim
structure Cpx where
 parts:List Prt
 pseudo:List UInt8
namespace Sl
def cD (s:List UInt8):Val→Bool
 | .mk k t _=>k==1&&decide (t=⟨7,s,0⟩)
def aG:Val→Bool
 | .mk k t _=>k==1&&t.kind==8
def trim (l:List Val):List Val:=((l.dropWhile aG).reverse.dropWhile aG).reverse
def tokK (kind:Int):List Val→Option Tok
 | .mk k t _::_=>if k=1∧t.kind=kind then some t else none
 | []=>none
def sign (s:List UInt8):List Val→Option (List Val)
 | v::r=>if cD s v then some r else none
 | []=>none
def name (l:List Val):Option (List UInt8×List Val):=(tokK 1 l).map fun t=>(t.text,l.tail)
def Ai (kind:Int):List Val→Option ((Tok×List Val)×List Val)
 | .mk k t c::r=>if k=kind then some ((t,c),r) else none
 | []=>none
def digits (s:List UInt8):Int:=if s.length<1∨4<s.length then -1 else if s.all Tk.digit then s.foldl (fun n c=>10*n+((c.toNat:Int) - 48)) 0 else -1
def nth1 (t:Tok):Option (Int×Int) :=
  if t.kind=1 then(if t.text=[111,100,100] then some (2,1) else if t.text=[101,118,101,110] then some (2,0) else if t.text=[110] then some (1,0) else none)
  else if t.kind=5 then
    (if t.text=[] then some (0,t.n) else if t.text=[110] then some (t.n,0)
     else if 2<t.text.length∧t.text.take 2=[110,45]∧0≤digits (t.text.drop 2) then some (t.n,-digits (t.text.drop 2)) else none)
  else none
def nth (v:List Val):Option (Int×Int) :=
 match trim v with
 | [.mk k t _]=>if k=1 then nth1 t else none
 | [.mk k t _,s,.mk k' u _]=>if k=1∧t.kind=5∧t.text=[110]∧cD [43] s=true∧k'=1∧u.kind=5∧u.text=[]∧0≤u.n then some (t.n,u.n) else none
 | _=>none
def few (n:Int):Prop := -9999≤n∧n≤9999
instance (n:Int):Decidable (few n):=by unfold few;infer_instance
def nthM (v:List Val):Option (Int×Int) :=
 match nth v with
 | some x=>if few x.1∧few x.2 then some x else none
 | none=>none
def attr (l:List Val):Option Sim :=
 match l.filter (fun v => !aG v) with
 | [.mk k t _]=>if k=1∧t.kind=1 then some (.mk 5 t.text [] 0 0 []) else none
 | [.mk k t _,e,.mk k' u _]=>if k=1∧t.kind=1∧cD [61] e=true∧k'=1∧(u.kind=1∨u.kind=6) then some (.mk 6 t.text u.text 0 0 []) else none
 | _=>none
def CN:List UInt8:=[104,111,118,101,114]
def De:List UInt8:=[102,111,99,117,115]
def Br:List UInt8:=[97,99,116,105,118,101]
def zQ:List UInt8:=[99,104,101,99,107,101,100]
def Dt:List UInt8:=[114,111,111,116]
def CS:List UInt8:=[101,109,112,116,121]
def Ct:List UInt8:=[102,105,114,115,116,45,99,104,105,108,100]
def nthT:List UInt8:=[110,116,104,45,99,104,105,108,100]
def notT:List UInt8:=[110,111,116]
def AO:List UInt8:=[98,101,102,111,114,101]
def Cr:List UInt8:=[97,102,116,101,114]
def qT (s:List UInt8):Prop:=s=CN∨s=De∨s=Br∨s=zQ
instance (s:List UInt8):Decidable (qT s):=by unfold qT;infer_instance
def wx (s:List UInt8):Option Sim :=
 if qT s then some (.mk 7 s [] 0 0 []) else if s=Dt then some (.mk 9 [] [] 0 0 []) else if s=CS then some (.mk 10 [] [] 0 0 [])
 else if s=Ct then some (.mk 8 [] [] 0 1 []) else none
def low1 (c:UInt8):UInt8:=if 65≤c.toNat∧c.toNat≤90 then c+32 else c
def low (s:List UInt8):List UInt8:=s.map low1
def colon (g:List Val→Option (Sim×List Val)) (l:List Val):Option (Sim×List Val) :=
  match Ai 5 l with
  | some ((t,c),r) =>
    if t.text=nthT then(nthM c).map fun x=>(.mk 8 [] [] x.1 x.2 [],r)
    else if t.text=notT then
      (match g (trim c) with
       | some (x,[])=>if x.kind=11 then none else some (.mk 11 [] [] 0 0 [x],r)
       | _=>none)
    else none
  | none =>
    match name l with
    | some (s,r)=>(wx s).map fun x=>(x,r)
    | none=>none
def simple:Nat→Bool→List Val→Option (Sim×List Val)
 | 0,_,_=>none
 | f+1,first,l =>
  match (if first then tokK 1 l else none) with
  | some t=>some (.mk 2 (low t.text) [] 0 0 [],l.tail)
  | none =>
  match (if first then sign [42] l else none) with
  | some r=>some (.mk 1 [] [] 0 0 [],r)
  | none =>
  match tokK 4 l with
  | some t=>some (.mk 3 t.text [] 0 0 [],l.tail)
  | none =>
  match sign [46] l with
  | some r=>(name r).map fun x=>(.mk 4 x.1 [] 0 0 [],x.2)
  | none =>
  match sign [58] l with
  | some r=>colon (simple f true) r
  | none =>
  match Ai 3 l with
  | some x=>(attr x.1.2).map fun y=>(y,x.2)
  | none=>none
def over:List Val→Bool
 | []=>true
 | v::_=>aG v||cD [62] v||cD [43] v||cD [126] v
def double:List Val→Bool
 | v::w::_=>cD [58] v&&cD [58] w
 | _=>false
def part:Nat→Bool→List Val→Option (List Sim×List Val)
 | 0,_,_=>none
 | f+1,first,l =>
  if over l||double l then some ([],l)
  else match simple (Ne.size l) first l with
   | none=>none
   | some (x,r)=>(part f false r).map fun y=>(x::y.1,y.2)
def comb (l:List Val):Int×List Val :=
 let m:=l.dropWhile aG
 match sign [62] m with
 | some r=>(2,r.dropWhile aG)
 | none =>
 match sign [43] m with
 | some r=>(3,r.dropWhile aG)
 | none =>
 match sign [126] m with
 | some r=>(4,r.dropWhile aG)
 | none=>(1,m.dropWhile aG)
def cpx:Nat→Int→List Val→Option Cpx
  | 0,_,_=>none
  | n+1,c,l =>
    match part (l.length+1) true l with
    | none=>none
    | some (ps,r) =>
      if double r then
        (match name (r.drop 2) with
         | some (s,[])=>if (s=AO∨s=Cr)∧ps.length≤8 then some ⟨[⟨c,ps⟩],s⟩ else none
         | _=>none)
      else if 8<ps.length∨ps=[] then none
      else if r.isEmpty then some ⟨[⟨c,ps⟩],[]⟩
      else(cpx n (comb r).1 (comb r).2).map fun x=>⟨⟨c,ps⟩::x.parts,x.pseudo⟩
def at_ (s:List UInt8):List Val→List (List Val)
 | []=>[[]]
 | v::l=>if cD s v then []::at_ s l else match at_ s l with
  | []=>[[v]]
  | p::ps=>(v::p)::ps
def all_:List (List Val)→Option (List Cpx)
 | []=>some []
 | p::ps=>match cpx 16 0 (trim p),all_ ps with
  | some c,some cs=>some (c::cs)
  | _,_=>none
def parse (l:List Val):Option (List Cpx):=if (at_ [44] l).length≤32 then all_ (at_ [44] l) else none
def read (s:List UInt8):Option (List Cpx):=(Ne.parse 60 (Tk.all s)).bind fun v=>parse (trim v)
def tv (t:Tok):Val:=.mk 1 t []
def dv (c:UInt8):Val:=tv ⟨7,[c],0⟩
def iv (s:List UInt8):Val:=tv ⟨1,s,0⟩
end Sl
end Go.Abs
