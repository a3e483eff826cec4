/-
  TOKENS, in plain Lean: the texts of tokens are read as these (ToksBack, ToksTwo, ToksBlanks). No program stands here.
  (And 8 texts more.)
-/
import Derived.Test.YtcfklbkkdipjhaaGreatDoorRows
import Derived.ReadAgain
import Derived.ChangeBears
import Derived.RowKit
import Derived.OpenShut
import Derived.SizedLaws
import Derived.Deep.DeepHandedRow
import Derived.Lib.LaidTab
import Derived.Test.YtcfklbkkdipjhaaGreatDoorSm5
set_option linter.unusedSimpArgs false
set_option linter.unusedVariables false
namespace Go.Abs.Tk
open Go
theorem xe (n:Int):digit (at0 (Lib.itoa n))=true∨at0 (Lib.itoa n)=45:=by
 unfold Lib.itoa;split
 ·exact .inr rfl
 ·left
  cases hl:Lib.decDigits n.toNat with
  | nil=>exact absurd hl (oW _)
  | cons c r=>exact gk _ _ (Nat.le_refl _) c (by rw[hl];simp)
theorem Be (n:Int):Lib.itoa n≠[]:=fun h=>by
 unfold Lib.itoa at h;split at h
 ·cases h
 ·exact oW _ h
theorem sN {w y:List UInt8} (hne:w≠[]) (hw:∀ b∈w,blank b=true) (hy:blank (at0 y)=false):all (w++y)=⟨8,[10],0⟩::all y:=by
 cases w with
 | nil=>exact absurd rfl hne
 | cons c r =>
  have hr:=lx hw hy
  have hc:=hw c (by simp)
  rw[List.cons_append] at hr ⊢;have e:step c (r++y)=(some ⟨8,[10],0⟩,(c::r).length):=by
   unfold step;rw[if_neg (fun e=>by rw[e.1] at hc;exact absurd hc (by decide)),if_pos hc,hr]
  rw[all_cons,e,←List.cons_append,List.drop_left];rfl
end Go.Abs.Tk
namespace Go.Abs.Tk
open Go
theorem vw (l:List UInt8):(all l).length≤l.length:=by
 refine wc (Q:=fun l=>(all l).length≤l.length) (Nat.le_refl _) (fun c r ih => ?_) l
 rw[all_cons,List.length_append];have h1:=jz c r
 have h2:=vR c r
 have h3:(step c r).1.toList.length≤1:=by cases (step c r).1<;>simp
 rw[List.length_drop] at ih;simp only[List.length_cons] at *
 omega
section both
variable {R R':List UInt8}
end both
end Go.Abs.Tk
namespace Go.Abs
open Go Go.Proofs
set_option maxRecDepth 10000
attribute [local go_sem] cG bA cj bF bH cF cf ce ay aV aR bw bU bg opd avOf cvOf St.degAt St.put okPV dr okAV cQ cR cP cv aj if_true Bool.false_eq_true if_false Option.map_some Option.map_none Option.bind_some Option.bind_none du dh upd List.toList_toArray bC steal aH mvB cX cw bR AV.deg CV.deg AV.gv AV.isIter co cg bG List.length_nil List.length_cons List.filterMap_cons List.filterMap_nil beq_iff_eq List.getElem?_cons_zero List.getElem?_cons_succ Option.getD_some eG fh Bool.false_and Bool.and_false Bool.and_self K_P fT bv bO aJ lend back idx dedup AV.ren CV.ren TV.ren AV.ptrs CV.ptrs ck AV.flat CV.flat bL bu az bV cz dK bD ar bK aQ bd bt aP dV CV.pv? content aN ownT aD reps pvs chunks aZ leave dT bW cN bf aK TV.deg TV.av LK CV.plain CV.noBld cq dS bound List.map_cons List.map_nil List.all_cons List.all_nil List.any_cons List.any_nil List.contains_cons List.contains_nil List.elem_cons List.elem_nil List.cons_append List.nil_append List.append_nil List.flatMap_cons List.flatMap_nil List.zip_cons_cons List.zip_nil_left List.zip_nil_right List.take_succ_cons List.take_zero List.take_nil List.drop_succ_cons List.drop_zero List.drop_nil List.isEmpty_nil List.isEmpty_cons Bool.and_true Bool.true_and Bool.or_true Bool.true_or Bool.or_false Bool.false_or Bool.not_true Bool.not_false Nat.add_zero Nat.zero_add Option.isNone_none Option.isNone_some Option.getD_none true_and and_true not_true_eq_false not_false_eq_true decide_true decide_false Nat.le_refl and_self Bool.not_eq_true Nat.sub_self or_true true_or Option.some.injEq List.length_map List.nil_eq and_false false_and AV.live CV.live CV.liveIn dX ax Option.orElse_some Option.orElse_none head aI aF Int.lt_irrefl List.length_append ite_self dt br bZ aY Key.clash Key.sees Key.writes Nat.lt_irrefl gt_iff_lt ci dp false_or or_false beq_self_eq_true Bool.true_beq Bool.false_beq
theorem kM (l:List Val):lens 5 (encL l)=true:=by
 rw[ep];simp only[lens,List.all_map,List.all_eq_true,Function.comp_apply,beq_iff_eq];intro v _;exact rx v
end Go.Abs
namespace Go.Abs
open Go
def encT (l:List (List UInt8)):List (List PV):=l.map fun s=>[.str s]
end Go.Abs
namespace Go.Abs.Sl
def kT (s:List UInt8):Option (List Val):=(Ne.parse 60 (Tk.all s)).map trim
end Go.Abs.Sl
namespace Go.Abs
namespace Sl
open Tk (cW sep within digit begins at0 all)
def gR (y:List UInt8):Prop:=∀ t:Tok,t.kind≠8→sep t y
theorem gF {y:List UInt8} {c:UInt8} (h:at0 y=c) (h1:within c=false) (h2:Tk.blank c=false) (h3:c≠40) (h4:c≠37) (h5:c≠42):gR y:=fun t _=>Tk.zD h t h1 h2 h3 h4 h5
theorem fc (y:List UInt8):gR (32::y):=fun t ht=>by
 unfold sep;have h:at0 (32::y)=32:=rfl
 rw[h];have hn:Tk.dJ (32::y)=false:=Tk.kC (c:=32) rfl (by decide)
 have h1:begins (at0 (32::y))=false:=by rw[h];decide
 have h2:at0 (32::y)≠45:=by rw[h];decide
 exact⟨fun _=>⟨by decide,by decide⟩,fun _=>by decide,fun _=>⟨fun _=>⟨by decide,by decide,hn⟩,fun _=>by decide⟩,fun e=>absurd e ht,
  fun _=>⟨fun _=>by decide,fun _=>by decide,fun _=>hn,fun _=>⟨by decide,Tk.nH h1 h2⟩⟩⟩
theorem ii {c:UInt8} (h1:c≠47) (h2:c≠35) (h3:c≠64) (h4:c≠45) (y:List UInt8):sep ⟨7,[c],0⟩ y:=by
 unfold sep;refine⟨fun e=>by simp at e,fun e=>by simp at e,fun e=>by simp at e,fun e=>by simp at e,fun _=>⟨fun e => ?_,fun e => ?_,fun e => ?_,fun e => ?_⟩⟩<;>simp at e
 ·exact absurd e h1
 ·exact absurd e h2
 ·exact absurd e h3
 ·exact absurd e h4
theorem ib {c:UInt8} {y:List UInt8} (h:Tk.Good ⟨7,[c],0⟩) (h34:c≠34) (h39:c≠39) (hs:sep ⟨7,[c],0⟩ y):all (c::y)=⟨7,[c],0⟩::all y:=by
 have:=Tk.qU h hs
 rw[Tk.qn h34 h39] at this
 exact this
theorem eS {n y:List UInt8} (h:cW n) (hy:gR y):all (n++y)=⟨1,n,0⟩::all y:=by
 have:=Tk.qU (y:=y) (.ident n h) (hy _ (by simp))
 exact this
theorem gq {c:UInt8} (h1:begins c=false) (h2:digit c=false) (h3:Tk.blank c=false):Tk.Good ⟨7,[c],0⟩:=.delim c h1 h2 h3
theorem a58 (y:List UInt8):all (58::y)=⟨7,[58],0⟩::all y:=ib (gq (by decide) (by decide) (by decide)) (by decide) (by decide) (ii (by decide) (by decide) (by decide) (by decide) y)
theorem a41 (y:List UInt8):all (41::y)=⟨7,[41],0⟩::all y:=ib (gq (by decide) (by decide) (by decide)) (by decide) (by decide) (ii (by decide) (by decide) (by decide) (by decide) y)
theorem a32 {y:List UInt8} (h:Tk.blank (at0 y)=false):all (32::y)=⟨8,[10],0⟩::all y:=Tk.sN (w:=[32]) (by simp) (by simp;decide) h
theorem n41 (y:List UInt8):gR (41::y):=gF (c:=41) rfl (by decide) (by decide) (by decide) (by decide) (by decide)
theorem n58 (y:List UInt8):gR (58::y):=gF (c:=58) rfl (by decide) (by decide) (by decide) (by decide) (by decide)
end Sl
end Go.Abs
namespace Go.Abs
theorem ke (p:Val→Bool):∀ l:List Val, ∀ q∈Sl.cut p l,Ne.size q≤Ne.size l
 | [],q,hq=>by
  rw[Sl.cut,List.mem_singleton] at hq;subst hq;exact Nat.le_refl _
 | v::l,q,hq=>by
  rw[Ne.size];cases h:p v with
  | true =>
   rw[Sl.vT h] at hq;rcases List.mem_cons.1 hq with rfl|hq
   ·rw[Ne.size];omega
   ·have:=ke p l q hq
    omega
  | false =>
   obtain⟨r,rs,e⟩:=Sl.yI p l;rw[Sl.Aa h e] at hq;rcases List.mem_cons.1 hq with rfl|hq
   ·have:=ke p l r (by rw[e];simp)
    rw[Ne.size];omega
   ·have:=ke p l q (by rw[e];simp[hq])
    omega
end Go.Abs
namespace Go.Abs
open Go Go.Proofs Go.ChangeShapes Go.WideShapes Go.ChangeAt Go.RowKit
def TyP (P:Program):Nat→TypeId→List PV→Prop
 | 0,_,_=>False
 | n+1,t,ps =>
  match P.underlying t with
  | some .bool=>∃ b,ps=[.bool b]
  | some (.int k)=>∃ z,ps=[.int k z]∧(Lit.int k z).wf=true
  | some .string=>∃ s,ps=[.str s]∧s.length≤reachBytes
  | some (.slice e)=>∃ c,ps=[.sl c]∧c.length≤reachBytes∧∀ el∈c,TyP P n e el
  | some (.struct fs)=>ps.length=P.cellsOf t∧∀ (i:Nat) (f:Field),fs[i]? = some f→TyP P n f.type ((ps.drop f.offset).take (P.cellsOf f.type))
  | _=>False
def nn (P:Program) (L:List TypeId):Bool:=L.all fun t=>decide (t<P.types.size) &&
 match P.underlying t with
 | some .bool|some (.int _)|some .string=>P.cellsOf t==1
 | some (.slice e)=>L.contains e&&decide (0<P.cellsOf e)&&decide (0<P.bytesOf e)&&P.cellsOf t==1
 | some (.struct fs)=>fs.toList.all fun f=>L.contains f.type
 | _=>false
section
variable {H:Type} {enc:TypeId×Value→H} {P:Program} {w:World}
theorem ye {base n:Nat} {a:Addr} {cs:List Value} (h:w.cells? base a n=some cs):cs.length=n∧∀ (k:Nat) (y:Value),cs[k]? = some y→w.cell? (a.add k)=some y:=by
 unfold World.cells? at h
 split at h
 case isFalse=>cases h
 have hl:cs.length=n:=by simpa using mapM_some_length h
 refine⟨hl,fun k y hk => ?_⟩
 have hlt:k<n:=by have:=(List.getElem?_eq_some_iff.1 hk).1;omega
 have:=mapM_some_get h k k (by simp[hlt])
 rw[this,hk]
theorem Bp (b o m j:Nat):((⟨b,o,none⟩:Addr).add m).add j=⟨b,o+(m+j),none⟩:=by
 simp only[Addr.add];split<;>split<;>simp_all [Nat.add_assoc]
theorem wQ {a:Addr} {y:Value} (h:w.cell? a=some y):a=⟨a.block,a.off,none⟩:=by
 unfold World.cell? at h
 cases a with
 | mk b o s =>
  cases s with
  | none=>rfl
  | some k=>simp at h;split at h<;>simp at h
theorem sF {I:Nat→Nat→Option Value} {n:Nat}:∀ (fs:List Field) (k:Nat) (cs:List Value),(∀ (j:Nat) (f:Field),fs[j]? = some f→f.offset=k+((fs.take j).map fun f=>P.cellsOf f.type).sum) →
  (∀ f∈fs, ∃ ps,TyP P n f.type ps∧All2 (RP I) ps ((cs.drop f.offset).take (P.cellsOf f.type))∧ps.length=P.cellsOf f.type)→cs.length=k+(fs.map fun f=>P.cellsOf f.type).sum →
  ∃ ps,ps.length=(fs.map fun f=>P.cellsOf f.type).sum∧All2 (RP I) ps (cs.drop k)∧∀ (j:Nat) (f:Field),fs[j]? = some f→TyP P n f.type ((ps.drop (f.offset - k)).take (P.cellsOf f.type))
 | [],k,cs,_,_,hl=>⟨[],rfl,by rw[List.drop_eq_nil_of_le (by simp at hl;omega)];exact .nil,fun j f h=>by simp at h⟩
 | f::fs,k,cs,ho,hf,hl=>by
  have ho0:=ho 0 f rfl
  simp at ho0;obtain⟨p0,h1,h2,h3⟩:=hf f (by simp)
  simp only[List.map_cons,List.sum_cons] at hl;obtain⟨ps,h4,h5,h6⟩:=sF fs (k+P.cellsOf f.type) cs (fun j g hg=>by
   have:=ho (j+1) g (by simpa using hg)
   simp only[List.take_succ_cons,List.map_cons,List.sum_cons] at this
   omega) (fun g hg=>hf g (by simp[hg])) (by omega)
  refine⟨p0++ps,by simp[h3,h4],?_,fun j g hg => ?_⟩
  ·rw[ho0] at h2;have:cs.drop k=(cs.drop k).take (P.cellsOf f.type)++cs.drop (k+P.cellsOf f.type):=by
    rw[←List.drop_drop,List.take_append_drop]
   rw[this];exact h2.append h5
  ·cases j with
   | zero =>
    simp at hg;subst hg;rw[ho0,Nat.sub_self,List.drop_zero,List.take_left' h3];exact h1
   | succ j =>
    have hg':fs[j]? = some g:=by simpa using hg
    have:=h6 j g hg'
    have hoj:=ho (j+1) g hg
    simp only[List.take_succ_cons,List.map_cons,List.sum_cons] at hoj;have hle:k+P.cellsOf f.type≤g.offset:=by omega
    rw[List.drop_append,List.drop_eq_nil_of_le (by omega),List.nil_append,h3]
    rw[show g.offset - k - P.cellsOf f.type=g.offset - (k+P.cellsOf f.type) by omega]
    exact this
theorem mQ {e:TypeId}:∀ {l:List (DataW H)} {d:DataW H},d∈l→∀ n∈d.weights P e,n∈DataW.weightsAll P e l
 | d'::l,d,h,n,hn=>by
  unfold DataW.weightsAll;rw[List.mem_append];rcases List.mem_cons.1 h with rfl|h
  ·exact .inl hn
  ·exact .inr (mQ h n hn)
theorem rz:∀ {ts:List TypeId} {ds:List (DataW H)} {j:Nat} {t:TypeId} {d:DataW H},ts[j]? = some t→ds[j]? = some d→∀ n∈d.weights P t,n∈DataW.weightsEach P ts ds:=DataW.weights_mem_each
theorem BT {I:Nat→Nat→Option Value} (hI:∀ b o y,w.cell? ⟨b,o,none⟩=some y→I b o=some y) (K0:Kids P (· < P.types.size)) {L:List TypeId} (hL:nn P L=true) {base:Nat} {sp:Nat→Bool} {held:Bool} :
  ∀ (n:Nat) (t:TypeId) (cs:List Value) (x:DataW H×List MemPlace),DataW.trod enc P w base sp held n t cs=some x→t∈L→(∀ m∈x.1.weights P t,m≤reachBytes)→∃ ps,TyP P n t ps∧All2 (RP I) ps cs∧ps.length=P.cellsOf t:=by
 intro n
 induction n with
 | zero=>intro t cs x h;simp[DataW.trod] at h
 | succ n ih =>
  intro t cs x h ht hw;have hLt:=List.all_eq_true.1 hL t ht
  simp only[Bool.and_eq_true,decide_eq_true_eq] at hLt;obtain⟨hlt,hLt⟩:=hLt;unfold TyP;split at hLt
  ·rename_i hu;obtain⟨b,rfl,rfl⟩:=DataW.trod_bool hu h;exact⟨[.bool b],⟨b,rfl⟩,.cons (.bool b) .nil,(by simpa using hLt:P.cellsOf t=1).symm⟩
  ·rename_i k hu;obtain⟨z,rfl,rfl,hwf⟩:=DataW.trod_int hu h;exact⟨[.int k z],⟨z,rfl,hwf⟩,.cons (.int k z) .nil,(by simpa using hLt:P.cellsOf t=1).symm⟩
  ·rename_i hu;obtain⟨s,rfl,rfl,hsz⟩:=DataW.trod_string hu h;refine⟨[.str s.data.toList],⟨_,rfl,hw _ (by simp[DataW.weights])⟩,.cons ?_ .nil,(by simpa using hLt:P.cellsOf t=1).symm⟩
   exact .str _
  ·rename_i e hu;simp only[Bool.and_eq_true,decide_eq_true_eq] at hLt;obtain⟨⟨⟨he,hpos⟩,hby⟩,hc1⟩:=hLt;have hc1:P.cellsOf t=1:=by simpa using hc1
   rcases DataW.trod_slice hu h with⟨rfl,rfl⟩|⟨a,len,cap,elems,rest,m,hfuel,rfl,rfl,_,hlc,_,hel,hget,_,_⟩
   ·exact⟨[.sl []],⟨[],rfl,by simp,by simp⟩,.cons (.sl0 none 0) .nil,hc1.symm⟩
   ·have hm:m=n:=by omega
    subst hm;have hwt:∀ m∈(elems.length+rest.length)*P.bytesOf e::(DataW.weightsAll P e (elems.map (·.1))++DataW.weightsAll P e (rest.map (·.1))),m≤reachBytes:=by
     have:DataW.weights P t (DataW.slice (elems.map (·.1)) (rest.map (·.1)))=(elems.length+rest.length)*P.bytesOf e::(DataW.weightsAll P e (elems.map (·.1))++DataW.weightsAll P e (rest.map (·.1))):=by
      simp[DataW.weights,hu]
     rw[←this];exact hw
    have hlenb:len≤reachBytes:=by
     have h1:=hwt _ (List.mem_cons_self ..)
     have h2:(elems.length+rest.length)*1≤(elems.length+rest.length)*P.bytesOf e:=Nat.mul_le_mul_left _ hby
     omega
    have hone:∀ i,i<len→∃ ps,TyP P m e ps∧ps.length=P.cellsOf e∧∀ (j:Nat) (p:PV),ps[j]? = some p→∃ y,w.cell? ((a.add (i*P.cellsOf e)).add j)=some y∧RP I p y:=by
     intro i hi;have hg:=hget i hi
     have hsome:∃ y,elems[i]? = some y:=⟨elems[i]'(by omega),by simp[hel,hi]⟩
     obtain⟨y,hy⟩:=hsome;rw[hy,Option.bind_eq_some_iff] at hg;obtain⟨cs',hcs,htr⟩:=hg;obtain⟨ps,h1,h2,h3⟩:=ih e cs' y htr (by simpa using he) fun q hq=>hwt q (List.mem_cons_of_mem _ (List.mem_append_left _ (mQ (List.mem_map.2 ⟨y,List.mem_of_getElem? hy,rfl⟩) q hq)))
     obtain⟨h4,h5⟩:=ye hcs;refine⟨ps,h1,h3,fun j p hj => ?_⟩
     obtain⟨z,hz,hr⟩:=h2.get hj;exact⟨z,h5 j z hz,hr⟩
    obtain⟨g,hg⟩:∃ g:Nat→List PV, ∀ i,i<len→TyP P m e (g i)∧(g i).length=P.cellsOf e∧∀ (j:Nat) (p:PV),(g i)[j]? = some p→∃ y,w.cell? ((a.add (i*P.cellsOf e)).add j)=some y∧RP I p y:=by
     refine⟨fun i=>if hi:i<len then(hone i hi).choose else [],fun i hi => ?_⟩
     simp only[dif_pos hi];exact(hone i hi).choose_spec
    have hcget:∀ (i:Nat) (el:List PV),((List.range len).map g)[i]? = some el→i<len∧el=g i:=fun i el hi=>by
     have hlt':=(List.getElem?_eq_some_iff.1 hi).1
     simp at hlt';rw[List.getElem?_map,List.getElem?_range hlt'] at hi
     simp at hi;exact⟨hlt',hi.symm⟩
    refine⟨[.sl ((List.range len).map g)],⟨_,rfl,by simpa using hlenb,fun el hel' => ?_⟩,.cons ?_ .nil,hc1.symm⟩
    ·obtain⟨i,hi,rfl⟩:=List.mem_map.1 hel';exact(hg i (by simpa using hi)).1
    ·by_cases h0:len=0
     ·subst h0;exact .sl0 _ _
     ·obtain⟨p0,hp0⟩:∃ p,(g 0)[0]? = some p:=⟨(g 0)[0]'(by rw[(hg 0 (by omega)).2.1];exact hpos),by simp⟩
      obtain⟨y0,hy0,_⟩:=(hg 0 (by omega)).2.2 0 p0 hp0
      have hadd0:(a.add (0*P.cellsOf e)).add 0=a:=by simp[Addr.add]
      rw[hadd0] at hy0;have ha:=wQ hy0
      have:=RP.of_seg (I:=I) (c:=(List.range len).map g) (b:=a.block) (o:=a.off) (cap:=cap) (sz:=P.cellsOf e) (by simpa using hlc) (fun el hel'=>by
       obtain⟨i,hi,rfl⟩:=List.mem_map.1 hel';exact(hg i (by simpa using hi)).2.1) (fun i el j p hi hj=>by
       obtain⟨hlt',rfl⟩:=hcget i el hi;obtain⟨y,h1,h2⟩:=(hg i hlt').2.2 j p hj;refine⟨y,hI _ _ _ ?_,h2⟩
       have hadd:(a.add (i*P.cellsOf e)).add j=⟨a.block,a.off+(i*P.cellsOf e+j),none⟩:=by
        have:=Bp a.block a.off (i*P.cellsOf e) j
        rw[←ha] at this;exact this
       rw[hadd] at h1;exact h1)
      rw[←ha] at this
      simpa using this
  ·rename_i fs hu;obtain⟨xs,m,hfuel,rfl,hcl,hxl,hget⟩:=DataW.trod_struct hu h;have hm:m=n:=by omega
   subst hm;obtain⟨hf1,hf2,hf3⟩:=K0.struct hlt hu;have hwt:∀ m∈DataW.weightsEach P (fs.toList.map (·.type)) (xs.map (·.1)),m≤reachBytes:=by
    have:DataW.weights P t (DataW.agg (xs.map (·.1)))=DataW.weightsEach P (fs.toList.map (·.type)) (xs.map (·.1)):=by
     rw[DataW.weights,hu]
    rw[←this];exact hw
   obtain⟨ps,h1,h2,h3⟩:=sF (P:=P) (I:=I) (n:=m) fs.toList 0 cs (fun j f hj=>by rw[hf3 j f hj];omega) (fun f hf=>by
    obtain⟨i,hi⟩:=List.mem_iff_getElem?.1 hf
    have hi':fs[i]? = some f:=by simpa using hi
    have hg:=hget i f hi'
    have hlt':i<fs.size:=(Array.getElem?_eq_some_iff.1 hi').1
    obtain⟨y,hy⟩:∃ y,xs[i]? = some y:=⟨xs[i]'(by omega),by simp[hxl,hlt']⟩
    rw[hy] at hg;exact ih f.type _ y hg (by simpa using List.all_eq_true.1 hLt f hf) fun q hq=>hwt q (rz (j:=i) (t:=f.type) (d:=y.1) (by simp[hi']) (by simp[hy]) q hq)) (by rw[hcl,hf2];omega)
   refine⟨ps,⟨by rw[h1,hf2],fun i f hi => ?_⟩,by simpa using h2,by rw[h1,hf2]⟩
   have:=h3 i f (by simpa using hi)
   simpa using this
  ·cases hLt
def lC (P:Program) (t:TypeId) (ps:List PV):AV :=
 match P.underlying t with
 | some (.struct _)=>.agg (ps.map CV.pv)
 | _=>match ps with
  | [p]=>.c (.pv p)
  | _=>.c .top
theorem Cx {r:Reach} {base:Nat} {t:TypeId} {v:Value} (h:Value.okWide P w r base t v) (hs:(∀ fs,P.underlying t≠some (.struct fs))∧∀ n e,P.underlying t≠some (.array n e)):v.cells=#[v]:=by
 unfold Value.okWide at h;split at h
 ·exact absurd ‹_› (hs.1 _)
 ·exact absurd ‹_› (hs.2 _ _)
 ·cases v<;>first|rfl|(unfold Cell.okWide Cell.ok at h;split at h<;>simp_all)
theorem tF {f:Func} {s:ChangeSpec} {apart fresh handsOn again:Bool} {W W':World} {args:Array Value} {v:Value} {ds gs:List (DataW H)} {before pa pv:List MemPlace}
  (hW:DataW.Whole enc P f.params.toList s.vars apart W args.toList ds gs before)
  (hres:∀ (b:Nat) (sp:Nat→Bool) (hd:Bool),DataW.TrodAll enc P W' b sp hd f.resultTypes.toList (v.resultList f.resultTypes.size) (s.fn H (ds++gs)).results [])
  (hargs:∀ sp:Nat→Bool,(∀ p∈before,sp p.block=true)→DataW.TrodAll enc P W' 0 sp true f.params.toList args.toList (s.fn H (ds++gs)).args pa)
  (hvars:∀ sp:Nat→Bool,(∀ p∈before,sp p.block=true)→DataW.TrodVars enc P W' sp s.vars (s.fn H (ds++gs)).vars pv)
  (hps:before=pa++pv) (hk:W.keptBut W' (· ∈ before)) (hfz:∀ a:Addr,a.block<W.heap.size→W'.frozen? a=W.frozen? a)
  (hok:∀ (j:Nat) (t:TypeId) (r:Value),f.resultTypes[j]? = some t→(v.resultList f.resultTypes.size)[j]? = some r→Value.okWide P W' .any 0 t r) :
  s.post enc P f apart fresh handsOn again W args v W':=by
 have hold:∀ p∈before,(fun b=>decide (b<W.heap.size)) p.block=true:=fun p hp=>by simpa using hW.lt p hp
 have hlt:=fun p hp=>hW.lt p hp
 refine⟨ds,gs,before,[],pa,pv,hW,hres _ _ _,hargs _ hold,hvars _ hold,World.keptBut_mono (fun p hp=>⟨hp,?_⟩) hk,fun _ => ?_⟩
 ·rw[hps,List.mem_append] at hp;exact Or.inr hp
 ·obtain⟨_,_,_,_,_,hz,hn⟩:=hW;refine⟨hok,_,_,([]++pa)++pv,⟨[]++pa,pv,trodAll_append (hargs _ (fun _ _=>rfl)) (hres _ _ _),hvars _ (fun _ _=>rfl),rfl,?_,?_⟩,?_⟩
  ·intro b off hp;have hp':MemPlace.cell b off∈before:=by rw[hps];simpa using hp
   rw[hfz _ (hlt _ hp')];exact hz b off hp'
  ·intro ha;have:=hn ha
   rw[hps] at this
   simpa using this
  ·intro p hp _;rw[hps]
   simpa using hp
def pb (w:World):Gh := { I:=fun b o=>w.cell? ⟨b,o,none⟩,bb:=fun _=>none,ow:=fun _=>none }
theorem Ds (h:TabOK (pb w) w):WI (pb w) w :=
 ⟨fun _ _ _ h=>h,fun b hb=>⟨fun o=>by
  show w.cell? ⟨b,o,none⟩=none
  unfold World.cell?
  have:w.heap[b]? = none:=Array.getElem?_eq_none hb
  simp[this],rfl⟩,fun _ _ h=>(by cases h),fun _ _ h=>(by cases h),h⟩
theorem nM {W W':World} (hos:W'.os=W.os) (hout:W'.output=W.output) (h:∀ b,b<W.heap.size→W'.heap[b]? = W.heap[b]?) (may:MemPlace→Prop):W.keptBut W' may:=by
 refine⟨hos,hout,fun i hi => ?_⟩
 rw[h i hi];split
 ·rename_i h1 h2;rw[h1] at h2;cases h2;exact⟨rfl,rfl,rfl,fun _ _=>rfl⟩
 ·rename_i h1 h2;rw[h1] at h2;cases h2;exact .inr ⟨rfl,rfl⟩
 ·rfl
end
theorem kids:Kids Tryz.prog (· < Tryz.prog.types.size):=kids_rows (by kernel_rfl) (by kernel_rfl)
theorem rT:∀ t e,t<Tryz.prog.types.size→Tryz.prog.underlying t=some (.slice e)→0<Tryz.prog.cellsOf e:=slices_full_of _ (by kernel_rfl)
theorem sE {w:World}:∀ {l:List (String×DataW Unit)} {ps:List MemPlace},DataW.LaidVars Tryz.prog w l ps→∀ {n:String} {d:DataW Unit},(n,d)∈l →
  ∃ g t cs fuel p,Tryz.prog.globalNamed n=some g∧(Tryz.prog.globals[g]?).map (·.type)=some t∧w.var? Tryz.prog n=some cs∧DataW.trod (fun _=>()) Tryz.prog w 0 (fun _=>true) false fuel t cs.toList=some (d,p)
 | [],_,_,n,d,hm=>by simp at hm
 | (m,e)::l,ps,h,n,d,hm=>by
  obtain⟨g,t,cs,fuel,p,q,h1,h2,h3,h4,h5,_⟩:=h;rcases List.mem_cons.1 hm with h|h
  ·cases h;exact⟨g,t,cs,fuel,p,h1,h2,h3,h4⟩
  ·exact sE h5 h
set_option maxRecDepth 100000 in
theorem CK {W : World} {laid : List (String × DataW Unit)} (hL : laidMet Tryz.prog laid W) (hm : ("internal/strconv.uint64pow10", Go.Proofs.YtcfklbkkdipjhaaGreatDoor.Rows.laid_internal_strconv_uint64pow10) ∈ laid) (hsh : W.ShapedOpen Tryz.prog) : TabOK (pb W) W := by
 refine⟨fun x hx=>⟨rfl,?_⟩,fun b hb=>⟨rfl,?_⟩⟩
 ·simp only[tabs,List.mem_cons,List.not_mem_nil,or_false] at hx;subst hx;obtain⟨ps,hl,_⟩:=hL;obtain⟨g,t,cs,fuel,p,h1,h2,h3,h4⟩:=sE hl hm;have hg : g = 1 := Option.some.inj (h1.symm.trans (show Tryz.prog.globalNamed "internal/strconv.uint64pow10" = some 1 by kernel_rfl))
  subst hg;have ht:t=315:=Option.some.inj (h2.symm.trans (show (Tryz.prog.globals[1]?).map (·.type)=some 315 by kernel_rfl))
  subst ht;have hcs:=Lib.cells_of_tab (k:=.u64) (zs:=(List.range 20).map fun i=>((10 ^ i:Nat):Int)) (n:=20) (e:=296) (by kernel_rfl) (by kernel_rfl) (by kernel_rfl) (by kernel_rfl) (h:=h4)
  simp only[World.var?,h1,Option.bind_some] at h3
  split at h3
  ·rename_i cs' ty fz hh;cases h3;refine⟨ty,fz,hh.trans ?_⟩
   have:cs=cs.toList.toArray:=by simp
   rw[this,hcs];simp
  ·cases h3
 ·simp only[ints,List.mem_cons,List.not_mem_nil,or_false] at hb;subst hb;obtain⟨cs,hh,hs,hr⟩:=hsh.1 0 #[.int .i64 0] 3 (of_decide_eq_true (by kernel_rfl)) (by kernel_rfl)
  obtain⟨ts,hts,_,hall⟩:=hr (by kernel_rfl)
  have hct:Tryz.prog.cellTypes Tryz.prog.depth 3=some [3]:=by kernel_rfl
  have hts':ts=[3]:=Option.some.inj (hts.symm.trans hct)
  subst hts';have h1:0<cs.size:=by rw[hs];simp
  obtain⟨u,hu',hok⟩:=hall 0 cs[0] (by simp[h1])
  have hu0:u=3:=by simpa using hu'.symm
  subst hu0;unfold Cell.ok at hok;rw[show Tryz.prog.underlying 3=some (.int .i64) by kernel_rfl] at hok
  cases hv:cs[0] with
  | int k m =>
   rw[hv] at hok;obtain⟨rfl,_⟩:=hok;exact⟨m,cs,3,_,hh,by simp[h1,hv]⟩
  | _=>rw[hv] at hok;simp at hok
section
variable {H:Type} {enc:TypeId×Value→H}
set_option maxRecDepth 100000 in
theorem vL {W:World} {base:Nat} {L:List TypeId} (hL:nn Tryz.prog L=true):∀ {ts:List TypeId} {vs:List Value} {ds:List (DataW H)} {ps:List MemPlace},DataW.TrodAll enc Tryz.prog W 0 (fun _=>true) true ts vs ds ps→(∀ t∈ts,t∈L) →
  (∀ (j:Nat) (t:TypeId) (v:Value),ts[j]? = some t→vs[j]? = some v→Value.okWide Tryz.prog W .any base t v)→(∀ m∈DataW.weightsEach Tryz.prog ts ds,m≤reachBytes) →
  ∃ pss:List (List PV),All2 (fun t p=>∃ n,TyP Tryz.prog n t p) ts pss∧All2 (fun v x=>RA (pb W) W .ret v x) (List.zipWith (lC Tryz.prog) ts pss) vs∧∀ v∈List.zipWith (lC Tryz.prog) ts pss,bC v=false
 | [],[],[],_,_,_,_,_=>⟨[],.nil,.nil,by simp⟩
 | t::ts,v::vs,d::ds,ps,h,hts,hval,hw=>by
  obtain⟨p,q,⟨n,h1⟩,h2,_⟩:=h;have hw1:∀ m∈d.weights Tryz.prog t,m≤reachBytes:=fun m hm=>hw m (by unfold DataW.weightsEach;exact List.mem_append_left _ hm)
  have hw2:∀ m∈DataW.weightsEach Tryz.prog ts ds,m≤reachBytes:=fun m hm=>hw m (by unfold DataW.weightsEach;exact List.mem_append_right _ hm)
  have hv2:∀ (j:Nat) (u:TypeId) (x:Value),ts[j]? = some u→vs[j]? = some x→Value.okWide Tryz.prog W .any base u x:=by
   intro j u x hj hx;refine hval (j+1) u x ?_ ?_
   ·rw[List.getElem?_cons_succ];exact hj
   ·rw[List.getElem?_cons_succ];exact hx
  obtain⟨pss,h3,h4,h5⟩:=vL hL h2 (fun u hu=>hts u (List.mem_cons_of_mem _ hu)) hv2 hw2
  obtain⟨pv,h6,h7,h8⟩:=BT (w:=W) (I:=(pb W).I) (fun _ _ _ h=>h) kids hL n t _ _ h1 (hts t (by simp)) hw1
  have hok:=hval 0 t v rfl rfl
  have key:RA (pb W) W .ret (lC Tryz.prog t pv) v∧bC (lC Tryz.prog t pv)=false:=by
   unfold lC;split
   ·rename_i fs hu;refine⟨?_,rfl⟩
    unfold Value.okWide at hok;rw[hu] at hok;obtain⟨cs,rfl,_,_⟩:=hok;exact⟨cs.toList,by simp,All2.cV (h7.imp fun _ _ _ h=>h)⟩
   ·rename_i hns;have hnarr:∀ m e,Tryz.prog.underlying t≠some (.array m e):=fun m e hu=>by
     have:=List.all_eq_true.1 hL t (hts t (by simp))
     rw[hu] at this
     simp at this
    rw[Cx hok ⟨fun fs=>hns fs,hnarr⟩] at h7
    cases h7 with
    | cons ha hb =>
     cases hb
     exact⟨ha,rfl⟩
  refine⟨pv::pss,.cons ⟨n,h6⟩ h3,.cons key.1 h4,fun x hx => ?_⟩
  simp only[List.zipWith_cons_cons,List.mem_cons] at hx;rcases hx with rfl|hx
  ·exact key.2
  ·exact h5 x hx
theorem mG {W:World} {base:Nat} {sp:Nat→Bool} {held:Bool}:∀ {ts:List TypeId} {vs:List Value} {ds:List (DataW H)} {ps:List MemPlace},DataW.TrodAll enc Tryz.prog W base sp held ts vs ds ps→ds.length=ts.length
 | [],[],[],_,_=>rfl
 | _::_,_::_,_::_,_,⟨_,_,_,h2,_⟩=>by simp[mG h2]
theorem ku {W W':World} {base:Nat} {sp:Nat→Bool} {held:Bool}:∀ {ts:List TypeId} {vs:List Value} {ds:List (DataW H)} {ps:List MemPlace},(∀ p∈ps,W.sameAt W' p)→DataW.TrodAll enc Tryz.prog W base sp held ts vs ds ps→DataW.TrodAll enc Tryz.prog W' base sp held ts vs ds ps
 | [],[],[],_,_,h=>h
 | _::_,_::_,_::_,_,hs,⟨p,q,⟨n,h1⟩,h2,e⟩=>⟨p,q,⟨n,DataW.trod_carry n _ _ _ h1 fun x hx=>hs x (by rw[e];exact List.mem_append_left _ hx)⟩,ku (fun x hx=>hs x (by rw[e];exact List.mem_append_right _ hx)) h2,e⟩
set_option maxRecDepth 100000 in
theorem CZ {f:FuncId} {fn:Func} {spec:ChangeSpec} {laid:List (String×DataW Unit)} {L:List TypeId} {W:World} {base:Nat} {args:Array Value} {ds gs:List (DataW H)} {before:List MemPlace}
  (hg:K.good f=true) (hL:nn Tryz.prog L=true) (hts:∀ t∈fn.params.toList,t∈L) (hres:fn.resultTypes=#[4]) (hvars:spec.vars=[]) (hspec:∀ ds:List (DataW H),ds.length=fn.params.size→spec.fn H ds = { results:=[.lit (.bool true)],args:=ds })
  (hmem : ("internal/strconv.uint64pow10", Go.Proofs.YtcfklbkkdipjhaaGreatDoor.Rows.laid_internal_strconv_uint64pow10) ∈ laid) (hnoh : (laid.filter fun x => x.2.handleName?.isSome) = [])
  (hden:∀ pss:List (List PV),All2 (fun t p=>∃ n,TyP Tryz.prog n t p) fn.params.toList pss→den K f (List.zipWith (lC Tryz.prog) fn.params.toList pss) []=some (.ret (.c (.pv (.bool true))) []))
  (hval:∀ (j:Nat) t v,fn.params[j]? = some t→args[j]? = some v→Value.okWide Tryz.prog W .any base t v)
  (hW:DataW.Whole enc Tryz.prog fn.params.toList spec.vars false W args.toList ds gs before)
  (hwt:(DataW.weightsEach Tryz.prog fn.params.toList ds).all (· ≤ reachBytes)=true)
  (hLaid:laidMetH Tryz.prog laid W) (hsh:W.ShapedOpen Tryz.prog) :
  Calls Tryz.prog f args W fun e W'=>∃ v,e=.returned v∧spec.post enc Tryz.prog fn false true false false W args v W':=by
 have hW':=hW
 obtain⟨p,q,hA,hV,rfl,hfz,hnd⟩:=hW;rw[hvars] at hV;have hgq:gs=[]∧q=[]:=by
  cases gs with
  | nil=>exact⟨rfl,hV⟩
  | cons g gs=>exact hV.elim
 obtain⟨rfl,rfl⟩:=hgq;have hlen:=mG hA
 have hv2:∀ (j:Nat) (u:TypeId) (x:Value),fn.params.toList[j]? = some u→args.toList[j]? = some x→Value.okWide Tryz.prog W .any base u x:=by
  intro j u x hj hx;rw[Array.getElem?_toList] at hj hx
  exact hval j u x hj hx
 obtain⟨pss,h1,h2,h3⟩:=vL (base:=base) hL hA hts hv2 (fun m hm=>by simpa using List.all_eq_true.1 hwt m hm)
 have hlm:laidMet Tryz.prog laid W:=by
  unfold laidMetH at hLaid;rw[hnoh] at hLaid;exact hLaid
 have hwi:=Ds (CK hlm hmem hsh)
 have hc:=ou CJ hg (hden pss h1) (pb W) W args.toList hwi h2 h3 (fun i l h=>by simp at h) (fun s b h=>by cases h)
 rw[Array.toArray_toList] at hc;refine hc.mono fun e W' ⟨G',hx,hw',v,he,hv,_⟩ => ?_
 subst he;have hv':v=.bool true:=RA.boolv hv
 subst hv';refine⟨_,rfl,?_⟩
 have hold:∀ b,b<W.heap.size→W'.heap[b]? = W.heap[b]? := fun b hb=>(hx.old b hb rfl).2.1
 have hds:spec.fn H (ds++[]) = { results:=[.lit (.bool true)],args:=ds }:=by
  rw[List.append_nil];exact hspec ds (by rw[hlen];simp)
 refine tF (pa:=p) (pv:=[]) hW' (fun b sp hd => ?_) (fun sp hsp => ?_) (fun sp hsp => ?_) rfl (nM hx.os hx.output hold _) (fun a ha => ?_) ?_
 ·rw[hds,hres];exact trodAll_cons_mk (shut_bool (by kernel_rfl) _) trodAll_mk0
 ·rw[hds];have hT:∀ t∈fn.params.toList,t<Tryz.prog.types.size:=fun t ht=>by
   have:=List.all_eq_true.1 hL t (hts t ht)
   simp only[Bool.and_eq_true,decide_eq_true_eq] at this
   exact this.1
  have:=DataW.TrodAll.respare (spare':=sp) kids rT hT hA (fun y hy=>hsp y (by simpa using hy))
  refine ku (fun y hy => ?_) this
  have hlt:y.block<W.heap.size:=DataW.TrodAll.lt hA y hy
  cases y with
  | cell b off =>
   show W'.cell? ⟨b,off,none⟩=W.cell? ⟨b,off,none⟩
   unfold World.cell?
   rw[hold b hlt]
  | map b=>exact hold b hlt
 ·rw[hds,hvars];rfl
 ·unfold World.frozen?
  rw[hold a.block ha]
 ·rw[hres];intro j t r hj hr;have hj0:j=0:=by
   rcases Nat.eq_zero_or_pos j with h|h
   ·exact h
   ·rw[Array.getElem?_eq_none (by simp;omega)] at hj;cases hj
  subst hj0;simp at hj;subst hj;have hr0:r=.bool true:=by
   have:((Value.bool true).resultList 1)[0]? = some r:=by simpa using hr
   simp[Value.resultList] at this
   exact this.symm
  subst hr0;exact okWide_bool_mk (by kernel_rfl) _
end
end Go.Abs
namespace Go.Abs
open Go Go.Proofs
section
variable {P:Program} {t e:TypeId} {n:Nat} {ps:List PV}
theorem qY {k:IntKind} (h:bm P t=some (.int k)) (hp:TyP P n t ps):∃ z,ps=[.int k z]∧(Lit.int k z).wf=true:=by
 cases n with
 | zero=>exact hp.elim
 | succ n=>unfold TyP at hp;rw[kR h] at hp;exact hp
theorem ux {z:Int} (h:(Lit.int .i64 z).wf=true):I64 z:=by
 simp only[Lit.wf,Bool.and_eq_true,decide_eq_true_eq] at h;exact h
end
end Go.Abs
namespace Go.Abs
open Go Go.Proofs
set_option maxRecDepth 100000
theorem wY (p:PV):lC Tryz.prog 3 [p]=.c (.pv p):=by
 unfold lC;rw[Tryz.underlying3]
theorem args3 {t u v:TypeId} {pss:List (List PV)} {Q:Prop} (h:All2 (fun t p=>∃ n,TyP Tryz.prog n t p) [t,u,v] pss) (hq:∀ n m k p q r,TyP Tryz.prog n t p→TyP Tryz.prog m u q→TyP Tryz.prog k v r→pss=[p,q,r]→Q):Q:=by
 cases h with
 | cons h1 h =>
 cases h with
 | cons h2 h =>
 cases h with
 | cons h3 h =>
 cases h
 obtain⟨n,h1⟩:=h1;obtain⟨m,h2⟩:=h2;obtain⟨k,h3⟩:=h3;exact hq n m k _ _ _ h1 h2 h3 rfl
end Go.Abs
namespace Go.Abs
open Go Go.Proofs
set_option maxRecDepth 100000
def vM:List TypeId:=[4,3,9,56,75,58,22]
theorem yL:nn Tryz.prog vM=true:=by kernel_rfl
end Go.Abs
