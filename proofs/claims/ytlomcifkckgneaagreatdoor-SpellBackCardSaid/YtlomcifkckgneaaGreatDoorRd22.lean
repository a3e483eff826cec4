/-
  PLAIN LAWS OF LAYER 5: how long the texts of few selectors are; the text of parts, of lists.
  (And 1 texts more.)
-/
import Derived.Test.YtlomcifkckgneaaGreatDoorRd19
set_option linter.unusedSimpArgs false
set_option linter.unusedVariables false
namespace Go.Abs
open Go Go.Proofs
theorem Qy {a b:Int}(ha:I64 a)(hb:I64 b):(nthS a b).length≤50:=by
 have h1:=kV ha
 have h2:=kV hb
 unfold nthS;split<;>split<;>(try split)<;>simp<;>omega
theorem HJ (s:List UInt8):(ma s).length=s.length+2:=by
 unfold ma;split<;>simp
theorem TZ {c:Prop}[Decidable c]{x y:List UInt8}{n:Nat}(h1:x.length≤n)(h2:y.length≤n):(if c then x else y).length≤n:=by
 split<;>assumption
theorem QY (k:Int)(n v:List UInt8)(a b:Int)(l:List Sim)(ha:I64 a)(hb:I64 b)(hn:n.length≤100)(hv:v.length≤100):(simS (.mk k n v a b l)).length≤250+(eY l).length:=by
 have h1:=Qy ha hb
 have h2:=HJ v
 rw[simS]
 repeat' apply TZ
 all_goals ((try simp only[List.length_append,List.length_cons,List.length_nil]);omega)
theorem kY (l:List Sim)(m:Int)(hx:∀ x∈l, ∀ k:Int,k≤m→x.big=false→cntX x (k+1) m≤m→k≤cntX x (k+1) m∧(simS x).length≤300*(cntX x (k+1) m - k)):∀ k:Int,cntL l k m≤m→k≤cntL l k m∧(eY l).length≤300*(cntL l k m - k):=by
 induction l with
 | nil=>intro k _;rw[cntL,eY];simp
 | cons x l ih =>
  intro k h;rw[cntL] at h ⊢;by_cases hk:k≤m
  ·rw[if_pos hk] at h ⊢;by_cases hb:x.big=true
   ·rw[if_pos hb] at h;omega
   ·rw[if_neg hb] at h ⊢;have hc:cntX x (k+1) m≤m:=by
     rcases Int.lt_or_le m (cntX x (k+1) m) with h'|h'
     ·rw[Md l h'] at h;omega
     ·exact h'
    obtain⟨h1,h2⟩:=hx x (by simp) k hk (by simpa using hb) hc
    obtain⟨h3,h4⟩:=ih (fun y hy=>hx y (by simp[hy])) _ h
    rw[eY,List.length_append];refine⟨by omega,by push_cast;omega⟩
  ·rw[if_neg hk] at h;omega
theorem Rv (x:Sim)(hx:x.Ok):∀ k m:Int,k≤m→x.big=false→cntX x (k+1) m≤m→k≤cntX x (k+1) m∧(simS x).length≤300*(cntX x (k+1) m - k):=by
 induction hx with
 | @mk q n v a b l ha hb hn hv hll hl ih =>
  intro k m hk hbig hc;rw[cntX] at hc ⊢;simp only[Sim.big,Bool.or_eq_false_iff,decide_eq_false_iff_not] at hbig;obtain⟨h1,h2⟩:=kY l m (fun x hx k hk=>ih x hx k m hk) (k+1) hc
  have:=QY q n v a b l ha hb (by omega) (by omega)
  exact⟨by omega,by omega⟩
theorem MI (l:List Sim)(hl:∀ x∈l,x.Ok)(k m:Int)(h:cntL l k m≤m):k≤cntL l k m∧(eY l).length≤300*(cntL l k m - k) :=
 kY l m (fun x hx k hk=>Rv x (hl x hx) k m hk) k h
theorem JR (n:Int):(lZ n).length≤1:=by
 unfold lZ
 repeat' split
 all_goals simp
theorem Fb:∀ (ps:List Prt),(∀ p∈ps,p.Ok)→∀ n m:Int,jq ps n m≤m→n≤jq ps n m∧(ps.flatMap prtS).length≤ps.length+300*(jq ps n m - n)
 | [],_,n,m,h=>by rw[jq] at h ⊢;simp
 | p::ps,hp,n,m,h=>by
  rw[jq] at h ⊢;by_cases hn:n≤m
  ·rw[if_pos hn] at h ⊢;have hge:=rf ps (fun q hq=>hp q (by simp[hq])) (cntL p.l n m) m
   obtain⟨h1,h2⟩:=MI p.l (hp p (by simp)).all n m (by omega)
   obtain⟨h3,h4⟩:=Fb ps (fun q hq=>hp q (by simp[hq])) _ m h
   have hc:=JR p.comb
   rw[List.flatMap_cons,List.length_append,List.length_cons];have:(prtS p).length=(lZ p.comb).length+(eY p.l).length:=by rw[prtS,List.length_append]
   exact⟨by omega,by push_cast;omega⟩
  ·rw[if_neg hn] at h;omega
theorem Qv (s:List UInt8):(pseS s).length≤s.length+2:=by
 unfold pseS;split<;>simp
theorem xJ:∀ (l:List Cpx),(∀ c∈l,c.Ok)→∀ (n m k:Int),ku l n m=some k→k≤m→n≤k∧(((l.map fun c=>(cpxS c).length).sum:Nat):Int)≤300*(k - n)+102*l.length∧∀ c∈l,c.pseudo.length≤100∧(c.parts.length:Int)≤k - n
 | [],_,n,m,k,h,hk=>by rw[ku] at h;cases h;simp
 | c::l,hc,n,m,k,h,hk=>by
  rw[ku] at h;by_cases hn:n≤m
  ·rw[if_pos hn] at h;split at h
   ·cases h
   ·rename_i hp;have hcl:=hc c (by simp)
    obtain⟨h1,h2,h3⟩:=xJ l (fun d hd=>hc d (by simp[hd])) _ m k h hk
    obtain⟨h4,h5⟩:=Fb c.parts hcl.all (n+c.parts.length) m (by omega)
    have h6:=Qv c.pseudo
    have h7:(cpxS c).length=(c.parts.flatMap prtS).length+(pseS c.pseudo).length:=by rw[cpxS,List.length_append]
    refine⟨by omega,?_,fun d hd => ?_⟩
    ·simp only[List.map_cons,List.sum_cons,List.length_cons]
     push_cast
     omega
    ·rcases List.mem_cons.1 hd with rfl|hd
     ·exact⟨by omega,by omega⟩
     ·obtain⟨h8,h9⟩:=h3 d hd;exact⟨h8,by omega⟩
  ·rw[if_neg hn] at h;cases h;omega
theorem IY {α:Type}(f:α→Nat):∀ {l:List α} {x:α},x∈l→f x≤(l.map f).sum
 | y::l,x,h=>by
  rw[List.map_cons,List.sum_cons];rcases List.mem_cons.1 h with rfl|h
  ·omega
  ·have:=IY f h;omega
theorem Lk (x:List UInt8):∀ (y:List UInt8) (l:List (List UInt8)),Lib.join (x::y::l) [44]=x++44::Lib.join (y::l) [44]:=fun y l=>by
 simp[Lib.join,List.intercalate]
theorem QK (x:List UInt8):Lib.join [x] [44]=x:=by simp[Lib.join,List.intercalate]
theorem CO:∀ (l:List (List UInt8)),(Lib.join l [44]).length≤(l.map List.length).sum+l.length
 | []=>by simp[Lib.join,List.intercalate]
 | [x]=>by rw[QK];simp
 | x::y::l=>by
  rw[Lk];have:=CO (y::l)
  simp only[List.length_append,List.length_cons,List.map_cons,List.sum_cons] at this ⊢
  omega
theorem xE {l:List Cpx}(hok:∀ c∈l,c.Ok){m:Int}(h:pt l m=true):(l.length:Int)≤m∧(mn l).length≤1000*m.toNat∧∀ c∈l,(cpxS c).length≤1000*m.toNat∧c.pseudo.length≤100∧(c.parts.length:Int)≤m:=by
 unfold pt at h;split at h
 ·cases h
 ·rename_i k hk;have hkm:k≤m:=by simpa using h
  obtain⟨h1,h2,h3⟩:=xJ l hok _ m k hk hkm;have hj:=CO (l.map cpxS)
  rw[List.map_map,List.length_map] at hj;have hj':(mn l).length≤(l.map fun c=>(cpxS c).length).sum+l.length:=hj
  refine⟨by omega,by omega,fun c hc => ?_⟩
  have h4:=IY (fun c=>(cpxS c).length) hc
  obtain⟨h5,h6⟩:=h3 c hc;refine⟨by omega,h5,by omega⟩
end Go.Abs
namespace Go.Abs
open Go
theorem Um {M:Nat}(hM:100≤M){x:Sim}(hx:x.Ok):∀ k m:Int,x.big=false→cntX x k m≤m→Sl.Sb M x:=by
 induction hx with
 | @mk q n v a b l ha hb hn hv hll hl ih =>
  intro k m hbig h;rw[cntX] at h;have h0:n.length≤100∧v.length≤100:=by
   unfold Sim.big at hbig;simp only[Bool.or_eq_false_iff,decide_eq_false_iff_not] at hbig;omega
  have key:∀ (l:List Sim),(∀ x∈l,x.Ok)→(∀ x∈l, ∀ k m:Int,x.big=false→cntX x k m≤m→Sl.Sb M x)→∀ k:Int,cntL l k m≤m→∀ x∈l,Sl.Sb M x:=by
   intro l
   induction l with
   | nil=>intro _ _ k _ x hx;cases hx
   | cons y l ihl =>
    intro hok h k hk x hx;rw[cntL] at hk;by_cases h1:k≤m
    ·rw[if_pos h1] at hk;cases hy:y.big with
     | true=>rw[hy,if_pos rfl] at hk;omega
     | false =>
      rw[hy,if_neg (by simp)] at hk
      have h2:=tD y (hok y (by simp)) (k+1) m (by omega)
      have h3:=oq l (fun z hz=>hok z (by simp[hz])) _ m h2.1
      rcases List.mem_cons.1 hx with rfl|hx
      ·exact h x (by simp) (k+1) m hy (by omega)
      ·exact ihl (fun z hz=>hok z (by simp[hz])) (fun z hz=>h z (by simp[hz])) _ hk x hx
    ·rw[if_neg h1] at hk;omega
  exact .mk (by omega) (by omega) (key l hl ih k h)
theorem Iu {M:Nat}(hM:100≤M):∀ {l:List Sim},(∀ x∈l,x.Ok)→∀ k m:Int,cntL l k m≤m→(∀ x∈l,Sl.Sb M x)∧k+l.length≤cntL l k m
 | [],_,k,m,h=>⟨(fun x hx=>by cases hx),by rw[cntL];simp⟩
 | y::l,hok,k,m,h=>by
  rw[cntL] at h ⊢;by_cases h1:k≤m
  ·rw[if_pos h1] at h ⊢;cases hy:y.big with
   | true=>rw[hy,if_pos rfl] at h;omega
   | false =>
    rw[hy,if_neg (by simp)] at h
    rw[if_neg (by simp)]
    have h2:=tD y (hok y (by simp)) (k+1) m (by omega)
    obtain⟨h3,h4⟩:=Iu hM (l:=l) (fun z hz=>hok z (by simp[hz])) _ m h
    refine⟨fun x hx => ?_,by rw[List.length_cons];push_cast;omega⟩
    rcases List.mem_cons.1 hx with rfl|hx
    ·exact Um hM (hok x (by simp)) (k+1) m hy (by omega)
    ·exact h3 x hx
  ·rw[if_neg h1] at h;omega
theorem Iv {M:Nat}(hM:100≤M):∀ {ps:List Prt},(∀ p∈ps,p.Ok)→∀ n m:Int,jq ps n m≤m→n≤jq ps n m∧∀ p∈ps,(∀ x∈p.l,Sl.Sb M x)∧(p.l.length:Int)≤m - n
 | [],_,n,m,h=>⟨by rw[jq];omega,fun p hp=>by cases hp⟩
 | q::ps,hok,n,m,h=>by
  rw[jq] at h ⊢;by_cases hn:n≤m
  ·rw[if_pos hn] at h ⊢;have hge:=rf ps (fun z hz=>hok z (by simp[hz])) (cntL q.l n m) m
   obtain⟨h1,h2⟩:=Iu hM (hok q (by simp)).all n m (by omega)
   obtain⟨h3,h4⟩:=Iv hM (ps:=ps) (fun z hz=>hok z (by simp[hz])) _ m h
   refine⟨by omega,fun p hp => ?_⟩
   rcases List.mem_cons.1 hp with rfl|hp
   ·exact⟨h1,by omega⟩
   ·obtain⟨h5,h6⟩:=h4 p hp;exact⟨h5,by omega⟩
  ·rw[if_neg hn] at h;omega
theorem JB {M:Nat}(hM:100≤M):∀ {l:List Cpx},(∀ c∈l,c.Ok)→∀ (n m k:Int),0≤n→ku l n m=some k→k≤m→n≤k∧∀ c∈l,c.pseudo.length≤100∧(c.parts.length:Int)≤m∧∀ p∈c.parts,(∀ x∈p.l,Sl.Sb M x)∧(p.l.length:Int)≤m
 | [],_,n,m,k,_,h,hk=>by rw[ku] at h;cases h;exact⟨Int.le_refl _,fun c hc=>by cases hc⟩
 | d::l,hok,n,m,k,h0,h,hk=>by
  rw[ku] at h;by_cases hn:n≤m
  ·rw[if_pos hn] at h;split at h
   ·cases h
   ·rename_i hp;have hge:=rf d.parts (hok d (by simp)).all (n+d.parts.length) m
    obtain⟨h1,h2⟩:=JB hM (l:=l) (fun z hz=>hok z (by simp[hz])) _ m k (by omega) h hk
    obtain⟨h3,h4⟩:=Iv hM (hok d (by simp)).all (n+d.parts.length) m (by omega)
    refine⟨by omega,fun c hc => ?_⟩
    rcases List.mem_cons.1 hc with rfl|hc
    ·refine⟨by omega,by omega,fun p hp => ?_⟩
     obtain⟨h5,h6⟩:=h4 p hp;exact⟨h5,by omega⟩
    ·exact h2 c hc
  ·rw[if_neg hn] at h;cases h;omega
structure SmallC (c:Cpx):Prop where
 pseudo:c.pseudo.length≤100
 parts:c.parts.length≤1000
 all:∀ p∈c.parts,p.l.length≤1000∧∀ x∈p.l,Sl.Sb 100000000 x
theorem Ap {l:List Cpx}(hok:∀ c∈l,c.Ok)(h:pt l 200=true):l.length≤200∧∀ c∈l,SmallC c:=by
 unfold pt at h;split at h
 ·cases h
 ·rename_i k hk;have hkm:k≤200:=by simpa using h
  obtain⟨h1,h2⟩:=JB (M:=100000000) (by omega) hok _ 200 k (by omega) hk hkm
  refine⟨by omega,fun c hc => ?_⟩
  obtain⟨h3,h4,h5⟩:=h2 c hc;exact⟨h3,by omega,fun p hp=>⟨by have:=(h5 p hp).2;omega,(h5 p hp).1⟩⟩
end Go.Abs
