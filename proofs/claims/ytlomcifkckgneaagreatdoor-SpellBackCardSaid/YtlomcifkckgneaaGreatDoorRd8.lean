/-
  SELECTORS: the values of selectors that may be are read as the selectors.
  (And 11 texts more.)
-/
import Derived.Lib.Join
import Derived.Test.YtlomcifkckgneaaGreatDoorRd7
set_option linter.unusedSimpArgs false
set_option linter.unusedVariables false
namespace Go.Abs
namespace Sl
open Tk (cT sep within digit begins at0 all)
theorem cR (k:Int):Ne.good k []=true:=by rw[Ne.good]
theorem bA (k:Int)(v:Val)(l:List Val):Ne.good k (v::l)=(Ne.kf k v&&Ne.good k l):=by rw[Ne.good]
theorem lW:∀ (k:Int) (a b:List Val),Ne.good k (a++b)=(Ne.good k a&&Ne.good k b)
 | k,[],b=>by rw[List.nil_append,cR,Bool.true_and]
 | k,v::a,b=>by rw[List.cons_append,bA,bA,lW k a b,Bool.and_assoc]
theorem Ip {k:Int}{t:Tok}(h1:Ne.cY k t=false)(h2:Ne.opens t=0):Ne.kf k (tv t)=true:=by
 unfold tv;rw[Ne.kf,h1,h2];rfl
theorem La {k:Int}{t:Tok}(h:t.kind≠7):Ne.cY k t=false:=by
 unfold Ne.cY;rw[Bool.and_eq_false_iff];right;rw[decide_eq_false_iff_not];intro e;rw[e] at h;exact h rfl
theorem FW {k:Int}{c:UInt8}(h1:c≠41)(h2:c≠93)(h3:c≠125):Ne.cY k ⟨7,[c],0⟩=false:=by
 unfold Ne.cY;rw[Bool.and_eq_false_iff];right;rw[decide_eq_false_iff_not];intro e;unfold Ne.gB Ne.jG at e
 injection e with _ e _
 split at e
 ·exact h2 (by simpa using e)
 ·split at e
  ·exact h3 (by simpa using e)
  ·exact h1 (by simpa using e)
theorem Hm {t:Tok}(h:t.kind≠7)(h2:t.kind≠2):Ne.opens t=0:=by
 unfold Ne.opens mg;rw[if_neg h2,if_neg (fun e=>h e.1)]
theorem DW {c:UInt8}(h1:c≠40)(h2:c≠91)(h3:c≠123):Ne.opens ⟨7,[c],0⟩=0:=by
 unfold Ne.opens mg;rw[if_neg (by simp),if_pos ⟨rfl,rfl⟩,if_neg (by simpa using h1),if_neg (by simpa using h2),if_neg (by simpa using h3)]
theorem ij {k:Int}{t:Tok}(h:t.kind≠7)(h2:t.kind≠2):Ne.kf k (tv t)=true:=Ip (La h) (Hm h h2)
theorem iC (k:Int){c:UInt8}(h:c=42∨c=46∨c=58∨c=61∨c=43∨c=44∨c=62∨c=126):Ne.kf k (dv c)=true:=by
 refine Ip (FW ?_ ?_ ?_) (DW ?_ ?_ ?_)<;>rcases h with rfl|rfl|rfl|rfl|rfl|rfl|rfl|rfl<;>decide
theorem mJ (k:Int)(s:List UInt8):Ne.kf k (iv s)=true:=ij (by simp) (by simp)
theorem Fg (k:Int){l:List Val}(h:Ne.good 3 l=true):Ne.kf k (.mk 3 Ne.tok0 l)=true:=by
 rw[Ne.kf,h];simp
theorem Ey (k:Int){t:Tok}{l:List Val}(ht:t.kind=2)(h:Ne.good 5 l=true):Ne.kf k (.mk 5 t l)=true:=by
 rw[Ne.kf,h,ht];simp
theorem Oy (k a b:Int):Ne.good k (nthV a b)=true:=by
 unfold nthV;split
 ·rw[bA,cR,ij (by simp) (by simp)];rfl
 ·split
  ·rw[bA,cR,ij (by simp) (by simp)];rfl
  ·split
   ·rw[bA,bA,bA,cR,ij (by simp) (by simp),ij (by simp) (by simp),iC k (by simp)];rfl
   ·rw[bA,cR,ij (by simp) (by simp)];rfl
theorem dm:Ne.depth []=0:=by rw[Ne.depth]
theorem dF (v:Val)(l:List Val):Ne.depth (v::l)=max (Ne.fH v) (Ne.depth l):=by rw[Ne.depth]
theorem nr (t:Tok):Ne.fH (tv t)=0:=by unfold tv;rw[Ne.fH,if_neg (by decide)]
theorem gy (c:UInt8):Ne.fH (dv c)=0:=nr _
theorem kS (s:List UInt8):Ne.fH (iv s)=0:=nr _
theorem sr {k:Int}(t:Tok)(l:List Val)(h:2≤k∧k≤5):Ne.fH (.mk k t l)=Ne.depth l+1:=by rw[Ne.fH,if_pos h]
theorem MM (a b:Int):Ne.depth (nthV a b)=0:=by
 unfold nthV
 repeat' split
 all_goals simp[dF,dm,nr,gy]
theorem v1:simV (.mk 1 [] [] 0 0 [])=[dv 42]:=by rw[simV,if_pos rfl]
theorem v2 (n:List UInt8):simV (.mk 2 n [] 0 0 [])=[iv n]:=by rw[simV];rfl
theorem v3 (n:List UInt8):simV (.mk 3 n [] 0 0 [])=[tv ⟨4,n,0⟩]:=by rw[simV];rfl
theorem v4 (n:List UInt8):simV (.mk 4 n [] 0 0 [])=[dv 46,iv n]:=by rw[simV];rfl
theorem v5 (n:List UInt8):simV (.mk 5 n [] 0 0 [])=[.mk 3 Ne.tok0 [iv n]]:=by rw[simV];rfl
theorem v6 (n v:List UInt8):simV (.mk 6 n v 0 0 [])=[.mk 3 Ne.tok0 [iv n,dv 61,tv ⟨6,v,lB v⟩]]:=by rw[simV];rfl
theorem v7 (n:List UInt8):simV (.mk 7 n [] 0 0 [])=[dv 58,iv n]:=by rw[simV];rfl
theorem v8 (a b:Int):simV (.mk 8 [] [] a b [])=[dv 58,.mk 5 ⟨2,nthT,0⟩ (nthV a b)]:=by rw[simV];rfl
theorem v9:simV (.mk 9 [] [] 0 0 [])=[dv 58,iv qt]:=by rw[simV];rfl
theorem v10:simV (.mk 10 [] [] 0 0 [])=[dv 58,iv mR]:=by rw[simV];rfl
theorem v11 (x:Sim):simV (.mk 11 [] [] 0 0 [x])=[dv 58,.mk 5 ⟨2,notT,0⟩ (simV x)]:=by
 have:dq [x]=simV x:=by rw[dq,dq,List.append_nil]
 rw[simV,this];rfl
theorem Qu {x:Sim}(h:Gs x):∀ k:Int,Ne.good k (simV x)=true∧Ne.depth (simV x)≤2∧(x.kind≠11→Ne.depth (simV x)≤1):=by
 induction h with
 | any=>intro k;rw[v1,bA,cR,iC k (by simp)];simp[dF,dm,gy]
 | tag n hn hl=>intro k;rw[v2,bA,cR,mJ];simp[dF,dm,kS]
 | id n hn hw=>intro k;rw[v3,bA,cR,ij (by simp) (by simp)];simp[dF,dm,nr]
 | cls n hn=>intro k;rw[v4,bA,bA,cR,iC k (by simp),mJ];simp[dF,dm,gy,kS]
 | has n hn=>intro k;rw[v5,bA,cR,Fg k (by rw[bA,cR,mJ];rfl)];simp[dF,dm,sr,kS]
 | is n v hn h1 h2 =>
  intro k;rw[v6,bA,cR,Fg k (by rw[bA,bA,bA,cR,mJ,iC 3 (by simp),ij (by simp) (by simp)];rfl)]
  simp[dF,dm,sr,kS,gy,nr]
 | state n hn=>intro k;rw[v7,bA,bA,cR,iC k (by simp),mJ];simp[dF,dm,gy,kS]
 | nth a b ha hb=>intro k;rw[v8,bA,bA,cR,iC k (by simp),Ey k rfl (Oy 5 a b)];simp[dF,dm,gy,sr,MM]
 | root=>intro k;rw[v9,bA,bA,cR,iC k (by simp),mJ];simp[dF,dm,gy,kS]
 | empty=>intro k;rw[v10,bA,bA,cR,iC k (by simp),mJ];simp[dF,dm,gy,kS]
 | not x hx hk ih =>
  intro k;have:=ih 5
  rw[v11,bA,bA,cR,iC k (by simp),Ey k rfl this.1]
  simp only[dF,dm,gy,sr _ _ (show (2:Int)≤5∧(5:Int)≤5 by decide),Sim.kind]
  have h2:=this.2.2 hk
  refine⟨rfl,by omega,fun h=>absurd rfl h⟩
end Sl
end Go.Abs
namespace Go.Abs
namespace Sl
open Tk (cT sep within digit begins at0 all)
def JF (s:List UInt8):Int:=s.foldl (fun n c=>10*n+((c.toNat:Int) - 48)) 0
theorem xf (s:List UInt8)(c:UInt8):JF (s++[c])=10*JF s+((c.toNat:Int) - 48):=by
 unfold JF;rw[List.foldl_append];rfl
theorem Sr:∀ u:Nat,JF (Lib.decDigits u)=u:=by
 intro u
 induction u using Nat.strongRecOn with
 | _ u ih =>
  have hd:∀ v:Nat,v<10→((UInt8.ofNat (48+v)).toNat:Int) - 48=v:=fun v hv=>by
   have key:∀ v:Fin 10,(UInt8.ofNat (48+v.1)).toNat=48+v.1:=by decide
   rw[key ⟨v,hv⟩];simp only[];omega
  unfold Lib.decDigits;split
  ·rename_i h;have:=xf [] (UInt8.ofNat (48+u))
   rw[List.nil_append] at this
   rw[this,hd u h]
   show 10*(0:Int)+u=u
   omega
  ·rw[xf,ih (u / 10) (by omega),hd (u % 10) (Nat.mod_lt _ (by decide))]
   omega
theorem SW {u:Nat}(h:u<10):(Lib.decDigits u).length=1:=by unfold Lib.decDigits;rw[dif_pos h];rfl
theorem NU {u:Nat}(h:¬ u<10):(Lib.decDigits u).length=(Lib.decDigits (u / 10)).length+1:=by
 rw[Lib.decDigits,dif_neg h,List.length_append];rfl
theorem Io {u:Nat}(h:u<10000):1≤(Lib.decDigits u).length∧(Lib.decDigits u).length≤4:=by
 have step:∀ u:Nat,(u<10∧(Lib.decDigits u).length=1)∨(10≤u∧(Lib.decDigits u).length=(Lib.decDigits (u / 10)).length+1):=fun u=>by
  by_cases h:u<10
  ·exact .inl ⟨h,SW h⟩
  ·exact .inr ⟨by omega,NU h⟩
 rcases step u with h1|h1
 ·omega
 ·rcases step (u / 10) with h2|h2
  ·omega
  ·rcases step (u / 10 / 10) with h3|h3
   ·omega
   ·rcases step (u / 10 / 10 / 10) with h4|h4
    ·omega
    ·omega
theorem FM {u:Nat}(h:u<10000):digits (Lib.decDigits u)=u:=by
 obtain⟨h1,h2⟩:=Io h;unfold digits;rw[if_neg (by omega),if_pos (List.all_eq_true.2 (qA u))]
 exact Sr u
theorem tU {v w:Val}{l m m':List Val}(h1:l=v::m)(h2:l=m'++[w])(hv:ar v=false)(hw:ar w=false):trim l=l:=by
 have a:l.dropWhile ar=l:=by rw[h1,List.dropWhile_cons,if_neg (by simp[hv])]
 have b:l.reverse.dropWhile ar=l.reverse:=by rw[h2,List.reverse_append];simp[hw]
 unfold trim;rw[a,b,List.reverse_reverse]
theorem DI {l:List Val}(h:∀ v∈l,ar v=false):trim l=l:=by
 cases hl:l with
 | nil=>rfl
 | cons v m =>
  rcases List.eq_nil_or_concat l with e|⟨m',w,e⟩
  ·rw[e] at hl;cases hl
  ·rw[←hl];exact tU hl (by simpa using e) (h v (by rw[hl];simp)) (h w (by rw[e];simp))
theorem rv (c:UInt8):ar (dv c)=false:=rfl
theorem NT {t:Tok}(h:t.kind≠8):ar (tv t)=false:=by
 unfold tv ar;simp[h]
theorem Ni {k:Int}(h:k≠1)(t:Tok)(l:List Val):ar (.mk k t l)=false:=by
 unfold ar;simp[h]
theorem Ld (a b:Int):∀ v∈nthV a b,ar v=false:=by
 unfold nthV;intro v hv;split at hv
 ·obtain rfl:v=tv ⟨5,[],b⟩:=by simpa using hv
  rfl
 ·split at hv
  ·obtain rfl:v=tv ⟨5,110::Lib.itoa b,a⟩:=by simpa using hv
   rfl
  ·split at hv
   ·simp only[List.mem_cons,List.not_mem_nil,or_false] at hv;rcases hv with rfl|rfl|rfl<;>rfl
   ·obtain rfl:v=tv ⟨5,[110],a⟩:=by simpa using hv
    rfl
theorem OE {a b:Int}(ha:few a)(hb:few b):nthM (nthV a b)=some (a,b):=by
 have hn:nth (nthV a b)=some (a,b):=by
  unfold nth;rw[DI (Ld a b)];unfold nthV;by_cases h0:a=0
  ·subst h0;rw[if_pos rfl];rfl
  ·rw[if_neg h0];by_cases hn:b<0
   ·rw[if_pos hn];have e:Lib.itoa b=45::Lib.decDigits b.natAbs:=by unfold Lib.itoa;rw[if_pos hn]
    unfold few at hb;have hd:=FM (u:=b.natAbs) (by omega)
    have hl:=Io (u:=b.natAbs) (by omega)
    unfold tv;simp only;rw[if_pos trivial];unfold nth1;rw[if_neg (by simp),if_pos rfl,if_neg (by simp),if_neg (by rw[e];simp)]
    rw[e];have ht:(110::45::Lib.decDigits b.natAbs:List UInt8).take 2=[110,45]:=rfl
    have hdr:(110::45::Lib.decDigits b.natAbs:List UInt8).drop 2=Lib.decDigits b.natAbs:=rfl
    simp only[ht,hdr,hd,List.length_cons];rw[if_pos ⟨by omega,trivial,by omega⟩]
    congr 2
    omega
   ·rw[if_neg hn];by_cases hp:0<b
    ·rw[if_pos hp];unfold tv dv tv;simp only;rw[if_pos ⟨trivial,trivial,trivial,rfl,trivial,trivial,trivial,by omega⟩]
    ·rw[if_neg hp];obtain rfl:b=0:=by omega
     unfold tv;simp only;rw[if_pos trivial];rfl
 unfold nthM;rw[hn];simp only;rw[if_pos ⟨ha,hb⟩]
theorem bR (s:List UInt8)(c:UInt8):aI s (dv c)=decide (s=[c]):=by
 unfold aI dv tv;rw[Bool.eq_iff_iff];simp[Tok.mk.injEq,eq_comm]
theorem eo (s:List UInt8){t:Tok}(h:t.kind≠7):aI s (tv t)=false:=by
 unfold aI tv;rw[Bool.and_eq_false_iff];right;rw[decide_eq_false_iff_not];intro e;rw[e] at h;exact h rfl
theorem gl (s:List UInt8){k:Int}(h:k≠1)(t:Tok)(l:List Val):aI s (.mk k t l)=false:=by
 unfold aI;rw[Bool.and_eq_false_iff];left
 simpa using h
theorem lz (s:List UInt8)(c:UInt8)(r:List Val):sign s (dv c::r)=if s=[c] then some r else none:=by
 show (if aI s (dv c)=true then some r else none)=_
 rw[bR];by_cases h:s=[c]<;>simp[h]
theorem TG (s:List UInt8){t:Tok}(h:t.kind≠7)(r:List Val):sign s (tv t::r)=none:=by
 show (if aI s (tv t)=true then some r else none)=_
 rw[eo s h];rfl
theorem Bt (s:List UInt8){k:Int}(h:k≠1)(t:Tok)(l r:List Val):sign s (.mk k t l::r)=none:=by
 show (if aI s (.mk k t l)=true then some r else none)=_
 rw[gl s h];rfl
theorem ye (k:Int)(t:Tok)(r:List Val):tokK k (tv t::r)=if t.kind=k then some t else none:=by
 unfold tokK tv;by_cases h:t.kind=k<;>simp[h]
theorem Np (k:Int){k':Int}(h:k'≠1)(t:Tok)(l r:List Val):tokK k (.mk k' t l::r)=none:=by
 show (if k'=1∧t.kind=k then some t else none)=none
 rw[if_neg (fun e=>h e.1)]
theorem xh (k:Int)(h:k≠7)(c:UInt8)(r:List Val):tokK k (dv c::r)=none:=by
 unfold dv;rw[ye,if_neg (fun e=>h e.symm)]
theorem AK (s:List UInt8)(r:List Val):name (iv s::r)=some (s,r):=by
 unfold name iv;rw[ye,if_pos rfl];rfl
theorem Uz (k:Int)(h:k≠1)(t:Tok)(r:List Val):eM k (tv t::r)=none:=by
 show (if (1:Int)=k then some ((t,[]),r) else none)=none
 rw[if_neg (fun e=>h e.symm)]
theorem GM (k:Int)(t:Tok)(l r:List Val):eM k (.mk k t l::r)=some ((t,l),r):=by
 show (if k=k then some ((t,l),r) else none)=_
 rw[if_pos rfl]
theorem lg {α:Type}(b:Bool){x:Option α}(h:x=none):(if b then x else none)=none:=by
 cases b
 ·rfl
 ·exact h
theorem gu (f:Nat)(first:Bool)(r:List Val):simple (f+1) first (dv 58::r)=colon (simple f true) r:=by
 rw[simple,lg first (xh 1 (by decide) _ _)]
 simp only;rw[lg first (by rw[lz];rfl)]
 simp only;rw[xh 4 (by decide)]
 simp only;rw[lz,if_neg (by decide)]
 simp only;rw[lz,if_pos rfl]
theorem mc {g:List Val→Option (Sim×List Val)}{s:List UInt8}{x:Sim}(h:fu s=some x)(r:List Val):colon g (iv s::r)=some (x,r):=by
 unfold colon;have:eM 5 (iv s::r)=none:=Uz 5 (by decide) _ _
 rw[this];simp only;rw[AK];simp only;rw[h];rfl
theorem vQ (f:Nat)(first:Bool)(l r:List Val):simple (f+1) first (.mk 3 Ne.tok0 l::r)=(attr l).map fun y=>(y,r):=by
 rw[simple,lg first (Np 1 (by decide) _ _ _)]
 simp only;rw[lg first (Bt _ (by decide) _ _ _)]
 simp only;rw[Np 4 (by decide)]
 simp only;rw[Bt _ (by decide)]
 simp only;rw[Bt _ (by decide)]
 simp only;rw[GM]
theorem Ci {s:List UInt8}(h:jE s):fu s=some (.mk 7 s [] 0 0 []):=by unfold fu;rw[if_pos h]
theorem Gz:fu qt=some (.mk 9 [] [] 0 0 []):=by unfold fu;rw[if_neg (by decide),if_pos rfl]
theorem CD:fu mR=some (.mk 10 [] [] 0 0 []):=by unfold fu;rw[if_neg (by decide),if_neg (by decide),if_pos rfl]
theorem zQ {x:Sim}(h:Gs x):∀ v∈simV x,ar v=false:=by
  intro v hv;cases h with
  | any =>
           rw[v1] at hv;obtain rfl:v=dv 42:=by simpa using hv
           rfl
  | tag n hn hl =>
                   rw[v2] at hv;obtain rfl:v=iv n:=by simpa using hv
                   rfl
  | id n hn hw =>
                  rw[v3] at hv;obtain rfl:v=tv ⟨4,n,0⟩:=by simpa using hv
                  rfl
  | cls n hn=>rw[v4] at hv;simp only[List.mem_cons,List.not_mem_nil,or_false] at hv;rcases hv with rfl|rfl<;>rfl
  | has n hn=>rw[v5] at hv;simp only[List.mem_cons,List.not_mem_nil,or_false] at hv;subst hv;rfl
  | is n w hn h1 h2=>rw[v6] at hv;simp only[List.mem_cons,List.not_mem_nil,or_false] at hv;subst hv;rfl
  | state n hn=>rw[v7] at hv;simp only[List.mem_cons,List.not_mem_nil,or_false] at hv;rcases hv with rfl|rfl<;>rfl
  | nth a b ha hb=>rw[v8] at hv;simp only[List.mem_cons,List.not_mem_nil,or_false] at hv;rcases hv with rfl|rfl<;>rfl
  | root=>rw[v9] at hv;simp only[List.mem_cons,List.not_mem_nil,or_false] at hv;rcases hv with rfl|rfl<;>rfl
  | empty=>rw[v10] at hv;simp only[List.mem_cons,List.not_mem_nil,or_false] at hv;rcases hv with rfl|rfl<;>rfl
  | not x hx hk=>rw[v11] at hv;simp only[List.mem_cons,List.not_mem_nil,or_false] at hv;rcases hv with rfl|rfl<;>rfl
theorem Cf {x:Sim}(h:Gs x):∀ (f:Nat) (first:Bool) (r:List Val),(first=true∨3≤x.kind)→(x.kind≠11∨1≤f)→simple (f+1) first (simV x++r)=some (x,r):=by
 induction h with
 | any =>
  intro f first r hf _
  obtain rfl:first=true:=hf.resolve_right (by simp[Sim.kind])
  rw[v1,List.cons_append,List.nil_append,simple,if_pos rfl,xh 1 (by decide)]
  simp only;rw[if_pos trivial,lz,if_pos rfl]
 | tag n hn hl =>
  intro f first r hf _
  obtain rfl:first=true:=hf.resolve_right (by simp[Sim.kind])
  rw[v2,List.cons_append,List.nil_append,simple,if_pos rfl];unfold iv;rw[ye,if_pos rfl];simp only;rw[hl];rfl
 | id n hn hw =>
  intro f first r hf _
  rw[v3,List.cons_append,List.nil_append,simple,lg first (by rw[ye];rfl)]
  simp only;rw[lg first (TG _ (by simp) _)]
  simp only;rw[ye,if_pos rfl];rfl
 | cls n hn =>
  intro f first r hf _
  rw[v4,List.cons_append,List.cons_append,List.nil_append,simple,lg first (xh 1 (by decide) _ _)]
  simp only;rw[lg first (by rw[lz];rfl)]
  simp only;rw[xh 4 (by decide)]
  simp only;rw[lz,if_pos rfl];simp only;rw[AK];rfl
 | has n hn =>
  intro f first r hf _
  rw[v5,List.cons_append,List.nil_append,vQ];rfl
 | is n v hn h1 h2 =>
  intro f first r hf _
  rw[v6,List.cons_append,List.nil_append,vQ];have:attr [iv n,dv 61,tv ⟨6,v,lB v⟩]=some (.mk 6 n v 0 0 []):=by
   unfold attr;have e:([iv n,dv 61,tv ⟨6,v,lB v⟩].filter fun v => !ar v)=[iv n,dv 61,tv ⟨6,v,lB v⟩]:=rfl
   rw[e];unfold iv tv;simp only;rw[if_pos ⟨trivial,trivial,by rw[bR];rfl,trivial,.inr trivial⟩]
  rw[this];rfl
 | state n hn =>
  intro f first r hf _
  rw[v7,List.cons_append,List.cons_append,List.nil_append,gu,mc (Ci hn)]
 | nth a b ha hb =>
  intro f first r hf _
  rw[v8,List.cons_append,List.cons_append,List.nil_append,gu];unfold colon;rw[GM];simp only;rw[if_pos trivial,OE ha hb];rfl
 | root =>
  intro f first r hf _
  rw[v9,List.cons_append,List.cons_append,List.nil_append,gu,mc Gz]
 | empty =>
  intro f first r hf _
  rw[v10,List.cons_append,List.cons_append,List.nil_append,gu,mc CD]
 | not x hx hk ih =>
  intro f first r hf hfu
  obtain⟨g,rfl⟩:∃ g,f=g+1:=⟨f - 1,by have:=hfu.resolve_left (by simp[Sim.kind]);omega⟩
  rw[v11,List.cons_append,List.cons_append,List.nil_append,gu];unfold colon;rw[GM];simp only;rw[if_neg (by decide),if_pos trivial,DI (zQ hx)]
  have:=ih g true [] (.inl rfl) (.inl hk)
  rw[List.append_nil] at this
  rw[this];simp only;rw[if_neg hk]
end Sl
end Go.Abs
namespace Go.Abs
namespace Sl
open Tk (cT sep within digit begins at0 all)
theorem kv (v:Val)(r:List Val):over (v::r)=(ar v||aI [62] v||aI [43] v||aI [126] v):=rfl
theorem og {c:UInt8}(h1:c≠62)(h2:c≠43)(h3:c≠126)(r:List Val):over (dv c::r)=false:=by
 rw[kv,rv,bR,bR,bR,decide_eq_false (by simpa using h1.symm),decide_eq_false (by simpa using h2.symm),decide_eq_false (by simpa using h3.symm)];rfl
theorem Iy {t:Tok}(h:t.kind≠7)(h8:t.kind≠8)(r:List Val):over (tv t::r)=false:=by
 rw[kv,NT h8,eo _ h,eo _ h,eo _ h];rfl
theorem Jo {k:Int}(h:k≠1)(t:Tok)(l r:List Val):over (.mk k t l::r)=false:=by
 rw[kv,Ni h,gl _ h,gl _ h,gl _ h];rfl
theorem fN {v:Val}(h:aI [58] v=false)(r:List Val):double (v::r)=false:=by
 cases r with
 | nil=>rfl
 | cons w r=>show (aI [58] v&&aI [58] w)=false;rw[h];rfl
theorem jt (v:Val){w:Val}(h:aI [58] w=false)(r:List Val):double (v::w::r)=false:=by
 show (aI [58] v&&aI [58] w)=false;rw[h,Bool.and_false]
theorem DV {x:Sim}(h:Gs x)(r:List Val):over (simV x++r)=false:=by
 cases h with
 | any=>rw[v1];exact og (by decide) (by decide) (by decide) _
 | tag n hn hl=>rw[v2];exact Iy (by simp) (by simp) _
 | id n hn hw=>rw[v3];exact Iy (by simp) (by simp) _
 | cls n hn=>rw[v4];exact og (by decide) (by decide) (by decide) _
 | has n hn=>rw[v5];exact Jo (by decide) _ _ _
 | is n v hn h1 h2=>rw[v6];exact Jo (by decide) _ _ _
 | state n hn=>rw[v7];exact og (by decide) (by decide) (by decide) _
 | nth a b ha hb=>rw[v8];exact og (by decide) (by decide) (by decide) _
 | root=>rw[v9];exact og (by decide) (by decide) (by decide) _
 | empty=>rw[v10];exact og (by decide) (by decide) (by decide) _
 | not x hx hk=>rw[v11];exact og (by decide) (by decide) (by decide) _
theorem HP {x:Sim}(h:Gs x)(r:List Val):double (simV x++r)=false:=by
 cases h with
 | any=>rw[v1];exact fN (by rw[bR];rfl) _
 | tag n hn hl=>rw[v2];exact fN (eo _ (by simp)) _
 | id n hn hw=>rw[v3];exact fN (eo _ (by simp)) _
 | cls n hn=>rw[v4];exact fN (by rw[bR];rfl) _
 | has n hn=>rw[v5];exact fN (gl _ (by decide) _ _) _
 | is n v hn h1 h2=>rw[v6];exact fN (gl _ (by decide) _ _) _
 | state n hn=>rw[v7];exact jt _ (eo _ (by simp)) _
 | nth a b ha hb=>rw[v8];exact jt _ (gl _ (by decide) _ _) _
 | root=>rw[v9];exact jt _ (eo _ (by simp)) _
 | empty=>rw[v10];exact jt _ (eo _ (by simp)) _
 | not x hx hk=>rw[v11];exact jt _ (gl _ (by decide) _ _) _
theorem Dv:Ne.size []=0:=by rw[Ne.size]
theorem np (k:Int)(t:Tok)(c l:List Val):Ne.size (.mk k t c::l)=Ne.size c+1+Ne.size l:=by rw[Ne.size,Ne.ro]
theorem EC:∀ a b:List Val,Ne.size (a++b)=Ne.size a+Ne.size b
 | [],b=>by rw[List.nil_append,Dv];omega
 | .mk k t c::a,b=>by rw[List.cons_append,np,np,EC a b];omega
theorem GV {x:Sim}(h:Gs x):simV x≠[]:=by
 cases h with
 | any=>rw[v1];simp
 | tag n hn hl=>rw[v2];simp
 | id n hn hw=>rw[v3];simp
 | cls n hn=>rw[v4];simp
 | has n hn=>rw[v5];simp
 | is n v hn h1 h2=>rw[v6];simp
 | state n hn=>rw[v7];simp
 | nth a b ha hb=>rw[v8];simp
 | root=>rw[v9];simp
 | empty=>rw[v10];simp
 | not x hx hk=>rw[v11];simp
theorem Nk {x:Sim}(h:Gs x):1≤Ne.size (simV x)∧(x.kind=11→2≤Ne.size (simV x)):=by
 have h1:1≤Ne.size (simV x):=by
  cases hl:simV x with
  | nil=>exact absurd hl (GV h)
  | cons v l=>obtain⟨k,t,c⟩:=v;rw[np];omega
 refine⟨h1,fun hk => ?_⟩
 cases h with
 | not x hx hk'=>rw[v11];unfold dv tv;rw[np,np,Dv];omega
 | _=>simp[Sim.kind] at hk
theorem zB:∀ (l:List Sim) (f:Nat) (first:Bool) (r:List Val),(∀ x∈l,Gs x)→(first=true∨GsT l)→(∀ x m,l=x::m→GsT m)→l.length<f→(over r||double r)=true→part f first (dq l++r)=some (l,r)
 | [],f+1,first,r,_,_,_,_,hr=>by
  rw[dq,List.nil_append,part,if_pos hr]
 | x::l,f+1,first,r,hg,hf,ht,hlen,hr=>by
  have hx:=hg x (by simp)
  have hT:GsT l:=ht x l rfl
  rw[dq,List.append_assoc,part,DV hx,HP hx,if_neg (by simp)]
  have hs:=Nk hx
  have hsz:Ne.size (simV x++(dq l++r))=Ne.size (simV x)+Ne.size (dq l++r):=EC _ _
  obtain⟨g,hgg⟩:∃ g,Ne.size (simV x++(dq l++r))=g+1:=⟨Ne.size (simV x++(dq l++r)) - 1,by omega⟩
  rw[hgg,Cf hx g first (dq l++r) (by
   rcases hf with h|h
   ·exact .inl h
   ·exact .inr (h x (by simp)).2) (by
   by_cases hk:x.kind=11
   ·right;have:=hs.2 hk;omega
   ·exact .inl hk)]
  simp only;rw[zB l f false r (fun y hy=>hg y (by simp[hy])) (.inr hT) (fun y m e=>fun z hz=>hT z (by rw[e];simp[hz])) (by simpa using hlen) hr]
  rfl
theorem tZ {l:List Sim}(h:Gp l)(f:Nat)(r:List Val)(hlen:l.length<f)(hr:(over r||double r)=true):part f true (dq l++r)=some (l,r):=by
 refine zB l f true r ?_ (.inl rfl) ?_ hlen hr
 ·cases l with
  | nil=>intro x hx;cases hx
  | cons y m =>
   intro x hx;rcases List.mem_cons.1 hx with rfl|hx
   ·exact h.1
   ·exact(h.2 x hx).1
 ·intro x m e;subst e;exact h.2
theorem kY:∀ {l:List Sim},(∀ x∈l,Gs x)→l.length≤(dq l).length
 | [],_=>Nat.zero_le _
 | x::l,h=>by
  have:=List.length_pos_iff.2 (GV (h x (by simp)))
  have:=kY (l:=l) fun y hy=>h y (by simp[hy])
  rw[dq,List.length_append,List.length_cons];omega
theorem tY {l:List Sim}(h:Gp l):∀ x∈l,Gs x:=by
 cases l with
 | nil=>intro x hx;cases hx
 | cons y m =>
  intro x hx;rcases List.mem_cons.1 hx with rfl|hx
  ·exact h.1
  ·exact(h.2 x hx).1
def kt:List Prt→List UInt8→List Val
 | [],s=>pseV s
 | p::ps,s=>dq p.l++(ps.flatMap prtV++pseV s)
theorem sX {n:Nat}{c:Int}{ps:List Prt}{s:List UInt8}(h:Gc n c ps s):∃ v m,kt ps s=v::m∧ar v=false∧aI [62] v=false∧aI [43] v=false∧aI [126] v=false:=by
 have key:∀ {l:List Sim} (r:List Val),Gp l→l≠[]→∃ v m,dq l++r=v::m∧ar v=false∧aI [62] v=false∧aI [43] v=false∧aI [126] v=false:=by
  intro l r hl hne;cases l with
  | nil=>exact absurd rfl hne
  | cons x l =>
   have ho:=DV hl.1 (dq l++r)
   rw[dq,List.append_assoc];cases hx:simV x with
   | nil=>exact absurd hx (GV hl.1)
   | cons v m =>
    rw[hx,List.cons_append,kv,Bool.or_eq_false_iff,Bool.or_eq_false_iff,Bool.or_eq_false_iff] at ho;exact⟨v,_,rfl,ho.1.1.1,ho.1.1.2,ho.1.2,ho.2⟩
 cases h with
 | last hl hne hlen=>exact key _ hl hne
 | @pse n c l s hl hlen hs =>
  cases l with
  | nil =>
   refine⟨dv 58,[dv 58,iv s],?_,rfl,by rw[bR];rfl,by rw[bR];rfl,by rw[bR];rfl⟩
   show dq []++([]++pseV s)=_
   unfold pseV;rw[dq,if_neg (tB hs)];rfl
  | cons x l=>exact key _ hl (by simp)
 | more hl hne hlen hd hr=>exact key _ hl hne
theorem iI {v:Val}(h:ar v=false)(m:List Val):(v::m).dropWhile ar=v::m:=by rw[List.dropWhile_cons,if_neg (by simp[h])]
theorem om {s:List UInt8}{v:Val}(h:aI s v=false)(m:List Val):sign s (v::m)=none:=by
 show (if aI s v=true then some m else none)=none
 rw[h];rfl
theorem JU {d:Int}(hd:1≤d∧d≤4){v:Val}{m:List Val}(h0:ar v=false)(h1:aI [62] v=false)(h2:aI [43] v=false)(h3:aI [126] v=false):comb (fG d++v::m)=(d,v::m):=by
 have:d=1∨d=2∨d=3∨d=4:=by omega
 unfold comb;rcases this with rfl|rfl|rfl|rfl
 ·have e:(fG 1++v::m).dropWhile ar=v::m:=by
   show (tv ⟨8,[10],0⟩::v::m).dropWhile ar=v::m
   rw[List.dropWhile_cons,if_pos (by rfl),iI h0]
  rw[e];simp only[om h1,om h2,om h3,iI h0]
 ·have e:(fG 2++v::m).dropWhile ar=dv 62::v::m:=iI (rv 62) _
  rw[e];simp[lz,iI h0]
 ·have e:(fG 3++v::m).dropWhile ar=dv 43::v::m:=iI (rv 43) _
  rw[e];simp[lz,iI h0]
 ·have e:(fG 4++v::m).dropWhile ar=dv 126::v::m:=iI (rv 126) _
  rw[e];simp[lz,iI h0]
theorem Mt {d:Int}(hd:1≤d∧d≤4)(z:List Val):over (fG d++z)=true∧double (fG d++z)=false∧fG d++z≠[]:=by
 have:d=1∨d=2∨d=3∨d=4:=by omega
 rcases this with rfl|rfl|rfl|rfl
 ·exact⟨rfl,fN (eo _ (by simp)) _,by simp[fG]⟩
 ·exact⟨by show over (dv 62::z)=true;rw[kv,bR];rfl,fN (by rw[bR];rfl) _,by simp[fG]⟩
 ·exact⟨by show over (dv 43::z)=true;rw[kv,bR,bR];rfl,fN (by rw[bR];rfl) _,by simp[fG]⟩
 ·exact⟨by show over (dv 126::z)=true;rw[kv,bR,bR,bR];rfl,fN (by rw[bR];rfl) _,by simp[fG]⟩
theorem Pq {n:Nat}{c:Int}{ps:List Prt}{s:List UInt8}(h:Gc n c ps s):cpx n c (kt ps s)=some ⟨ps,s⟩:=by
 induction h with
 | @last n c l hl hne hlen =>
  have e:kt [⟨c,l⟩] []=dq l++[]:=rfl
  have hp:=tZ hl ((dq l++[]).length+1) [] (by have:=kY (tY hl);rw[List.append_nil];omega) rfl
  rw[cpx,e,hp];simp only;have hd:double []=false:=rfl
  rw[hd,if_neg (by simp),if_neg (by intro h;rcases h with h|h;omega;exact hne h),List.isEmpty_nil,if_pos rfl]
 | @pse n c l s hl hlen hs =>
  have e:kt [⟨c,l⟩] s=dq l++pseV s:=rfl
  have ep:pseV s=[dv 58,dv 58,iv s]:=by unfold pseV;rw[if_neg (tB hs)]
  have hd:double (pseV s)=true:=by rw[ep];show (aI [58] (dv 58)&&aI [58] (dv 58))=true;rw[bR];rfl
  have hp:=tZ hl ((dq l++pseV s).length+1) (pseV s) (by have:=kY (tY hl);rw[List.length_append];omega) (by rw[hd,Bool.or_true])
  rw[cpx,e,hp];simp only;rw[hd,if_pos rfl,ep];have en:name ([dv 58,dv 58,iv s].drop 2)=some (s,[]):=AK s []
  rw[en];simp only;rw[if_pos ⟨hs,hlen⟩]
 | @more n c d l ps s hl hne hlen hd hr ih =>
  obtain⟨v,m,ht,h0,h1,h2,h3⟩:=sX hr;have e:kt (⟨c,l⟩::ps) s=dq l++(fG d++kt ps s):=by
   cases hr with
   | last h1 h2 h3=>simp[kt,prtV]
   | pse h1 h2 h3=>simp[kt,prtV]
   | more h1 h2 h3 h4 h5=>simp[kt,prtV,List.flatMap_cons]
  obtain⟨o1,o2,o3⟩:=Mt hd (kt ps s);have hp:=tZ hl ((dq l++(fG d++kt ps s)).length+1) (fG d++kt ps s) (by have:=kY (tY hl);rw[List.length_append];omega) (by rw[o1];rfl)
  rw[cpx,e,hp];simp only;rw[o2,if_neg (by simp),if_neg (by intro h;rcases h with h|h;omega;exact hne h),if_neg (by simpa using o3)]
  have hc:comb (fG d++kt ps s)=(d,kt ps s):=by rw[ht];exact JU hd h0 h1 h2 h3
  rw[hc];simp only;rw[ih];rfl
theorem tq {c:Cpx}(h:ke c):cpxV c=kt c.parts c.pseudo:=by
 obtain⟨ps,s⟩:=c;have h':Gc 16 0 ps s:=h
 have hc:fG 0=[]:=rfl
 cases h' with
 | last h1 h2 h3=>simp[cpxV,kt,prtV,hc]
 | pse h1 h2 h3=>simp[cpxV,kt,prtV,hc]
 | more h1 h2 h3 h4 h5=>simp[cpxV,kt,prtV,hc,List.flatMap_cons]
end Sl
end Go.Abs
namespace Go.Abs
namespace Sl
open Tk (cT sep within digit begins at0 all)
theorem Pb {s:List UInt8}:∀ {p:List Val},(∀ v∈p,aI s v=false)→at_ s p=[p]
 | [],_=>rfl
 | v::p,h=>by
  rw[at_,if_neg (by simp[h v (by simp)]),Pb (p:=p) fun w hw=>h w (by simp[hw])]
theorem Jz {s:List UInt8}{x:Val}(hx:aI s x=true)(q:List Val):∀ {p:List Val},(∀ v∈p,aI s v=false)→at_ s (p++x::q)=p::at_ s q
 | [],_=>by rw[List.nil_append,at_,if_pos hx]
 | v::p,h=>by
  rw[List.cons_append,at_,if_neg (by simp[h v (by simp)]),Jz hx q (p:=p) fun w hw=>h w (by simp[hw])]
theorem JJ {x:Sim}(h:Gs x):∀ v∈simV x,aI [44] v=false:=by
  intro v hv;cases h with
  | any =>
           rw[v1] at hv;obtain rfl:v=dv 42:=by simpa using hv
           rw[bR];rfl
  | tag n hn hl =>
                   rw[v2] at hv;obtain rfl:v=iv n:=by simpa using hv
                   exact eo _ (by simp)
  | id n hn hw =>
                  rw[v3] at hv;obtain rfl:v=tv ⟨4,n,0⟩:=by simpa using hv
                  exact eo _ (by simp)
  | cls n hn=>rw[v4] at hv;simp only[List.mem_cons,List.not_mem_nil,or_false] at hv;rcases hv with rfl|rfl;rw[bR];rfl;exact eo _ (by simp)
  | has n hn=>rw[v5] at hv;simp only[List.mem_cons,List.not_mem_nil,or_false] at hv;subst hv;exact gl _ (by decide) _ _
  | is n w hn h1 h2=>rw[v6] at hv;simp only[List.mem_cons,List.not_mem_nil,or_false] at hv;subst hv;exact gl _ (by decide) _ _
  | state n hn=>rw[v7] at hv;simp only[List.mem_cons,List.not_mem_nil,or_false] at hv;rcases hv with rfl|rfl;rw[bR];rfl;exact eo _ (by simp)
  | nth a b ha hb=>rw[v8] at hv;simp only[List.mem_cons,List.not_mem_nil,or_false] at hv;rcases hv with rfl|rfl;rw[bR];rfl;exact gl _ (by decide) _ _
  | root=>rw[v9] at hv;simp only[List.mem_cons,List.not_mem_nil,or_false] at hv;rcases hv with rfl|rfl;rw[bR];rfl;exact eo _ (by simp)
  | empty=>rw[v10] at hv;simp only[List.mem_cons,List.not_mem_nil,or_false] at hv;rcases hv with rfl|rfl;rw[bR];rfl;exact eo _ (by simp)
  | not x hx hk=>rw[v11] at hv;simp only[List.mem_cons,List.not_mem_nil,or_false] at hv;rcases hv with rfl|rfl;rw[bR];rfl;exact gl _ (by decide) _ _
theorem sV {Q:Val→Prop}(hq:∀ x,Gs x→∀ v∈simV x,Q v):∀ {l:List Sim},(∀ x∈l,Gs x)→∀ v∈dq l,Q v
 | [],_=>by rw[dq];intro v hv;cases hv
 | x::l,h=>by
  rw[dq];intro v hv;rcases List.mem_append.1 hv with hv|hv
  ·exact hq x (h x (by simp)) v hv
  ·exact sV hq (l:=l) (fun y hy=>h y (by simp[hy])) v hv
theorem DZ {n:Nat}{c:Int}{ps:List Prt}{s:List UInt8}(h:Gc n c ps s):(∀ p∈ps,Gp p.l∧(p.comb=c∨1≤p.comb∧p.comb≤4))∧(s=[]∨s=eH∨s=fJ):=by
 induction h with
 | last hl hne hlen=>exact⟨fun p hp=>by obtain rfl:=List.mem_singleton.1 hp;exact⟨hl,.inl rfl⟩,.inl rfl⟩
 | pse hl hlen hs=>exact⟨fun p hp=>by obtain rfl:=List.mem_singleton.1 hp;exact⟨hl,.inl rfl⟩,.inr hs⟩
 | @more n c d l ps s hl hne hlen hd hr ih =>
  refine⟨fun p hp => ?_,ih.2⟩
  rcases List.mem_cons.1 hp with rfl|hp
  ·exact⟨hl,.inl rfl⟩
  ·have:=ih.1 p hp
   exact⟨this.1,this.2.elim (fun e=>.inr (by omega)) .inr⟩
theorem HG {c:Int}(h:0≤c∧c≤4):∀ v∈fG c,aI [44] v=false:=by
 have:c=0∨c=1∨c=2∨c=3∨c=4:=by omega
 intro v hv;rcases this with rfl|rfl|rfl|rfl|rfl
 ·cases hv
 ·obtain rfl:v=tv ⟨8,[10],0⟩:=by simpa[fG] using hv
  exact eo _ (by simp)
 ·obtain rfl:v=dv 62:=by simpa[fG] using hv
  rw[bR];rfl
 ·obtain rfl:v=dv 43:=by simpa[fG] using hv
  rw[bR];rfl
 ·obtain rfl:v=dv 126:=by simpa[fG] using hv
  rw[bR];rfl
theorem yJ {c:Cpx}(h:ke c):∀ v∈cpxV c,aI [44] v=false:=by
 obtain⟨h1,h2⟩:=DZ h;intro v hv;unfold cpxV at hv;rcases List.mem_append.1 hv with hv|hv
 ·obtain⟨p,hp,hv⟩:=List.mem_flatMap.1 hv;unfold prtV at hv;rcases List.mem_append.1 hv with hv|hv
  ·exact HG (by have:=(h1 p hp).2;omega) v hv
  ·exact sV (fun x hx=>JJ hx) (tY (h1 p hp).1) v hv
 ·unfold pseV at hv;split at hv
  ·cases hv
  ·simp only[List.mem_cons,List.not_mem_nil,or_false] at hv;rcases hv with rfl|rfl|rfl
   ·rw[bR];rfl
   ·rw[bR];rfl
   ·exact eo _ (by simp)
theorem MO {l:List Sim}(h:∀ x∈l,Gs x)(hne:l≠[]):∃ m w,dq l=m++[w]∧ar w=false:=by
 have hn:dq l≠[]:=fun e=>by
  have:=kY h
  rw[e] at this
  exact hne (List.eq_nil_of_length_eq_zero (by simpa using this))
 rcases List.eq_nil_or_concat (dq l) with e|⟨m,w,e⟩
 ·exact absurd e hn
 ·exact⟨m,w,by simpa using e,sV (fun x hx=>zQ hx) h w (by rw[e];simp)⟩
theorem zN {n:Nat}{c:Int}{ps:List Prt}{s:List UInt8}(h:Gc n c ps s):∃ m w,ps.flatMap prtV++pseV s=m++[w]∧ar w=false:=by
 induction h with
 | @last n c l hl hne hlen =>
  obtain⟨m,w,e,hw⟩:=MO (tY hl) hne;exact⟨fG c++m,w,by simp[prtV,pseV,e],hw⟩
 | @pse n c l s hl hlen hs =>
  exact⟨fG c++dq l++[dv 58,dv 58],iv s,by unfold pseV;rw[if_neg (tB hs)];simp[prtV],rfl⟩
 | @more n c d l ps s hl hne hlen hd hr ih =>
  obtain⟨m,w,e,hw⟩:=ih;exact⟨prtV ⟨c,l⟩++m,w,by rw[List.flatMap_cons,List.append_assoc,e,List.append_assoc],hw⟩
theorem Qm {c:Cpx}(h:ke c):trim (cpxV c)=cpxV c:=by
 obtain⟨v,m,e1,hv,_⟩:=sX h;obtain⟨m',w,e2,hw⟩:=zN h;exact tU (by rw[tq h,e1]) e2 hv hw
theorem Ph {c:Cpx}(h:ke c):cpx 16 0 (trim (cpxV c))=some c:=by
 rw[Qm h,tq h];exact Pq h
theorem TN {c:Cpx}{l:List Cpx}(hc:ke c)(hl:∀ c∈l,ke c):at_ [44] (cpxV c++ia l)=(c::l).map cpxV:=by
 induction l generalizing c with
 | nil =>
  have:ia []=[]:=rfl
  rw[this,List.append_nil,Pb (yJ hc)];rfl
 | cons d l ih =>
  have e:ia (d::l)=dv 44::(cpxV d++ia l):=by simp[ia,List.flatMap_cons]
  rw[e,Jz (by rw[bR];rfl) _ (yJ hc),ih (hl d (by simp)) (fun x hx=>hl x (by simp[hx]))];rfl
theorem ES:∀ {l:List Cpx},(∀ c∈l,ke c)→all_ (l.map cpxV)=some l
 | [],_=>rfl
 | c::l,h=>by
  rw[List.map_cons,all_,Ph (h c (by simp)),ES (l:=l) fun x hx=>h x (by simp[hx])]
theorem zo (k:Int):∀ {l:List Sim},(∀ x∈l,Gs x)→Ne.good k (dq l)=true∧Ne.depth (dq l)≤2
 | [],_=>by rw[dq];exact⟨cR k,by rw[dm];omega⟩
 | x::l,h=>by
  obtain⟨a1,a2,_⟩:=Qu (h x (by simp)) k
  obtain⟨b1,b2⟩:=zo k (l:=l) fun y hy=>h y (by simp[hy])
  rw[dq,lW,Ne.lI,a1,b1];exact⟨rfl,by omega⟩
theorem KK (k c:Int):Ne.good k (fG c)=true∧Ne.depth (fG c)=0:=by
 unfold fG;split
 ·rw[bA,cR,ij (by simp) (by simp)];simp[dF,dm,nr]
 ·split
  ·rw[bA,cR,iC k (by simp)];simp[dF,dm,gy]
  ·split
   ·rw[bA,cR,iC k (by simp)];simp[dF,dm,gy]
   ·split
    ·rw[bA,cR,iC k (by simp)];simp[dF,dm,gy]
    ·exact⟨cR k,dm⟩
theorem Oi (k:Int)(s:List UInt8):Ne.good k (pseV s)=true∧Ne.depth (pseV s)=0:=by
 unfold pseV;split
 ·exact⟨cR k,dm⟩
 ·rw[bA,bA,bA,cR,iC k (by simp),mJ];simp[dF,dm,gy,kS]
theorem xB (k:Int):∀ {ps:List Prt},(∀ p∈ps,Gp p.l)→Ne.good k (ps.flatMap prtV)=true∧Ne.depth (ps.flatMap prtV)≤2
 | [],_=>⟨cR k,by rw[List.flatMap_nil,dm];omega⟩
 | p::ps,h=>by
  obtain⟨a1,a2⟩:=zo k (tY (h p (by simp)))
  obtain⟨b1,b2⟩:=KK k p.comb;obtain⟨c1,c2⟩:=xB k (ps:=ps) fun y hy=>h y (by simp[hy])
  rw[List.flatMap_cons,lW,Ne.lI];unfold prtV at c1 c2 ⊢
  rw[lW,Ne.lI,a1,b1,c1];exact⟨rfl,by omega⟩
theorem Dr {c:Cpx}(h:ke c):Ne.good 0 (cpxV c)=true∧Ne.depth (cpxV c)≤2:=by
 obtain⟨a1,a2⟩:=xB 0 (fun p hp=>((DZ h).1 p hp).1)
 obtain⟨b1,b2⟩:=Oi 0 c.pseudo;unfold cpxV;rw[lW,Ne.lI,a1,b1];exact⟨rfl,by omega⟩
theorem zP:∀ {l:List Cpx},(∀ c∈l,ke c)→Ne.good 0 (ia l)=true∧Ne.depth (ia l)≤2
 | [],_=>⟨cR 0,by show Ne.depth []≤2;rw[dm];omega⟩
 | c::l,h=>by
  obtain⟨a1,a2⟩:=Dr (h c (by simp))
  obtain⟨b1,b2⟩:=zP (l:=l) fun y hy=>h y (by simp[hy])
  have e:ia (c::l)=dv 44::(cpxV c++ia l):=by simp[ia,List.flatMap_cons]
  rw[e,bA,iC 0 (by simp),lW,dF,gy,Ne.lI,a1,b1]
  exact⟨rfl,by omega⟩
def we:List Cpx→List UInt8
 | []=>[]
 | c::l=>cpxS c++oM l
theorem tE {l:List Cpx}(h:Fc l):read (we l)=some l:=by
 obtain⟨hne,hlen,hg⟩:=h;cases l with
 | nil=>exact absurd rfl hne
 | cons c l =>
  have hc:=hg c (by simp)
  have hl:∀ d∈l,ke d:=fun d hd=>hg d (by simp[hd])
  obtain⟨a1,a2⟩:=Dr hc;obtain⟨b1,b2⟩:=zP hl;have hgood:Ne.good 0 (cpxV c++ia l)=true:=by rw[lW,a1,b1];rfl
  have hdep:Ne.depth (cpxV c++ia l)≤60:=by rw[Ne.lI];omega
  have hp:=Ne.Ha hgood 60
  rw[if_pos hdep] at hp;have hta:trim (cpxV c++ia l)=cpxV c++ia l:=by
   obtain⟨v,m,e1,hv,_⟩:=sX hc;have h1:cpxV c++ia l=v::(m++ia l):=by rw[tq hc,e1];rfl
   have key:∀ (l:List Cpx),(∀ d∈l,ke d)→∀ d,ke d→∃ m w,cpxV d++ia l=m++[w]∧ar w=false:=by
    intro l
    induction l with
    | nil =>
     intro _ d hd;obtain⟨m',w,e2,hw⟩:=zN hd;refine⟨m',w,?_,hw⟩
     have:ia []=[]:=rfl
     rw[this,List.append_nil];exact e2
    | cons x l ih =>
     intro hl d _;obtain⟨m',w,e2,hw⟩:=ih (fun y hy=>hl y (by simp[hy])) x (hl x (by simp))
     have e:ia (x::l)=dv 44::(cpxV x++ia l):=by simp[ia,List.flatMap_cons]
     exact⟨cpxV d++dv 44::m',w,by rw[e,e2];simp,hw⟩
   obtain⟨m',w,e2,hw⟩:=key l hl c hc;exact tU h1 e2 hv hw
  unfold read we;rw[KU hc hl,hp];simp only[Option.bind_some];rw[hta];unfold parse;rw[TN hc hl,List.length_map,if_pos hlen];exact ES hg
end Sl
end Go.Abs
namespace Go.Abs
namespace Sl
open Tk (cT sep within digit begins at0 all)
theorem oT:∀ {l:List Val}{t:Tok},t∈Ne.flat l↔∃ v∈l,t∈Ne.jv v
 | [],t=>by rw[dl];simp
 | v::l,t=>by
  rw[bW,List.mem_append,oT (l:=l)];simp
theorem PY {t:Tok}(h:Tk.Good t)(hk:t.kind=1):cT t.text:=by
 cases h<;>first|assumption|(simp at hk)
theorem Mf {t:Tok}(h:Tk.Good t)(hk:t.kind=4):t.text≠[]∧∀ b∈t.text,within b=true:=by
 cases h<;>first|exact⟨by assumption,by assumption⟩|(simp at hk)
theorem wz {k:Int}{l:List Val}{t:Tok}(h:tokK k l=some t):∃ c m,l=.mk 1 t c::m∧t.kind=k:=by
 cases l with
 | nil=>cases h
 | cons v m =>
  obtain⟨k',u,c⟩:=v;have h':(if k'=1∧u.kind=k then some u else none)=some t:=h
  split at h'
  ·rename_i hc;cases h';obtain⟨rfl,hk⟩:=hc;exact⟨c,m,rfl,hk⟩
  ·cases h'
theorem qi {s:List UInt8}{l r:List Val}(h:sign s l=some r):∃ v,l=v::r∧aI s v=true:=by
 cases l with
 | nil=>cases h
 | cons v m =>
  have h':(if aI s v=true then some m else none)=some r:=h
  split at h'
  ·rename_i hc;cases h';exact⟨v,rfl,hc⟩
  ·cases h'
theorem th {l r:List Val}{s:List UInt8}(h:name l=some (s,r)):∃ t c,l=.mk 1 t c::r∧t.kind=1∧s=t.text:=by
 unfold name at h;rw[Option.map_eq_some_iff] at h;obtain⟨t,ht,e⟩:=h;obtain⟨c,m,rfl,hk⟩:=wz ht;cases e;exact⟨t,c,rfl,hk,rfl⟩
theorem nP {k:Int}{l c r:List Val}{t:Tok}(h:eM k l=some ((t,c),r)):l=.mk k t c::r:=by
 cases l with
 | nil=>cases h
 | cons v m =>
  obtain⟨k',u,c'⟩:=v;have h':(if k'=k then some ((u,c'),m) else none)=some ((t,c),r):=h
  split at h'
  ·rename_i hc;cases h';subst hc;rfl
  ·cases h'
theorem Pw {l:List Val}{v:Val}(h:v∈trim l):v∈l:=by
 unfold trim at h;have h1:=List.mem_reverse.1 h
 have h2:=(List.dropWhile_sublist _).subset h1
 exact(List.dropWhile_sublist _).subset (List.mem_reverse.1 h2)
theorem OG (s:List UInt8):∀ (l:List Val), ∀ p∈at_ s l, ∀ v∈p,v∈l
 | [],p,hp,v,hv=>by
  obtain rfl:p=[]:=by simpa[at_] using hp
  cases hv
 | w::l,p,hp,v,hv=>by
  have ih:=OG s l
  rw[at_] at hp;split at hp
  ·rcases List.mem_cons.1 hp with rfl|hp
   ·cases hv
   ·simp[ih p hp v hv]
  ·split at hp
   ·obtain rfl:p=[w]:=by simpa using hp
    simpa using Or.inl (List.mem_singleton.1 hv)
   ·rename_i q qs e;rcases List.mem_cons.1 hp with rfl|hp
    ·rcases List.mem_cons.1 hv with rfl|hv
     ·simp
     ·simp[ih q (by rw[e];simp) v hv]
    ·simp[ih p (by rw[e];simp[hp]) v hv]
end Sl
end Go.Abs
namespace Go.Abs
namespace Sl
def gq (s:List UInt8)(l:List Val):Bool:=l.any (aI s)
def Fr (l:List Val):Prop:=∀ v r,l=v::r→ar v=false
theorem Fr.drop {l:List Val}(h:Fr l):l.dropWhile ar=l:=by
 cases l with
 | nil=>rfl
 | cons v r=>rw[List.dropWhile_cons,if_neg (by rw[h v r rfl];simp)]
theorem CJ (l:List Val):Fr (trim l).reverse:=fun v r h=>by
 have:=congrArg List.reverse h
 rw[List.reverse_reverse,List.reverse_cons] at this
 exact LU this
theorem Fr.pre {l a b:List Val}(h:Fr l)(e:l=a++b):Fr a:=fun v r h2=>by
 subst h2;exact h v (r++b) (by rw[e];rfl)
theorem Sk (l:List Val):Fr (l.dropWhile ar):=fun v r h=>tX l v r h
theorem rj (s:List UInt8):∀ l:List Val, ∀ q∈at_ s l,(∀ v∈q,v∈l)∧gq s q=false
 | [],q,hq=>by
  rw[at_,List.mem_singleton] at hq;subst hq;exact⟨fun v hv=>hv,rfl⟩
 | x::l,q,hq=>by
  rw[at_] at hq;split at hq
  ·rcases List.mem_cons.1 hq with rfl|hq
   ·exact⟨(fun v hv=>by cases hv),rfl⟩
   ·obtain⟨h1,h2⟩:=rj s l q hq;exact⟨fun v hv=>by simp[h1 v hv],h2⟩
  ·rename_i hx;split at hq
   ·rename_i e;rw[List.mem_singleton] at hq;subst hq;exact⟨fun v hv=>by rw[List.mem_singleton] at hv;simp[hv],by simp[gq,hx]⟩
   ·rename_i p ps e;rcases List.mem_cons.1 hq with rfl|hq
    ·obtain⟨h1,h2⟩:=rj s l p (by rw[e];simp)
     refine⟨fun v hv => ?_,?_⟩
     ·rcases List.mem_cons.1 hv with rfl|hv
      ·simp
      ·simp[h1 v hv]
     ·unfold gq at h2 ⊢;rw[List.any_cons,h2]
      simpa using hx
    ·obtain⟨h1,h2⟩:=rj s l q (by rw[e];simp[hq])
     exact⟨fun v hv=>by simp[h1 v hv],h2⟩
end Sl
end Go.Abs
namespace Go.Abs
namespace Sl
theorem all_nil:all_ []=some []:=by rw[all_]
theorem all_cons (p:List Val)(ps:List (List Val)):all_ (p::ps)=match cpx 16 0 (trim p),all_ ps with
  | some c,some cs=>some (c::cs)
  | _,_=>none:=by
 rw[all_]
 all_goals (cases cpx 16 0 (trim p)<;>cases all_ ps<;>rfl)
end Sl
end Go.Abs
namespace Go.Abs
namespace Sl
open Tk (cT sep within digit begins at0 all)
theorem mE {v:Val}:∀ {l:List Val},v∈l→ar v=true∨v∈l.dropWhile ar
 | x::l,h=>by
  rw[List.dropWhile_cons];split
  ·rename_i hx;rcases List.mem_cons.1 h with rfl|h
   ·exact .inl hx
   ·exact mE h
  ·exact .inr h
theorem Fd {v:Val}{l:List Val}(h:v∈l):ar v=true∨v∈trim l:=by
 unfold trim;rcases mE h with h|h
 ·exact .inl h
 ·rcases mE (List.mem_reverse.2 h) with h|h
  ·exact .inl h
  ·exact .inr (List.mem_reverse.2 h)
theorem jc {v:Val}{t:Tok}{c:List Val}(h:v=.mk 1 t c):Ne.fH v=0:=by
 subst h;rw[Ne.fH];rfl
theorem uf {v:Val}(h:ar v=true):Ne.fH v=0:=by
 obtain⟨k,t,c⟩:=v;have:(k==1&&t.kind==8)=true:=h
 simp only[Bool.and_eq_true,beq_iff_eq] at this
 obtain⟨rfl,_⟩:=this;exact jc rfl
theorem qo {l:List Val}{n:Nat}(h:Ne.depth (trim l)≤n):Ne.depth l≤n:=by
 rw[mb] at h ⊢;intro v hv;rcases Fd hv with h1|h1
 ·rw[uf h1];omega
 ·exact h v h1
theorem LY (k:Int)(t:Tok)(c:List Val):Ne.fH (.mk k t c)≤1+Ne.depth c:=by
 rw[Ne.fH];split
 ·omega
 ·omega
def Sv (n:Nat)(v:Val):Prop:=Ne.fH v≤n∧∀ t m,v=.mk 1 t m→Ne.cY 5 t=false
theorem BV {n:Nat}{t:Tok}{c:List Val}(h:t.kind≠7):Sv n (.mk 1 t c):=by
 refine⟨by rw[jc rfl];omega,fun u m e => ?_⟩
 cases e
 unfold Ne.cY;rw[Bool.and_eq_false_iff]
 right
 exact decide_eq_false fun e=>h (by rw[e];rfl)
theorem sh {n:Nat}{v:Val}{s:List UInt8}(h:aI s v=true)(hs:s≠[41]):Sv n v:=by
 obtain⟨k,t,c⟩:=v;have:(k==1&&decide (t=⟨7,s,0⟩))=true:=h
 simp only[Bool.and_eq_true,beq_iff_eq,decide_eq_true_eq] at this
 obtain⟨rfl,rfl⟩:=this;refine⟨by rw[jc rfl];omega,fun u m e => ?_⟩
 cases e
 unfold Ne.cY;rw[Bool.and_eq_false_iff]
 right
 exact decide_eq_false fun e=>hs (congrArg Tok.text e)
theorem wL {n:Nat}{k:Int}{t:Tok}{c:List Val}(hk:k≠1)(h:Ne.depth c≤n):Sv (n+1) (.mk k t c):=by
 refine⟨by have:=LY k t c;omega,fun u m e => ?_⟩
 cases e
 exact absurd rfl hk
theorem xu {k:Int}{l:List Val}{t:Tok}(h:tokK k l=some t):∃ c r,l=.mk 1 t c::r∧t.kind=k:=by
 cases l with
 | nil=>cases h
 | cons v r =>
  obtain⟨k',t',c⟩:=v;have h':(if k'=1∧t'.kind=k then some t' else none)=some t:=h
  split at h'
  ·rename_i hc;cases h';obtain⟨rfl,h2⟩:=hc;exact⟨c,r,rfl,h2⟩
  ·cases h'
theorem gK {s:List UInt8}{l r:List Val}(h:sign s l=some r):∃ v,l=v::r∧aI s v=true:=by
 cases l with
 | nil=>cases h
 | cons v m =>
  have h':(if aI s v then some m else none)=some r:=h
  split at h'
  ·rename_i hv;cases h';exact⟨v,rfl,hv⟩
  ·cases h'
theorem yH {k:Int}{l r c:List Val}{t:Tok}(h:eM k l=some ((t,c),r)):l=.mk k t c::r:=by
 cases l with
 | nil=>cases h
 | cons v m =>
  obtain⟨k',t',c'⟩:=v;have h':(if k'=k then some ((t',c'),m) else none)=some ((t,c),r):=h
  split at h'
  ·rename_i hk;cases h';rw[hk]
  ·cases h'
theorem xF {l r:List Val}{s:List UInt8}(h:name l=some (s,r)):∃ t c,l=.mk 1 t c::r∧t.kind=1:=by
 unfold name at h;rw[Option.map_eq_some_iff] at h;obtain⟨t,ht,e⟩:=h;obtain⟨c,m,rfl,hk⟩:=xu ht;cases e;exact⟨t,c,rfl,hk⟩
theorem Hf {c:List Val}{x:Int×Int}(h:nthM c=some x):Ne.depth c≤0:=by
 refine qo ?_
 unfold nthM at h;split at h
 case h_2=>cases h
 rename_i y hy;unfold nth at hy;rw[mb];split at hy
 ·rename_i k t c' e;split at hy
  ·rename_i hk;subst hk;intro v hv;rw[e,List.mem_singleton] at hv;rw[jc hv];omega
  ·cases hy
 ·rename_i k t c' s k' u c'' e;split at hy
  ·rename_i hc;obtain⟨rfl,_,_,hs,rfl,_⟩:=hc;intro v hv;rw[e] at hv;simp only[List.mem_cons,List.not_mem_nil,or_false] at hv;rcases hv with hv|rfl|hv
   ·rw[jc hv];omega
   ·exact(sh (n:=0) hs (by decide)).1
   ·rw[jc hv];omega
  ·cases hy
 ·cases hy
theorem Eo {c:List Val}{x:Sim}(h:attr c=some x):Ne.depth c≤0:=by
 have key:∀ v∈c.filter (fun v => !ar v),Ne.fH v≤0:=by
  unfold attr at h;split at h
  ·rename_i k t c' e;split at h
   ·rename_i hk;obtain⟨rfl,_⟩:=hk;intro v hv;rw[e,List.mem_singleton] at hv;rw[jc hv];omega
   ·cases h
  ·rename_i k t c' s k' u c'' e;split at h
   ·rename_i hc;obtain⟨rfl,_,hs,rfl,_⟩:=hc;intro v hv;rw[e] at hv;simp only[List.mem_cons,List.not_mem_nil,or_false] at hv;rcases hv with hv|rfl|hv
    ·rw[jc hv];omega
    ·exact(sh (n:=0) hs (by decide)).1
    ·rw[jc hv];omega
   ·cases h
  ·cases h
 rw[mb];intro v hv;cases hb:ar v with
 | true=>rw[uf hb];omega
 | false=>exact key v (List.mem_filter.2 ⟨hv,by rw[hb];rfl⟩)
theorem VF {n m:Nat}(h:n≤m){v:Val}(hv:Sv n v):Sv m v:=⟨Nat.le_trans hv.1 h,hv.2⟩
theorem qg:∀ (f:Nat) (first:Bool) (l:List Val) (x:Sim) (r:List Val),simple f first l=some (x,r)→∃ p,l=p++r∧(∀ v∈p,Sv 2 v)∧(x.kind≠11→∀ v∈p,Sv 1 v)
 | 0,_,_,_,_,h=>by rw[simple] at h;cases h
 | f+1,first,l,x,r,h=>by
  rw[simple] at h;have two:∀ {p:List Val},l=p++r→(∀ v∈p,Sv 1 v)→∃ p,l=p++r∧(∀ v∈p,Sv 2 v)∧(x.kind≠11→∀ v∈p,Sv 1 v):=fun {p} e hp=>⟨p,e,fun v hv=>VF (by decide) (hp v hv),fun _=>hp⟩
  split at h
  ·rename_i t ht;cases h;have ht':tokK 1 l=some t:=by
    split at ht
    ·exact ht
    ·cases ht
   obtain⟨c,m,rfl,hk⟩:=xu ht';exact two (p:=[.mk 1 t c]) rfl fun v hv=>by
    rw[List.mem_singleton] at hv;subst hv;exact BV (by omega)
  split at h
  ·rename_i m hm;cases h;have hm':sign [42] l=some r:=by
    split at hm
    ·exact hm
    ·cases hm
   obtain⟨v,rfl,hv⟩:=gK hm';exact two (p:=[v]) rfl fun w hw=>by
    rw[List.mem_singleton] at hw;subst hw;exact sh hv (by decide)
  split at h
  ·rename_i t ht;cases h;obtain⟨c,m,rfl,hk⟩:=xu ht;exact two (p:=[.mk 1 t c]) rfl fun v hv=>by
    rw[List.mem_singleton] at hv;subst hv;exact BV (by omega)
  split at h
  ·rename_i m hm;obtain⟨v,rfl,hv⟩:=gK hm;rw[Option.map_eq_some_iff] at h;obtain⟨⟨s,r'⟩,hn,e⟩:=h;cases e;obtain⟨t,c,rfl,hk⟩:=xF hn;exact two (p:=[v,.mk 1 t c]) rfl fun w hw=>by
    simp only[List.mem_cons,List.not_mem_nil,or_false] at hw;rcases hw with rfl|rfl
    ·exact sh hv (by decide)
    ·exact BV (by omega)
  split at h
  ·rename_i m hm;obtain⟨v,rfl,hv⟩:=gK hm;have hvs:∀ n,Sv n v:=fun n=>sh hv (by decide)
   unfold colon at h;split at h
   ·rename_i t c r' hval;obtain rfl:=yH hval;split at h
    ·rw[Option.map_eq_some_iff] at h;obtain⟨y,hy,e⟩:=h;cases e;have hd:=Hf hy
     exact two (p:=[v,.mk 5 t c]) rfl fun w hw=>by
      simp only[List.mem_cons,List.not_mem_nil,or_false] at hw;rcases hw with rfl|rfl
      ·exact hvs 1
      ·exact wL (by decide) hd
    ·split at h
     ·split at h
      ·rename_i y hy;split at h
       ·cases h
       ·rename_i hk;cases h;obtain⟨p,e,_,h1⟩:=qg f true (trim c) y [] hy;rw[List.append_nil] at e
        have hd:Ne.depth c≤1:=qo (by
         rw[mb,e];exact fun w hw=>(h1 hk w hw).1)
        refine⟨[v,.mk 5 t c],rfl,fun w hw => ?_,fun hx=>absurd rfl hx⟩
        simp only[List.mem_cons,List.not_mem_nil,or_false] at hw;rcases hw with rfl|rfl
        ·exact hvs 2
        ·exact wL (by decide) hd
      ·cases h
     ·cases h
   ·split at h
    ·rename_i s r' hn;rw[Option.map_eq_some_iff] at h;obtain⟨y,hy,e⟩:=h;cases e;obtain⟨t,c,rfl,hk⟩:=xF hn;exact two (p:=[v,.mk 1 t c]) rfl fun w hw=>by
      simp only[List.mem_cons,List.not_mem_nil,or_false] at hw;rcases hw with rfl|rfl
      ·exact hvs 1
      ·exact BV (by omega)
    ·cases h
  split at h
  ·rename_i y hy;obtain⟨⟨t,c⟩,r'⟩:=y;obtain rfl:=yH hy;rw[Option.map_eq_some_iff] at h;obtain⟨z,hz,e⟩:=h;cases e;have hd:=Eo hz
   exact two (p:=[.mk 3 t c]) rfl fun w hw=>by
    rw[List.mem_singleton] at hw;subst hw;exact wL (by decide) hd
  ·cases h
end Sl
end Go.Abs
namespace Go.Abs
namespace Sl
def numP (l:List Val):Option (Int×List Val):=match tokK 5 l with
 | some t=>if t.text=[] then some (t.n,l.tail) else none
 | none=>none
def mU (s:List UInt8):Option (Int×Int):=if s=[111,100,100] then some (2,1) else if s=[101,118,101,110] then some (2,0) else if s=[110] then some (1,0) else none
def Ak (s:List UInt8):Option Int:=if s.take 2=[110,45]∧0≤digits (s.drop 2) then some (-digits (s.drop 2)) else none
def nthP (l:List Val):Option ((Int×Int)×List Val) :=
  match tokK 1 l with
  | some t=>(mU t.text).map fun x=>(x,l.tail)
  | none =>
  match tokK 5 l with
  | none=>none
  | some t =>
    if t.text=[] then some ((0,t.n),l.tail)
    else if t.text=[110] then
      (match sign [43] l.tail with
       | some r=>(match numP r with
         | some (b,m)=>if 0≤b then some ((t.n,b),m) else none
         | none=>none)
       | none=>some ((t.n,0),l.tail))
    else(Ak t.text).map fun b=>((t.n,b),l.tail)
def ic {α:Type}(f:List Val→Option (α×List Val))(l:List Val):Option α:=match f (trim l) with
 | some (x,[])=>some x
 | _=>none
theorem GH {s:List UInt8}(h:0≤digits s):0<s.length:=by
 unfold digits at h;split at h
 ·omega
 ·omega
theorem Mg (v:List Val):ic nthP v=nth v:=by
 unfold ic nth;generalize trim v=l
 match l with
 | []=>rfl
 | [.mk k t c] =>
  unfold nthP tokK nth1 mU Ak;simp only[List.tail_cons];by_cases hk:k=1
  ·subst hk;by_cases h1:t.kind=1
   ·simp only[h1,if_true,and_self];split
    ·rename_i x hx;split at hx
     ·cases hx;rename_i e;rw[if_pos e]
     ·rename_i e;rw[if_neg e];split at hx
      ·cases hx;rename_i e;rw[if_pos e]
      ·rename_i e;rw[if_neg e];split at hx
       ·cases hx;rename_i e;rw[if_pos e]
       ·cases hx
    ·rename_i hx;split at hx
     ·exact absurd rfl (hx _)
     ·rename_i e;rw[if_neg e];split at hx
      ·exact absurd rfl (hx _)
      ·rename_i e;rw[if_neg e];split at hx
       ·exact absurd rfl (hx _)
       ·rename_i e;rw[if_neg e]
   ·simp only[h1,and_false,if_false,true_and];by_cases h5:t.kind=5
    ·simp only[h5,if_true];by_cases ht:t.text=[]
     ·simp only[ht,if_true]
     ·simp only[ht,if_false];by_cases hn:t.text=[110]
      ·simp only[hn,if_true];rfl
      ·simp only[hn,if_false];by_cases hl:t.text.take 2=[110,45]∧0≤digits (t.text.drop 2)
       ·have h3:=GH hl.2
        rw[List.length_drop] at h3;rw[if_pos hl,if_pos ⟨by omega,hl⟩]
        rfl
       ·rw[if_neg hl,if_neg fun h=>hl h.2]
        rfl
    ·simp[h5]
  ·simp[hk]
 | [.mk k t c,s] =>
  unfold nthP tokK mU Ak;simp only[List.tail_cons];by_cases hk:k=1
  ·subst hk;by_cases h1:t.kind=1
   ·simp only[h1,and_self,if_true];split
    ·rename_i x hx;rw[Option.map_eq_some_iff] at hx;obtain⟨y,_,e⟩:=hx;cases e
    ·rfl
   ·simp only[h1,and_false,if_false,true_and];by_cases h5:t.kind=5
    ·simp only[h5,if_true];by_cases ht:t.text=[]
     ·simp only[ht,if_true]
     ·simp only[ht,if_false];by_cases hn:t.text=[110]
      ·simp only[hn,if_true,sign];cases hs:aI [43] s
       ·simp
       ·simp[numP,tokK]
      ·simp only[hn,if_false];split
       ·rename_i x hx;rw[Option.map_eq_some_iff] at hx;obtain⟨y,_,e⟩:=hx;cases e
       ·rfl
    ·simp[h5]
  ·simp[hk]
 | [.mk k t c,s,.mk k' u c'] =>
  unfold nthP tokK mU Ak;simp only[List.tail_cons];by_cases hk:k=1
  ·subst hk;by_cases h1:t.kind=1
   ·have h15:((1:Int)=5)=False:=by simp
    simp only[h1,h15,and_self,if_true,false_and,and_false,if_false];split
    ·rename_i x hx;rw[Option.map_eq_some_iff] at hx;obtain⟨y,_,e⟩:=hx;cases e
    ·rfl
   ·simp only[h1,and_false,if_false,true_and];by_cases h5:t.kind=5
    ·simp only[h5,if_true,true_and];by_cases ht:t.text=[]
     ·simp[ht]
     ·simp only[ht,if_false];by_cases hn:t.text=[110]
      ·simp only[hn,if_true,sign,true_and];cases hs:aI [43] s
       ·simp
       ·simp only[if_true,numP,tokK,true_and,List.tail_cons];by_cases hk':k'=1∧u.kind=5
        ·rw[if_pos hk'];simp only;by_cases hu:u.text=[]
         ·rw[if_pos hu];simp only;by_cases h0:0≤u.n
          ·rw[if_pos h0,if_pos ⟨hk'.1,hk'.2,hu,h0⟩]
          ·rw[if_neg h0,if_neg fun h=>h0 h.2.2.2]
         ·rw[if_neg hu,if_neg fun h=>hu h.2.2.1]
        ·rw[if_neg hk',if_neg fun h=>hk' ⟨h.1,h.2.1⟩]
      ·simp only[hn,if_false,false_and];split
       ·rename_i x hx;rw[Option.map_eq_some_iff] at hx;obtain⟨y,_,e⟩:=hx;cases e
       ·rfl
    ·simp[h5]
  ·simp[hk]
 | .mk k t c::s::w::z::m =>
  unfold nthP tokK mU Ak;simp only[List.tail_cons];by_cases hk:k=1
  ·subst hk;by_cases h1:t.kind=1
   ·simp only[h1,and_self,if_true];split
    ·rename_i x hx;rw[Option.map_eq_some_iff] at hx;obtain⟨y,_,e⟩:=hx;cases e
    ·rfl
   ·simp only[h1,and_false,if_false,true_and];by_cases h5:t.kind=5
    ·simp only[h5,if_true];by_cases ht:t.text=[]
     ·simp only[ht,if_true]
     ·simp only[ht,if_false];by_cases hn:t.text=[110]
      ·simp only[hn,if_true,sign];cases hs:aI [43] s
       ·simp
       ·simp only[if_true];split
        ·rename_i x hx;split at hx
         ·rename_i b q hq;split at hx
          ·cases hx
           unfold numP at hq;split at hq
           ·split at hq
            ·cases hq
            ·cases hq
           ·cases hq
          ·cases hx
         ·cases hx
        ·rfl
      ·simp only[hn,if_false];split
       ·rename_i x hx;rw[Option.map_eq_some_iff] at hx;obtain⟨y,_,e⟩:=hx;cases e
       ·rfl
    ·simp[h5]
  ·simp[hk]
def rJ:List Val→Bool
 | []=>true
 | v::_=>ar v||(aI [44] v||(aI [62] v||(aI [43] v||aI [126] v)))
def pB (l:List Val):Option (List UInt8×List Val):=match name (l.drop 2) with
 | some (s,r)=>if s=eH∨s=fJ then some (s,r) else none
 | none=>none
def pJ:Nat→List Sim→List Val→Option ((List Sim×List UInt8)×List Val)
 | 0,_,_=>none
 | f+1,acc,l =>
  if rJ l then(if acc.isEmpty then none else some ((acc,[]),l))
  else if double l then(pB l).map fun x=>((acc,x.1),x.2)
  else if acc.length<8 then(match simple (Ne.size l) acc.isEmpty l with
   | some (x,r)=>pJ f (acc++[x]) r
   | none=>none)
  else none
def mB (l:List Val):Int×List Val :=
 let m:=l.dropWhile ar
 match sign [62] m with
 | some r=>(2,r.dropWhile ar)
 | none =>
 match sign [43] m with
 | some r=>(3,r.dropWhile ar)
 | none =>
 match sign [126] m with
 | some r=>(4,r.dropWhile ar)
 | none=>if m.length<l.length∧m≠[] then(1,m) else(0,m)
def cpxP:Nat→Int→List Prt→List Val→Option (Cpx×List Val)
 | 0,_,_,_=>none
 | n+1,c,acc,l=>match pJ (l.length+1) [] l with
  | none=>none
  | some ((ps,s),r) =>
   if s≠[] then some (⟨acc++[⟨c,ps⟩],s⟩,r)
   else if (mB r).1=0 then some (⟨acc++[⟨c,ps⟩],[]⟩,(mB r).2)
   else cpxP n (mB r).1 (acc++[⟨c,ps⟩]) (mB r).2
theorem MA {l:List Val}(h:gq [44] l=false):rJ l=over l:=by
 cases l with
 | nil=>rfl
 | cons v l =>
  unfold gq at h;rw[List.any_cons,Bool.or_eq_false_iff] at h
  show (ar v||(aI [44] v||(aI [62] v||(aI [43] v||aI [126] v))))=(ar v||aI [62] v||aI [43] v||aI [126] v)
  rw[h.1];simp only[Bool.false_or,Bool.or_assoc]
theorem uz:∀ (f:Nat) (first:Bool) (l:List Val) (ps:List Sim) (r:List Val),part f first l=some (ps,r)→∃ p,l=p++r
 | 0,_,_,_,_,h=>by cases h
 | f+1,first,l,ps,r,h=>by
  rw[part] at h;split at h
  ·cases h;exact⟨[],rfl⟩
  ·split at h
   ·cases h
   ·rename_i x m hs;rw[Option.map_eq_some_iff] at h;obtain⟨⟨qs,r'⟩,hp,e⟩:=h;cases e;obtain⟨p,rfl,_⟩:=qg _ _ _ _ _ hs;obtain⟨p',rfl⟩:=uz f false m qs r' hp;exact⟨p++p',by rw[List.append_assoc]⟩
theorem zF:∀ (f:Nat) (first:Bool) (l:List Val) (ps:List Sim) (r:List Val),part f first l=some (ps,r)→over r=true∨double r=true
 | 0,_,_,_,_,h=>by cases h
 | f+1,first,l,ps,r,h=>by
  rw[part] at h;split at h
  ·rename_i hc;cases h
   simpa using hc
  ·split at h
   ·cases h
   ·rename_i x m hs;rw[Option.map_eq_some_iff] at h;obtain⟨⟨qs,r'⟩,hp,e⟩:=h;cases e;exact zF f false m qs r' hp
theorem tK {s:List UInt8}{p r:List Val}(h:gq s (p++r)=false):gq s r=false:=by
 unfold gq at h ⊢;rw[List.any_append,Bool.or_eq_false_iff] at h;exact h.2
theorem Ej {v:Val}{l:List Val}(h:double (v::l)=true):over (v::l)=false:=by
 obtain⟨k,t,c⟩:=v;cases l with
 | nil=>cases h
 | cons w l =>
  unfold double at h;rw[Bool.and_eq_true] at h;have h1:=h.1
  unfold aI at h1;simp only[Bool.and_eq_true,beq_iff_eq,decide_eq_true_eq] at h1;obtain⟨rfl,rfl⟩:=h1;rfl
def CG (acc:List Sim)(r:List Val):Option ((List Sim×List UInt8)×List Val) :=
 if 8<acc.length then none
 else if over r then(if acc.isEmpty then none else some ((acc,[]),r)) else(pB r).map fun x=>((acc,x.1),x.2)
theorem yW:∀ (f:Nat) (acc:List Sim) (l:List Val),gq [44] l=false→acc.length≤8→pJ f acc l=(match part f acc.isEmpty l with
  | none=>none
  | some (ps,r)=>CG (acc++ps) r)
 | 0,_,_,_,_=>rfl
 | f+1,acc,l,hc,h8=>by
  rw[pJ,part,MA hc];cases ho:over l with
  | true =>
   simp only[Bool.true_or,if_true,List.append_nil];unfold CG;rw[if_neg (show ¬ 8<acc.length by omega),ho]
   rfl
  | false =>
   simp only[Bool.false_or,Bool.false_eq_true,if_false];cases hd:double l with
   | true =>
    simp only[if_true,List.append_nil];unfold CG;rw[if_neg (show ¬ 8<acc.length by omega),ho]
    rfl
   | false =>
    simp only[Bool.false_eq_true,if_false];cases hs:simple (Ne.size l) acc.isEmpty l with
    | none=>simp
    | some y =>
     obtain⟨x,m⟩:=y;simp only;obtain⟨p,rfl,_⟩:=qg _ _ _ _ _ hs;have hcm:=tK hc
     have he:(acc++[x]).isEmpty=false:=by simp
     by_cases h7:acc.length<8
     ·rw[if_pos h7,yW f (acc++[x]) m hcm (by rw[List.length_append,List.length_singleton];omega),he]
      cases part f false m with
      | none=>rfl
      | some z =>
       simp only[Option.map_some,List.append_assoc,List.singleton_append]
     ·rw[if_neg h7];cases part f false m with
      | none=>rfl
      | some z =>
       simp only[Option.map_some];unfold CG;rw[if_pos (by simp;omega)]
theorem JH {r:List Val}(ho:over r=true)(hne:r≠[])(hr:Fr r.reverse)(hc:gq [44] r=false):mB r=comb r∧(comb r).1≠0:=by
 have hm:r.dropWhile ar≠[]:=fun e=>by
  have h1:∀ v∈r,ar v=true:=by
   intro v hv;rcases mE hv with h|h
   ·exact h
   ·rw[e] at h;cases h
  cases hrr:r.reverse with
  | nil=>exact hne (by simpa using hrr)
  | cons v q =>
   have:=hr v q hrr
   have hv:v∈r:=by
    have:v∈r.reverse:=by rw[hrr];simp
    simpa using this
   rw[h1 v hv] at this
   cases this
 unfold mB comb;simp only;cases h1:sign [62] (r.dropWhile ar) with
 | some x=>simp
 | none =>
  cases h2:sign [43] (r.dropWhile ar) with
  | some x=>simp
  | none =>
   cases h3:sign [126] (r.dropWhile ar) with
   | some x=>simp
   | none =>
    have hl:(r.dropWhile ar).length<r.length:=by
     cases r with
     | nil=>exact absurd rfl hne
     | cons v q =>
      cases hv:ar v with
      | true =>
       rw[List.dropWhile_cons,if_pos hv];have:=(List.dropWhile_sublist ar (l:=q)).length_le
       simp only[List.length_cons];omega
      | false =>
       exfalso
       rw[List.dropWhile_cons,if_neg (by rw[hv];simp)] at h1 h2 h3
       have ho:(ar v||aI [62] v||aI [43] v||aI [126] v)=true:=ho
       rw[hv] at ho;simp only[sign] at h1 h2 h3;simp only[Bool.false_or,Bool.or_eq_true] at ho;rcases ho with(ho|ho)|ho
       ·rw[if_pos ho] at h1;cases h1
       ·rw[if_pos ho] at h2;cases h2
       ·rw[if_pos ho] at h3;cases h3
    simp only;rw[if_pos ⟨hl,hm⟩,(Sk r).drop];exact⟨rfl,by simp⟩
theorem Dy (r:List Val):∃ p,r=p++(comb r).2:=by
 obtain⟨p,hp⟩:=List.dropWhile_suffix ar (l:=r);have key:∀ {s:List UInt8} {x:List Val},sign s (r.dropWhile ar)=some x→∃ p,r=p++x.dropWhile ar:=fun {s x} h=>by
  obtain⟨v,e,_⟩:=gK h;obtain⟨q,hq⟩:=List.dropWhile_suffix ar (l:=x);exact⟨p++(v::q),by rw[←hp,e,List.append_assoc,List.cons_append,hq]⟩
 unfold comb;simp only;cases h1:sign [62] (r.dropWhile ar) with
 | some x=>exact key h1
 | none =>
  cases h2:sign [43] (r.dropWhile ar) with
  | some x=>exact key h2
  | none =>
   cases h3:sign [126] (r.dropWhile ar) with
   | some x=>exact key h3
   | none =>
    obtain⟨q,hq⟩:=List.dropWhile_suffix ar (l:=r.dropWhile ar);refine⟨p++q,?_⟩
    show r=p++q++(r.dropWhile ar).dropWhile ar
    rw[List.append_assoc,hq,hp]
theorem zR {l p r:List Val}(h:Fr l.reverse)(e:l=p++r):Fr r.reverse:=by
 subst e;rw[List.reverse_append] at h;exact h.pre rfl
def fin {α:Type}:Option (α×List Val)→Option α
 | some (x,[])=>some x
 | _=>none
theorem IJ:∀ (n:Nat) (c:Int) (acc:List Prt) (l:List Val),gq [44] l=false→Fr l.reverse →
  fin (cpxP n c acc l)=(cpx n c l).map fun x=>⟨acc++x.parts,x.pseudo⟩
 | 0,_,_,_,_,_=>rfl
 | n+1,c,acc,l,hc,hl=>by
  rw[cpxP,cpx,yW _ _ _ hc (by simp),List.isEmpty_nil]
  cases hp:part (l.length+1) true l with
  | none=>rfl
  | some z =>
   obtain⟨ps,r⟩:=z;obtain⟨p,rfl⟩:=uz _ _ _ _ _ hp;have hcr:=tK hc
   have hlr:=zR hl rfl
   have hst:=zF _ _ _ _ _ hp
   simp only[List.nil_append];unfold CG;by_cases h8:8<ps.length
   ·rw[if_pos h8];cases hd:double r with
    | true =>
     simp only[if_true];have:∀ s, ¬ ((s=eH∨s=fJ)∧ps.length≤8):=fun s h=>by omega
     split
     ·rw[if_neg (this _)];rfl
     ·rfl
    | false =>
     simp only[Bool.false_eq_true,if_false];rw[if_pos (.inl h8)];rfl
   rw[if_neg h8];cases hd:double r with
   | true =>
    have ho:over r=false:=by
     cases r with
     | nil=>cases hd
     | cons v q=>exact Ej hd
    rw[ho];simp only[Bool.false_eq_true,if_false,if_true];unfold pB;cases hn:name (r.drop 2) with
    | none=>rfl
    | some y =>
     obtain⟨s,q⟩:=y;simp only;by_cases hs:s=eH∨s=fJ
     ·have hsn:s≠[]:=by
       rcases hs with rfl|rfl
       ·decide
       ·decide
      rw[if_pos hs];simp only[Option.map_some];rw[if_pos hsn];cases q with
      | nil =>
       simp only;rw[if_pos ⟨hs,by omega⟩];rfl
      | cons _ _=>rfl
     ·rw[if_neg hs];cases q with
      | nil =>
       simp only;rw[if_neg fun h=>hs h.1];rfl
      | cons _ _=>rfl
   | false =>
    have ho:over r=true:=by
     rcases hst with h|h
     ·exact h
     ·rw[hd] at h;cases h
    rw[ho];simp only[Bool.false_eq_true,if_false,if_true];cases ps with
    | nil=>simp[fin]
    | cons x ps =>
     simp only[List.isEmpty_cons,Bool.false_eq_true,if_false,ne_eq,not_true_eq_false];rw[if_neg (show ¬ (8<(x::ps).length∨x::ps=[]) by simp;simpa using h8)]
     cases hr:r with
     | nil=>rfl
     | cons v q =>
      rw[←hr];have hne:r≠[]:=by rw[hr];simp
      obtain⟨e1,e2⟩:=JH ho hne hlr hcr;obtain⟨p',e3⟩:=Dy r;have hre:r.isEmpty=false:=by rw[hr];rfl
      rw[e1,if_neg e2,hre];have hc2:gq [44] (comb r).2=false:=by
       rw[e3] at hcr;exact tK hcr
      simp only[Bool.false_eq_true,if_false];rw[IJ n _ _ _ hc2 (zR hlr e3),Option.map_map]
      congr 1
      funext x
      simp
theorem Ly {l:List Val}(hc:gq [44] l=false):ic (cpxP 16 0 []) l=cpx 16 0 (trim l):=by
 have hct:gq [44] (trim l)=false:=by
  unfold gq at hc ⊢;rw[List.any_eq_false] at hc ⊢;exact fun v hv=>hc v (Mv hv)
 have h:=IJ 16 0 [] (trim l) hct (CJ l)
 unfold ic;unfold fin at h;rw[h];simp
end Sl
end Go.Abs
namespace Go.Abs
theorem qa (p:Val→Bool):∀ l:List Val, ∀ q∈Sl.cut p l,Ne.size q≤Ne.size l
 | [],q,hq=>by
  rw[Sl.cut,List.mem_singleton] at hq;subst hq;exact Nat.le_refl _
 | v::l,q,hq=>by
  rw[Ne.size];cases h:p v with
  | true =>
   rw[Sl.vF h] at hq;rcases List.mem_cons.1 hq with rfl|hq
   ·rw[Ne.size];omega
   ·have:=qa p l q hq
    omega
  | false =>
   obtain⟨r,rs,e⟩:=Sl.Bn p l;rw[Sl.xq h e] at hq;rcases List.mem_cons.1 hq with rfl|hq
   ·have:=qa p l r (by rw[e];simp)
    rw[Ne.size];omega
   ·have:=qa p l q (by rw[e];simp[hq])
    omega
end Go.Abs
namespace Go.Abs
open Go Go.Proofs
theorem On (s:List UInt8)(l:List Val):∀ q∈Sl.at_ s l,Ne.size q≤Ne.size l:=by
 rw[←BJ];exact qa _ l
theorem Li (s:List UInt8)(l:List Val):(Sl.at_ s l).length≤l.length+1:=by
 rw[←BJ];exact Sl.qT _ l
end Go.Abs
namespace Go.Abs
namespace Sl
set_option maxRecDepth 100000
open Tk (cT sep within digit begins at0 all)
inductive Sb (M:Nat):Sim→Prop
 | mk {k:Int} {n v:List UInt8} {a b:Int} {l:List Sim} (hn:n.length≤M) (hv:v.length≤M) (hl:∀ x∈l,Sb M x):Sb M (.mk k n v a b l)
theorem xR:∀ (c:Cpx) (l:List Cpx),we (c::l)=Lib.join ((c::l).map cpxS) [44]
 | c,[]=>by simp[we,oM,Lib.join,List.intercalate]
 | c,d::l=>by
  have ih:=xR d l
  have e:oM (d::l)=44::(cpxS d++oM l):=by simp[oM,List.flatMap_cons]
  have j:∀ (x y:List UInt8) (l:List (List UInt8)),Lib.join (x::y::l) [44]=x++44::Lib.join (y::l) [44]:=fun x y l=>by simp[Lib.join,List.intercalate]
  rw[we,e,List.map_cons,List.map_cons,j,←List.map_cons,←ih,we]
end Sl
end Go.Abs
