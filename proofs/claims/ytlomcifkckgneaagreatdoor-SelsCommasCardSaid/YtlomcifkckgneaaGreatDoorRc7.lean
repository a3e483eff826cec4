/-
  WHAT THE FUNCTIONS COMPUTE, layer 1: classes of bytes, runs, names.
  WHAT THE FUNCTIONS COMPUTE, layer 1: the scanner's small steps: a name, a token that is laid, a comment, a string.
  WHAT THE FUNCTIONS COMPUTE, layer 1: the scanner's comment, string, number.
  WHAT THE FUNCTIONS COMPUTE, layer 4, the program's reader of selectors: what comes, tokens, signs, blanks, names, numbers.
  WHAT THE FUNCTIONS COMPUTE, layer 4, the document's reader of selectors: attributes.
  WHAT THE FUNCTIONS COMPUTE, layer 4, the document's reader of selectors: simple selectors.
  WHAT THE FUNCTIONS COMPUTE, layer 4, the document's reader of selectors: an nth; attributes.
  WHAT THE FUNCTIONS COMPUTE, layer 4, the document's reader of selectors: the simple selectors of a compound one.
  WHAT THE FUNCTIONS COMPUTE: complex selectors and lists of them.
  WHAT THE FUNCTIONS COMPUTE, layer 4, the document's reader of selectors: a complex selector.
  WHAT THE DOCUMENT'S ANSWER COMPUTES, layer 1: digits, a token's text.
  DATA OF A TYPE: what reads as selectors (as in layer 5's rows, upon the types of layer 3).
-/
import Derived.Test.YtlomcifkckgneaaGreatDoorRc4
import Derived.Test.YtlomcifkckgneaaGreatDoorRc6
set_option linter.unusedSimpArgs false
set_option linter.unusedVariables false
namespace Go.Abs
open Go Go.Proofs
set_option maxRecDepth 10000
attribute [local go_sem] cM bt ck bJ bH cL cq co aR bU bO ci cN bF opd avOf cvOf St.degAt St.put okPV dA okAV cZ cY cX cG aH if_true Bool.false_eq_true if_false Option.map_some Option.map_none Option.bind_some Option.bind_none dC dr upd List.toList_toArray cA steal bm mvB c8 cF cE AV.deg CV.deg AV.gv AV.isIter cy cj bK List.length_nil List.length_cons List.filterMap_cons List.filterMap_nil beq_iff_eq List.getElem?_cons_zero List.getElem?_cons_succ Option.getD_some dE ev Bool.false_and Bool.and_false Bool.and_self K_P eN bZ cz bh lend back idx dedup AV.ren CV.ren TV.ren AV.ptrs CV.ptrs cH AV.flat CV.flat cf bQ aV cK cQ dM bW aM bX bc bv bR bd d8 CV.pv? content bo ownT aW reps pvs chunks bM leave dU cw cV bG bg TV.deg TV.av LK CV.plain CV.noBld cJ dX bound List.map_cons List.map_nil List.all_cons List.all_nil List.any_cons List.any_nil List.contains_cons List.contains_nil List.elem_cons List.elem_nil List.cons_append List.nil_append List.append_nil List.flatMap_cons List.flatMap_nil List.zip_cons_cons List.zip_nil_left List.zip_nil_right List.take_succ_cons List.take_zero List.take_nil List.drop_succ_cons List.drop_zero List.drop_nil List.isEmpty_nil List.isEmpty_cons Bool.and_true Bool.true_and Bool.or_true Bool.true_or Bool.or_false Bool.false_or Bool.not_true Bool.not_false Nat.add_zero Nat.zero_add Option.isNone_none Option.isNone_some Option.getD_none true_and and_true not_true_eq_false not_false_eq_true decide_true decide_false Nat.le_refl and_self Bool.not_eq_true Nat.sub_self or_true true_or Option.some.injEq List.length_map List.nil_eq and_false false_and AV.live CV.live CV.liveIn dq aX Option.orElse_some Option.orElse_none head a7 a6 Int.lt_irrefl List.length_append ite_self dz ce cO bu Key.clash Key.sees Key.writes Nat.lt_irrefl gt_iff_lt cg dc false_or or_false beq_self_eq_true Bool.true_beq Bool.false_beq FA qX Ak
abbrev U (c:UInt8):AV := .c (.pv (.int .u8 c.toNat))
theorem Fw (c:UInt8):Tk.digit c=(decide ((48:Int)≤(c.toNat:Int))&&decide ((c.toNat:Int)≤57)):=by
 unfold Tk.digit;rw[←Bool.decide_and];exact decide_eq_decide.2 (by omega)
theorem CI (c:UInt8):Tk.begins c=((decide ((97:Int)≤(c.toNat:Int))&&decide ((c.toNat:Int)≤122))||(decide ((65:Int)≤(c.toNat:Int))&&decide ((c.toNat:Int)≤90))||((c.toNat:Int)==95)||decide ((128:Int)≤(c.toNat:Int))):=by
 have e:((c.toNat:Int)==95)=decide ((c.toNat:Int)=95):=by
  by_cases h:(c.toNat:Int)=95<;>simp[h]
 rw[e]
 unfold Tk.begins
 rw[←Bool.decide_and,←Bool.decide_and,←Bool.decide_or,←Bool.decide_or,←Bool.decide_or]
 exact decide_eq_decide.2 (by omega)
theorem ey (c d:UInt8):((c.toNat:Int)==(d.toNat:Int))=(c==d):=by
 by_cases e:c=d
 ·subst e;simp
 ·have:c.toNat≠d.toNat:=fun h2=>e (UInt8.toNat_inj.1 h2)
  rw[beq_eq_false_iff_ne.2 e,beq_eq_false_iff_ne.2 (by omega)]
theorem mr (c:UInt8):den K 185 [U c] []=some (.ret (B (Tk.digit c)) []):=by
 refine ai rfl rfl Tryz.func185 rfl Tryz.ntmps185 ⟨by simp,by simp[LK]⟩ ?_
 have hr:Tryz.f185.results = #[.tmp 2]:=rfl
 rw[Fw]
 cases b1:decide ((48:Int)≤(c.toNat:Int))<;>cases b2:decide ((c.toNat:Int)≤57)<;>simp only[go_sem,Nat.reduceLT,reduceCtorEq,Nat.reduceEqDiff,Nat.reduceBEq,Nat.reduceAdd,hr,b1,b2]
set_option maxHeartbeats 8000000 in
theorem nj (c:UInt8):den K 209 [U c] []=some (.ret (B (Tk.begins c)) []):=by
 refine ai rfl rfl Tryz.func209 rfl Tryz.ntmps209 ⟨by simp,by simp[LK]⟩ ?_
 have hr:Tryz.f209.results = #[.tmp 2]:=rfl
 rw[CI]
 cases b1:decide ((97:Int)≤(c.toNat:Int))<;>cases b2:decide ((c.toNat:Int)≤122)<;>cases b3:decide ((65:Int)≤(c.toNat:Int))<;>cases b4:decide ((c.toNat:Int)≤90)<;>cases b5:((c.toNat:Int)==95)<;>cases b6:decide ((128:Int)≤(c.toNat:Int))<;>simp only[go_sem,Nat.reduceLT,reduceCtorEq,Nat.reduceEqDiff,Nat.reduceBEq,Nat.reduceAdd,hr,b1,b2,b3,b4,b5,b6]
theorem sT (c:UInt8):den K 184 [U c] []=some (.ret (B (Tk.within c)) []):=by
 have d1:=nj c
 have d2:=mr c
 have e45:((c.toNat:Int)==45)=(c==45):=ey c 45
 refine ai rfl rfl Tryz.func184 rfl Tryz.ntmps184 ⟨by simp,by simp[LK]⟩ ?_
 have hr:Tryz.f184.results = #[.tmp 2]:=rfl
 unfold Tk.within
 cases b1:Tk.begins c<;>cases b2:Tk.digit c<;>cases b3:(c==45)<;>rw[b1] at d1<;>rw[b2] at d2<;>rw[b3] at e45<;>simp only[go_sem,Nat.reduceLT,reduceCtorEq,Nat.reduceEqDiff,Nat.reduceBEq,Nat.reduceAdd,hr,d1,d2,e45]
theorem xS (s:List UInt8) (i:Nat):(s[i]? = none∧Tk.at0 (s.drop i)=0∧s.length≤i)∨(i<s.length∧s[i]? = some (Tk.at0 (s.drop i))):=by
 by_cases h:i<s.length
 ·right
  refine ⟨h,?_⟩
  rw[List.drop_eq_getElem_cons h,Tk.iH,List.getElem?_eq_getElem h]
 ·left
  refine ⟨List.getElem?_eq_none (by omega),?_,by omega⟩
  rw[List.drop_eq_nil_of_le (by omega)];rfl
theorem np (s:List UInt8) (i:Nat) (hs:s.length<1000000000000):den K 175 [T s,I i] []=some (.ret (U (Tk.at0 (s.drop i))) []):=by
 refine ai rfl rfl Tryz.func175 rfl Tryz.ntmps175 ⟨by simp,by simp[LK]⟩ ?_
 have hr:Tryz.f175.results = #[.tmp 4]:=rfl
 rcases xS s i with ⟨h1,h2,h3⟩|⟨h1,h2⟩
 ·have hlt:decide ((i:Int)<(s.length:Int))=false:=decide_eq_false (by omega)
  rw[h2]
  simp only[go_sem,Nat.reduceLT,reduceCtorEq,Nat.reduceEqDiff,Nat.reduceBEq,Nat.reduceAdd,aE ax,aZ ax,hr,hlt]
  rfl
 ·have hlt:decide ((i:Int)<(s.length:Int))=true:=decide_eq_true (by omega)
  simp only[go_sem,Nat.reduceLT,reduceCtorEq,Nat.reduceEqDiff,Nat.reduceBEq,Nat.reduceAdd,aE ax,aZ ax,hr,hlt,Int.natCast_nonneg,Int.toNat_natCast,h2]
abbrev FN (f:Nat):AV := .c (.fn f [])
abbrev runH (s:List UInt8) (from_:Nat) (f n:Nat):St := { sl:=upd (upd (upd (upd bot 7 (I n)) 2 (FN f)) 1 (I from_)) 0 (T s),bx:=upd nobox 100000 none,nt:=26 }
theorem D5 (s:List UInt8) (hs:s.length<1000000000000) (p:UInt8→Bool) (f:Nat) (hg:K.good f=true) (hown:K.ownRet f=false) (hf : ∀ c,den K f [U c] []=some (.ret (B (p c)) [])) (from_:Nat) : ∀ (rest:List UInt8) (n:Nat),s.drop (from_+n)=rest→from_+n≤s.length →
  Ends (exL K 182 (.loop (ao Tryz.f182 2)) (runH s from_ f n)) fun o S=>o = .exit 0∧S.sl 7=I (n+Tk.run p rest:Nat)∧S.nt=26:=by
 intro rest
 induction rest with
 | nil =>
  intro n hd hn
  have hin:from_+n=s.length:=by
   have:=List.drop_eq_nil_iff.1 hd
   omega
  have w1:IntKind.i64.wrap ((from_:Int)+(n:Int))=((from_+n:Nat):Int):=by rw[IntWalk.i64_in _ (by omega)];rfl
  have hlt:decide (((from_+n:Nat):Int)<(s.length:Int))=false:=decide_eq_false (by omega)
  conv in ao _ _=>whnf
  rw[aw]
  simp only[go_sem,Nat.reduceLT,reduceCtorEq,Nat.reduceEqDiff,Nat.reduceBEq,Nat.reduceAdd,aE ax,ay,w1,hlt,Tk.qI]
 | cons c rest ih =>
  intro n hd hn
  obtain ⟨g1,g2,g3⟩:=bS hd
  have w1:IntKind.i64.wrap ((from_:Int)+(n:Int))=((from_+n:Nat):Int):=by rw[IntWalk.i64_in _ (by omega)];rfl
  have hlt:decide (((from_+n:Nat):Int)<(s.length:Int))=true:=decide_eq_true (by omega)
  have hc:=hf c
  have ih':=ih (n+1) g2 (by omega)
  conv at ih' in ao _ _=>whnf
  conv in ao _ _=>whnf
  rw[aw]
  cases hp:p c
  ·rw[hp] at hc
   have hv:Tk.run p (c::rest)=0:=by rw[Tk.run,if_neg (by simp[hp])]
   simp only[go_sem,Nat.reduceLT,reduceCtorEq,Nat.reduceEqDiff,Nat.reduceBEq,Nat.reduceAdd,aE ax,aZ ax,ay,w1,hlt,hg,hown,hc,Int.natCast_nonneg,Int.toNat_natCast,g1,hv]
  ·rw[hp] at hc
   have hv:n+1+Tk.run p rest=n+Tk.run p (c::rest):=by rw[Tk.run,if_pos hp];omega
   rw[hv] at ih'
   simp only[go_sem,Nat.reduceLT,reduceCtorEq,Nat.reduceEqDiff,Nat.reduceBEq,Nat.reduceAdd,aE ax,aZ ax,w1,hlt,hg,hown,hc,Int.natCast_nonneg,Int.toNat_natCast,g1,bA n (by omega)]
   rw[aB]
   simp only[go_sem,reduceCtorEq,Nat.reduceEqDiff]
   exact ih'
theorem qK (s:List UInt8) (hs:s.length<1000000000000) (p:UInt8→Bool) (f:Nat) (hg:K.good f=true) (hown:K.ownRet f=false) (hf : ∀ c,den K f [U c] []=some (.ret (B (p c)) [])) (from_:Nat) (h:from_≤s.length):den K 182 [T s,I from_,FN f] []=some (.ret (I (Tk.run p (s.drop from_):Nat)) []):=by
 refine ai rfl rfl Tryz.func182 rfl Tryz.ntmps182 ⟨by simp,by simp[LK]⟩ ?_
 have hr:Tryz.f182.results = #[.tmp 6]:=rfl
 have hnext:=D5 s hs p f hg hown hf from_ (s.drop from_) 0 rfl (by omega)
 conv at hnext in ao _ _=>whnf
 obtain ⟨o,S',e,rfl,h7,hn⟩:=hnext
 rw[Nat.zero_add] at h7
 simp only[go_sem,Nat.reduceLT,Nat.reduceBEq]
 rw[aB]
 simp only[go_sem,reduceCtorEq,Nat.reduceEqDiff]
 erw [e]
 simp only[go_sem,Nat.reduceLT,Nat.reduceEqDiff,Nat.reduceBEq,Nat.reduceAdd,hr,h7,hn]
attribute [local go_sem] rH sG fL jU iz jG eA dx GC
theorem rV (s:List UInt8) (hs:s.length<4000000000) (i:Nat) (h:i≤s.length):den K 176 [T s,I i] []=some (.ret (I (Tk.name (s.drop i):Nat)) []):=by
 have d1:=np s i (by omega)
 have d2:=np s (i+1) (by omega)
 have ht:(s.drop i).tail=s.drop (i+1):=List.tail_drop
 have hrun:=qK s (by omega) Tk.within 184 yP rfl sT i h
 unfold Tk.name Tk.dR
 rw[ht]
 generalize Tk.at0 (s.drop i)=c at d1
 generalize Tk.at0 (s.drop (i+1))=d at d2
 have b1:=nj c
 have b2:=nj d
 have e1:((c.toNat:Int)==45)=(c==45):=ey c 45
 have e2:((d.toNat:Int)==45)=(d==45):=ey d 45
 refine ai rfl rfl Tryz.func176 rfl Tryz.ntmps176 ⟨by simp,by simp[LK]⟩ ?_
 have hr:Tryz.f176.results = #[.tmp 4]:=rfl
 cases h1:Tk.begins c
 ·rw[h1] at b1
  cases h2:(c==45)
  ·rw[h2] at e1
   simp only[go_sem,Nat.reduceLT,reduceCtorEq,Nat.reduceEqDiff,Nat.reduceBEq,Nat.reduceAdd,hr,d1,d2,b1,e1,bA i (by omega)]
   rfl
  ·rw[h2] at e1
   cases h3:Tk.begins d
   ·rw[h3] at b2
    cases h4:(d==45)
    ·rw[h4] at e2
     simp only[go_sem,Nat.reduceLT,reduceCtorEq,Nat.reduceEqDiff,Nat.reduceBEq,Nat.reduceAdd,hr,d1,d2,b1,b2,e1,e2,bA i (by omega)]
     rfl
    ·rw[h4] at e2
     simp only[go_sem,Nat.reduceLT,reduceCtorEq,Nat.reduceEqDiff,Nat.reduceBEq,Nat.reduceAdd,hr,d1,d2,b1,b2,e1,e2,hrun,bA i (by omega)]
   ·rw[h3] at b2
    simp only[go_sem,Nat.reduceLT,reduceCtorEq,Nat.reduceEqDiff,Nat.reduceBEq,Nat.reduceAdd,hr,d1,d2,b1,b2,e1,hrun,bA i (by omega)]
 ·rw[h1] at b1
  simp only[go_sem,Nat.reduceLT,reduceCtorEq,Nat.reduceEqDiff,Nat.reduceBEq,Nat.reduceAdd,hr,d1,d2,b1,hrun,bA i (by omega)]
inductive TS where
 | nils
 | live
 | wr (l:List Tok)
def TS.toks:TS→List Tok
 | .wr l=>l
 | _=>[]
def TS.cell:TS→CV
 | .nils => .nils
 | .live => .own 0 []
 | .wr l => .own 91 (l.map Tok.enc)
abbrev scan (s:List UInt8) (x:TS):List CV:=[.pv (.str s),x.cell]
theorem wl (a b c:PV):lens 3 [[a,b,c]]=true:=rfl
theorem jj (l:List Tok):lens 3 (l.map Tok.enc)=true:=by simp[lens,Tok.enc]
theorem sC (s:List UInt8) (x:TS) (n:Nat) (h:n≤s.length):den K 210 [P0,I n] [scan s x]=some (.ret (.tup []) [scan (s.drop n) x]):=by
 refine ai rfl rfl Tryz.func210 rfl Tryz.ntmps210 ⟨by simp,by simp[LK]⟩ ?_
 have hr:Tryz.f210.results = #[]:=rfl
 have hb:((0:Int)≤(n:Int)∧(n:Int)≤(s.length:Int))=True:=eq_true (by omega)
 have hd:(s.take s.length).drop n=s.drop n:=by rw[List.take_length]
 cases x<;>simp only[TS.cell,scan,go_sem,Nat.reduceLT,reduceCtorEq,Nat.reduceEqDiff,Nat.reduceBEq,Nat.reduceAdd,Nat.reduceLeDiff,ar ax,hr,hb,Int.toNat_natCast,hd]
theorem Bb (s:List UInt8) (x:TS) (n:Nat) (kind:Int) (text:List UInt8) (v:Int) (h:n≤s.length) (hx:x.toks.length<4000000000) :
  den K 181 [P0,I n,I kind,T text,I v] [scan s x]=some (.ret (.tup []) [scan (s.drop n) (.wr (x.toks++[⟨kind,text,v⟩]))]):=by
 refine ai rfl rfl Tryz.func181 rfl Tryz.ntmps181 ⟨by simp,by simp[LK]⟩ ?_
 have hr:Tryz.f181.results = #[]:=rfl
 have hsk:=sC s (.wr (x.toks++[⟨kind,text,v⟩])) n h
 have hl:x.toks.length+1<cD:=by simp[cD];omega
 cases x<;>simp only[TS.cell,TS.toks,scan,List.map_append,List.map_cons,List.map_nil,Tok.enc,List.nil_append,List.length_nil] at hsk hl ⊢ <;>
  simp only[go_sem,Nat.reduceLT,reduceCtorEq,Nat.reduceEqDiff,Nat.reduceBEq,Nat.reduceAdd,Nat.reduceLeDiff,Nat.reduceMul,af ab aj,am (len:=1) aA aQ ab ⟨rfl,by decide,by decide⟩,cB j5,br aA,hr,hsk,hl,wo,wl,jj]
attribute [local go_sem] Ff F8 xz ER
def y4 (r:List UInt8):Int:=match Tk.shut r with|some n=>(n:Int) - 2|none => -1
def jY (c:UInt8) (r:List UInt8):Int:=match Tk.inner c r with|some n=>(n:Int)|none => -1
theorem rO : ∀ r:List UInt8,Lib.index r [42,47]=y4 r
 | []=>rfl
 | b::l=>by
  have ih:=rO l
  have e:Lib.index (b::l) [42,47]=if [42,47].isPrefixOf (b::l) then 0 else if Lib.index l [42,47] == -1 then -1 else Lib.index l [42,47]+1:=rfl
  rw[e,ih]
  have hp:([42,47].isPrefixOf (b::l)=true)↔(b=42∧Tk.at0 l=47):=by
   cases l with
   | nil =>
    refine ⟨fun h => ?_,fun h=>absurd h.2 (by decide)⟩
    simp[List.isPrefixOf] at h
   | cons d l =>
    simp only[List.isPrefixOf,Bool.and_true,Bool.and_eq_true,beq_iff_eq,Tk.at0]
    exact ⟨fun h=>⟨h.1.symm,h.2.symm⟩,fun h=>⟨h.1.symm,h.2.symm⟩⟩
  by_cases h:b=42∧Tk.at0 l=47
  ·rw[if_pos (hp.2 h),y4,Tk.shut,if_pos h];rfl
  ·rw[if_neg (fun x=>h (hp.1 x)),y4,y4,Tk.shut,if_neg h]
   cases hs:Tk.shut l with
   | none=>rfl
   | some n =>
    have:=Tk.qu hs
    simp only[Option.map_some]
    rw[if_neg (by rw[beq_iff_eq];omega)]
    omega
theorem td (b:UInt8):([10,12,13]:List UInt8).contains b=Tk.ending b:=by
 unfold Tk.ending
 simp only[List.contains_cons,List.contains_nil,Bool.or_false,Bool.or_assoc]
theorem pA (b:UInt8) (l:List UInt8):Lib.containsAny (b::l) [10,12,13]=(Tk.ending b||Lib.containsAny l [10,12,13]):=by
 unfold Lib.containsAny
 have e:Lib.indexAny (b::l) [10,12,13]=if ([10,12,13]:List UInt8).contains b then 0 else if Lib.indexAny l [10,12,13] == -1 then -1 else Lib.indexAny l [10,12,13]+1:=rfl
 rw[e,td]
 have hge:=Lib.indexAny_ge [10,12,13] l
 cases Tk.ending b
 ·simp only[Bool.false_eq_true,if_false,Bool.false_or]
  by_cases h:Lib.indexAny l [10,12,13] = -1
  ·rw[if_pos (by rw[h];rfl),h]
  ·rw[if_neg (by simpa using h)]
   exact decide_eq_decide.2 (by omega)
 ·rfl
theorem iA (b:UInt8) (l:List UInt8) (c:UInt8):Lib.indexByte (b::l) c=if b==c then 0 else if Lib.indexByte l c == -1 then -1 else Lib.indexByte l c+1:=rfl
theorem nC (c:UInt8) : ∀ r:List UInt8,0≤Lib.indexByte r c→Lib.indexByte r c<(r.length:Int)
 | [],h=>absurd (show (0:Int) ≤ -1 from h) (by decide)
 | b::l,h=>by
  have ih:=nC c l
  have hge:=Lib.indexByte_ge l c
  rw[iA] at h ⊢
  simp only[List.length_cons]
  split at h
  ·omega
  ·split at h
   ·omega
   ·rename_i h2
    have:Lib.indexByte l c ≠ -1:=by simpa using h2
    have:=ih (by omega)
    rw[if_neg h2];omega
theorem ue (c:UInt8) : ∀ r:List UInt8,jY c r=if 0≤Lib.indexByte r c∧Lib.containsAny (r.take (Lib.indexByte r c).toNat) [10,12,13]=true then -1 else Lib.indexByte r c
 | []=>rfl
 | b::l=>by
  have ih:=ue c l
  have hge:=Lib.indexByte_ge l c
  by_cases hb:b=c
  ·have e:Lib.indexByte (b::l) c=0:=by rw[iA,if_pos (by simp[hb])]
   have hc0:Lib.containsAny ((b::l).take (0:Int).toNat) [10,12,13]=false:=rfl
   rw[e,jY,Tk.inner,if_pos hb,hc0]
   rfl
  ·by_cases hm:Lib.indexByte l c = -1
   ·have e:Lib.indexByte (b::l) c = -1:=by rw[iA,if_neg (by simpa using hb),hm];rfl
    rw[hm,if_neg (by omega)] at ih
    rw[e,if_neg (by omega),jY,Tk.inner,if_neg hb]
    unfold jY at ih
    cases hi:Tk.inner c l with
    | none=>cases Tk.ending b<;>rfl
    | some n=>rw[hi] at ih;simp only at ih;omega
   ·have e:Lib.indexByte (b::l) c=Lib.indexByte l c+1:=by rw[iA,if_neg (by simpa using hb),if_neg (by simpa using hm)]
    have ht:(Lib.indexByte l c+1).toNat=(Lib.indexByte l c).toNat+1:=by omega
    rw[e,ht,List.take_succ_cons,pA,jY,Tk.inner,if_neg hb]
    unfold jY at ih
    cases he:Tk.ending b
    ·simp only[Bool.false_or,Bool.false_eq_true,if_false]
     by_cases hc:Lib.containsAny (l.take (Lib.indexByte l c).toNat) [10,12,13]=true
     ·rw[if_pos ⟨by omega,hc⟩]
      rw[if_pos ⟨by omega,hc⟩] at ih
      cases hi:Tk.inner c l with
      | none=>rfl
      | some n=>rw[hi] at ih;simp only at ih;omega
     ·rw[if_neg (fun x=>hc x.2)]
      rw[if_neg (fun x=>hc x.2)] at ih
      cases hi:Tk.inner c l with
      | none=>rw[hi] at ih;simp only at ih;omega
      | some n=>rw[hi] at ih;simp only at ih ⊢;simp only[Option.map_some];omega
    ·rw[Bool.true_or,if_pos (⟨by omega,rfl⟩:0≤Lib.indexByte l c+1∧true=true)]
     rfl
theorem C5 (s p:List UInt8) (h:s.length<4294967281):den K 193 [T s,T p] []=some (.ret (I (Lib.index s p)) []):=by
 refine eW (F:=sa) rfl ?_
 simp[sa,h]
theorem iv (s:List UInt8) (c:UInt8):den K 179 [T s,U c] []=some (.ret (I (Lib.indexByte s c)) []):=by
 refine eW (F:=gM) rfl ?_
 simp[gM]
theorem tl (s p:List UInt8):den K 177 [T s,T p] []=some (.ret (B (Lib.hasPrefix s p)) []):=eW (F:=kY) rfl rfl
theorem vw (s:List UInt8) (h:s.length<4294967281):den K 230 [T s,T [10,12,13]] []=some (.ret (I (Lib.indexAny s [10,12,13])) []):=by
 refine eW (F:=km) rfl ?_
 simp[km,h]
theorem qq (s:List UInt8) (h:s.length<4294967281):den K 212 [T s,T [10,12,13]] []=some (.ret (B (Lib.containsAny s [10,12,13])) []):=by
 have d:=vw s h
 unfold Lib.containsAny
 refine ai rfl rfl Tryz.func212 rfl Tryz.ntmps212 ⟨by simp,by simp[LK]⟩ ?_
 have hr:Tryz.f212.results = #[.tmp 4]:=rfl
 simp only[go_sem,Nat.reduceLT,reduceCtorEq,Nat.reduceEqDiff,Nat.reduceBEq,Nat.reduceAdd,hr,d]
theorem yO (s:List UInt8) (x:TS) (hs:s.length<4000000000) (h:2≤s.length):den K 178 [P0] [scan s x]=some (.ret (.tup []) [scan (s.drop (Tk.comment (s.drop 2))) x]):=by
 have hi:=C5 (s.drop 2) [42,47] (by simp;omega)
 rw[rO] at hi
 unfold y4 at hi
 refine ai rfl rfl Tryz.func178 rfl Tryz.ntmps178 ⟨by simp,by simp[LK]⟩ ?_
 have hr:Tryz.f178.results = #[]:=rfl
 have hb:((0:Int)≤2∧(2:Int)≤(s.length:Int))=True:=eq_true (by omega)
 have hd:(s.take s.length).drop 2=s.drop 2:=by rw[List.take_length]
 have t2:Int.toNat 2=2:=rfl
 unfold Tk.comment
 cases hc:Tk.shut (s.drop 2) with
 | none =>
  rw[hc] at hi
  have hsk:=sC s x s.length (Nat.le_refl _)
  have hn:decide ((-1:Int)<0)=true:=by decide
  have hlen:(s.drop 2).length+2=s.length:=by simp;omega
  rw[hlen]
  cases x<;>simp only[TS.cell,scan] at hsk ⊢ <;> simp only[go_sem,Nat.reduceLT,reduceCtorEq,Nat.reduceEqDiff,Nat.reduceBEq,Nat.reduceAdd,ar ax,aE ax,hr,hi,hb,t2,hd,hn,hsk]
 | some n =>
  rw[hc] at hi
  have hle:=Tk.qu hc
  simp only[List.length_drop] at hle
  have hsk:=sC s x (n+2) (by omega)
  have hn:decide ((n:Int) - 2<0)=false:=decide_eq_false (by omega)
  have w1:IntKind.i64.wrap (2+((n:Int) - 2))=(n:Int):=by rw[IntWalk.i64_in _ (by omega)];omega
  have w2:IntKind.i64.wrap ((n:Int)+2)=((n+2:Nat):Int):=by rw[IntWalk.i64_in _ (by omega)];rfl
  cases x<;>simp only[TS.cell,scan] at hsk ⊢ <;> simp only[go_sem,Nat.reduceLT,reduceCtorEq,Nat.reduceEqDiff,Nat.reduceBEq,Nat.reduceAdd,ar ax,aE ax,hr,hi,hb,t2,hd,hn,w1,w2,hsk]
theorem Dc (s:List UInt8) (c:UInt8) (r:List UInt8) (x:TS) (hsr:s=c::r) (hs:s.length<4000000000):den K 183 [P0] [scan s x]=some (.ret (I (jY c r)) [scan s x]):=by
 have hb:((0:Int)≤1∧(1:Int)≤(s.length:Int))=True:=eq_true (by rw[hsr];simp;omega)
 have hd:(s.take s.length).drop 1=r:=by rw[List.take_length,hsr];rfl
 have hcell:s[(0:Int).toNat]? = some c:=by rw[hsr];rfl
 have hrs:r.length≤s.length:=by rw[hsr];simp
 clear hsr
 have hi:=iv r c
 have hge:=Lib.indexByte_ge r c
 have hlt:=nC c r
 rw[ue]
 generalize Lib.indexByte r c=n at hi hge hlt
 refine ai rfl rfl Tryz.func183 rfl Tryz.ntmps183 ⟨by simp,by simp[LK]⟩ ?_
 have hr:Tryz.f183.results = #[.tmp 2]:=rfl
 have t1:Int.toNat 1=1:=rfl
 by_cases h0:0≤n
 ·have hc:=qq (r.take n.toNat) (by rw[List.length_take];omega)
  have hn:decide (0≤n)=true:=decide_eq_true h0
  have hb2:((0:Int)≤n∧n≤(r.length:Int))=True:=eq_true (by have:=hlt h0;omega)
  cases hv:Lib.containsAny (r.take n.toNat) [10,12,13]
  ·rw[hv] at hc
   rw[if_neg (fun e=>by cases e.2)]
   cases x<;>simp only[TS.cell,scan]<;>simp only[go_sem,Nat.reduceLT,reduceCtorEq,Nat.reduceEqDiff,Nat.reduceBEq,Nat.reduceAdd,ar ax,aZ ax,ar al,hr,hi,hb,hd,hn,t1,hb2,hc,hcell,Int.le_refl]
  ·rw[hv] at hc
   rw[if_pos ⟨h0,rfl⟩]
   cases x<;>simp only[TS.cell,scan]<;>simp only[go_sem,Nat.reduceLT,reduceCtorEq,Nat.reduceEqDiff,Nat.reduceBEq,Nat.reduceAdd,ar ax,aZ ax,ar al,hr,hi,hb,hd,hn,t1,hb2,hc,hcell,Int.le_refl]
 ·have hn:decide (0≤n)=false:=decide_eq_false h0
  rw[if_neg (fun e=>h0 e.1)]
  cases x<;>simp only[TS.cell,scan]<;>simp only[go_sem,Nat.reduceLT,reduceCtorEq,Nat.reduceEqDiff,Nat.reduceBEq,Nat.reduceAdd,ar ax,aZ ax,hr,hi,hb,hd,hn,t1,hcell,Int.le_refl]
attribute [local go_sem] ku dv az gZ cR eD a8 uY c5 bC cu bf dJ zX aI b7 EO ab aQ qT qv fc cx dH nG zK kZ
abbrev rdB (l:List Val):List CV:=[.pv (.sl (encL l))]
abbrev du:CV := .pv (.ifa 115 [])
def nxCv:List Val→List CV
 | []=>[.pv (.int .i64 0),.pv (.int .i64 0),.pv (.str []),.pv (.int .i64 0),.nils]
 | .mk k t c::_=>iY k t c
theorem ro:nxCv []=[.pv (.int .i64 0),.pv (.int .i64 0),.pv (.str []),.pv (.int .i64 0),.nils]:=rfl
theorem fy (k:Int) (t:Tok) (c r:List Val):nxCv (.mk k t c::r)=[.pv (.int .i64 k),.pv (.int .i64 t.kind),.pv (.str t.text),.pv (.int .i64 t.n),.pv (.sl (encL c))]:=rfl
theorem eC:den K 40 [B true] []=some (.ret (.tup []) []):=by
 refine ai rfl rfl Tryz.func40 rfl Tryz.ntmps40 ⟨by simp,by simp[LK]⟩ ?_
 have hr:Tryz.f40.results = #[]:=rfl
 simp only[go_sem,Nat.reduceLT,Nat.reduceEqDiff,Nat.reduceBEq,Nat.reduceAdd,af fh fD,hr]
theorem gk:den K 40 [B false] []=some (.pan du []):=by
 refine ai rfl rfl Tryz.func40 rfl Tryz.ntmps40 ⟨by simp,by simp[LK]⟩ ?_
 have hr:Tryz.f40.results = #[]:=rfl
 simp only[go_sem,Nat.reduceLT,Nat.reduceEqDiff,Nat.reduceBEq,Nat.reduceAdd,af fh fD,hr]
theorem fU (l:List Val) (hl:l.length≤100000000):den K 74 [P0] [rdB l]=some (.ret (.agg (nxCv l)) [rdB l]):=by
 have hr:Tryz.f74.results = #[.cell 2 93]:=rfl
 cases l with
 | nil =>
  have q0:(((0:Nat):Int)==0)=true:=rfl
  rw[ro]
  simp only[rdB]
  refine ai rfl rfl Tryz.func74 rfl Tryz.ntmps74 ⟨by simp,by simp[LK]⟩ ?_
  simp only[go_sem,Nat.reduceLT,reduceCtorEq,Nat.reduceEqDiff,Nat.reduceBEq,Nat.reduceAdd,Nat.reduceSub,Nat.reduceLeDiff,ah ap,af az bB,hr,aY,q0]
 | cons v r =>
  obtain ⟨k,t,c⟩:=v
  rw[List.length_cons] at hl
  have hn0:(((r.length+1:Nat):Int)==0)=false:=by rw[beq_eq_false_iff_ne];omega
  have hget:=rP k t c r
  rw[fy]
  simp only[rdB]
  refine ai rfl rfl Tryz.func74 rfl Tryz.ntmps74 ⟨by simp,by simp[LK]⟩ ?_
  simp only[go_sem,Nat.reduceLT,reduceCtorEq,Nat.reduceEqDiff,Nat.reduceBEq,Nat.reduceAdd,Nat.reduceSub,Nat.reduceLeDiff,ah ap,af az bB,ae ap,hr,aY,hn0,hget,le00]
theorem eX (k:Int) (t:Tok) (c r:List Val) (hl:r.length≤90000000):den K 77 [P0] [rdB (.mk k t c::r)]=some (.ret (.agg (nxCv (.mk k t c::r))) [rdB r]):=by
 have hr:Tryz.f77.results = #[.cell 2 93]:=rfl
 have h:=fU (.mk k t c::r) (by rw[List.length_cons];omega)
 rw[fy] at h ⊢
 simp only[rdB] at h ⊢
 have hlt:decide ((0:Int)<(((r.length+1:Nat)):Int))=true:=decide_eq_true (by omega)
 have hcut:=yH (.mk k t c) r (r.length+1) rfl
 have hb1:((0:Int)≤1∧(1:Int)≤((r.length+1:Nat):Int))=True:=by rw[eq_iff_iff];simp;omega
 have hlv:=dD (.mk k t c::r)
 refine ai rfl rfl Tryz.func77 rfl Tryz.ntmps77 ⟨by simp,by simp[LK]⟩ ?_
 simp only[go_sem,Nat.reduceLT,reduceCtorEq,Nat.reduceEqDiff,Nat.reduceBEq,Nat.reduceAdd,Nat.reduceSub,Nat.reduceLeDiff,ah ap,dV ap a8,hr,aY,h,hlt,hcut,hb1,hlv]
def tokB (kind:Int):List Val→Bool
 | .mk k t _::_=>(k==1)&&(t.kind==kind)
 | []=>false
theorem jl {kind:Int} {l:List Val} {t:Tok} (h:Sl.tokK kind l=some t):tokB kind l=true ∧ ∃ c r,l = .mk 1 t c::r∧t.kind=kind:=by
 cases l with
 | nil=>cases h
 | cons v r =>
  obtain ⟨k,u,c⟩:=v
  unfold Sl.tokK at h
  simp only at h
  split at h
  ·rename_i hh
   cases h
   obtain ⟨rfl,h2⟩:=hh
   exact ⟨by show (((1:Int)==1)&&(t.kind==kind))=true;rw[h2];simp,c,r,rfl,h2⟩
  ·cases h
theorem dT {kind:Int} {l:List Val} (h:Sl.tokK kind l=none):tokB kind l=false:=by
 cases l with
 | nil=>rfl
 | cons v r =>
  obtain ⟨k,u,c⟩:=v
  unfold Sl.tokK at h
  simp only at h
  split at h
  ·cases h
  ·rename_i hh
   show ((k==1)&&(u.kind==kind))=false
   rw[Bool.and_eq_false_iff,beq_eq_false_iff_ne,beq_eq_false_iff_ne]
   by_cases h1:k=1
   ·exact .inr fun h2=>hh ⟨h1,h2⟩
   ·exact .inl h1
theorem dk (l:List Val) (kind:Int) (hl:l.length≤100000000):den K 71 [P0,I kind] [rdB l]=some (.ret (B (tokB kind l)) [rdB l]):=by
 have hr:Tryz.f71.results = #[.tmp 4]:=rfl
 have h:=fU l hl
 cases l with
 | nil =>
  rw[ro] at h
  have q0:((0:Int)==1)=false:=rfl
  show _=(some (.ret (B false) [rdB []]):Option Res)
  simp only[rdB] at h ⊢
  refine ai rfl rfl Tryz.func71 rfl Tryz.ntmps71 ⟨by simp,by simp[LK]⟩ ?_
  simp only[go_sem,Nat.reduceLT,reduceCtorEq,Nat.reduceEqDiff,Nat.reduceBEq,Nat.reduceAdd,hr,h,q0]
 | cons v r =>
  obtain ⟨k,t,c⟩:=v
  rw[fy] at h
  show _=(some (.ret (B ((k==1)&&(t.kind==kind))) [rdB (.mk k t c::r)]):Option Res)
  simp only[rdB] at h ⊢
  cases e1:(k==1)
  ·refine ai rfl rfl Tryz.func71 rfl Tryz.ntmps71 ⟨by simp,by simp[LK]⟩ ?_
   simp only[go_sem,Nat.reduceLT,reduceCtorEq,Nat.reduceEqDiff,Nat.reduceBEq,Nat.reduceAdd,hr,h,e1]
  ·refine ai rfl rfl Tryz.func71 rfl Tryz.ntmps71 ⟨by simp,by simp[LK]⟩ ?_
   simp only[go_sem,Nat.reduceLT,reduceCtorEq,Nat.reduceEqDiff,Nat.reduceBEq,Nat.reduceAdd,Nat.reduceLeDiff,hr,h,e1]
abbrev ixtH (l:List (List UInt8)) (s:List UInt8) (i:Nat):St :=
  { sl:=upd (upd (upd (upd bot 8 (I i)) 7 (I l.length)) 1 (T s)) 0 (L (encT l)),bx:=nobox,nt:=19 }
noncomputable def ixtlp:Code := .loop (ao Tryz.f151 2)
theorem xN (l:List (List UInt8)) (s:List UInt8) (hl:l.length≤1000000000) : ∀ (rest:List (List UInt8)) (i:Nat),l.drop i=rest→i≤l.length →
  Ends (exL K 151 ixtlp (ixtH l s i)) fun o S=>match rest.findIdx? (s == ·) with
   | none=>o = .exit 0∧S.nt=19
   | some j=>o = .ret∧S.sl 4=I ((i+j:Nat):Int)
 | [],i,hd,hi=>by
  have hin:i=l.length:=by
   have:=List.drop_eq_nil_iff.1 hd
   omega
  subst hin
  have hlt:decide ((l.length:Int)<(l.length:Int))=false:=decide_eq_false (by omega)
  unfold ixtlp
  conv in ao _ _=>whnf
  rw[aw]
  simp only[go_sem,Nat.reduceLT,reduceCtorEq,Nat.reduceEqDiff,Nat.reduceBEq,ay,List.findIdx?_nil]
 | x::rest,i,hd,hi=>by
  obtain ⟨g1,g2,g3⟩:=bS hd
  have hlt:decide ((i:Int)<(l.length:Int))=true:=decide_eq_true (by omega)
  have hget:=JX l i x g1
  have ih:=xN l s hl rest (i+1) g2 (by omega)
  have hws:IntKind.i64.wrap ((i:Int)+1)=((i+1:Nat):Int):=bA i (by omega)
  unfold ixtlp at ih ⊢
  conv at ih in ao _ _=>whnf
  rw[List.findIdx?_cons]
  conv in ao _ _=>whnf
  rw[aw]
  cases hv:(s==x)
  ·rw[if_neg (by simp)]
   simp only[go_sem,Nat.reduceLT,reduceCtorEq,Nat.reduceEqDiff,Nat.reduceBEq,Nat.reduceAdd,ae aG,hlt,hget,Int.natCast_nonneg,hv,hws]
   rw[aB]
   simp only[go_sem,reduceCtorEq,Nat.reduceEqDiff]
   refine cm ih fun o S q => ?_
   cases hf:rest.findIdx? (s == ·) with
   | none=>rw[hf] at q;exact q
   | some j =>
    rw[hf] at q
    refine ⟨q.1,q.2.trans ?_⟩
    rw[show i+1+j=i+(j+1) by omega]
  ·rw[if_pos rfl]
   simp only[go_sem,Nat.reduceLT,reduceCtorEq,Nat.reduceEqDiff,Nat.reduceBEq,Nat.reduceAdd,ae aG,hlt,hget,Int.natCast_nonneg,hv,ay,Nat.add_zero]
theorem xX (l:List (List UInt8)) (s:List UInt8) (hl:l.length≤1000000000) :
  den K 151 [L (encT l),T s] []=some (.ret (I (ixI (l.findIdx? (s == ·)))) []):=by
 have hr:Tryz.f151.results = #[.tmp 4]:=rfl
 have h:=xN l s hl l 0 rfl (Nat.zero_le _)
 unfold ixtlp at h
 conv at h in ao _ _=>whnf
 obtain ⟨o,S',w,hq⟩:=h
 have z0:((0:Nat):Int)=0:=rfl
 simp only[ixtH,z0] at w
 refine ai rfl rfl Tryz.func151 rfl Tryz.ntmps151 ⟨by simp,by simp[LK]⟩ ?_
 cases hf:l.findIdx? (s == ·) with
 | none =>
  rw[hf] at hq
  obtain ⟨rfl,hn⟩:=hq
  unfold ixI
  simp only[go_sem,Nat.reduceLT,reduceCtorEq,Nat.reduceEqDiff,Nat.reduceBEq,Nat.reduceAdd,ah aG,ye]
  rw[aB]
  simp only[go_sem,reduceCtorEq,Nat.reduceEqDiff]
  erw [w]
  simp only[go_sem,Nat.reduceLT,Nat.reduceBEq,hr,hn]
 | some j =>
  rw[hf] at hq
  obtain ⟨rfl,h4⟩:=hq
  rw[Nat.zero_add] at h4
  unfold ixI
  simp only[go_sem,Nat.reduceLT,reduceCtorEq,Nat.reduceEqDiff,Nat.reduceBEq,Nat.reduceAdd,ah aG,ye]
  rw[aB]
  simp only[go_sem,reduceCtorEq,Nat.reduceEqDiff]
  erw [w]
  simp only[go_sem,hr,h4]
theorem jx (l:List (List UInt8)) (s:List UInt8) (hl:l.length≤1000000000) :
  den K 106 [L (encT l),T s] []=some (.ret (B (l.any (s == ·))) []):=by
 have hr:Tryz.f106.results = #[.tmp 4]:=rfl
 have h:=xX l s hl
 rw[←Eu]
 refine ai rfl rfl Tryz.func106 rfl Tryz.ntmps106 ⟨by simp,by simp[LK]⟩ ?_
 simp only[go_sem,Nat.reduceLT,reduceCtorEq,Nat.reduceEqDiff,Nat.reduceBEq,Nat.reduceAdd,hr,h]
def mZ (ss:List (List UInt8)):List Val→Option (List UInt8×List Val)
 | .mk k t _::r=>if k=1∧t.kind=7∧t.n=0∧ss.any (t.text == ·)=true then some (t.text,r) else none
 | []=>none
def tP (ss:List (List UInt8)) (l:List Val):Option Res:=match mZ ss l with
 | some (s,r)=>some (.ret (T s) [rdB r])
 | none=>some (.ret (T []) [rdB l])
set_option maxHeartbeats 4000000 in
theorem kM (l:List Val) (ss:List (List UInt8)) (hl:l.length≤90000000) (hs:ss.length≤1000):den K 78 [P0,L (encT ss)] [rdB l]=tP ss l:=by
 have hr:Tryz.f78.results = #[.tmp 4]:=rfl
 have h:=fU l (by omega)
 have ht:=dk l 7 (by omega)
 unfold tP
 cases l with
 | nil =>
  rw[ro] at h
  simp only[mZ,rdB,tokB] at h ht ⊢
  refine ai rfl rfl Tryz.func78 rfl Tryz.ntmps78 ⟨by simp,by simp[LK]⟩ ?_
  simp only[go_sem,Nat.reduceLT,reduceCtorEq,Nat.reduceEqDiff,Nat.reduceBEq,Nat.reduceAdd,Nat.reduceSub,Nat.reduceLeDiff,hr,h,ht]
 | cons v r =>
  obtain ⟨k,t,c⟩:=v
  rw[fy] at h
  have hk:=eX k t c r (by rw[List.length_cons] at hl;omega)
  have hc:=jx ss t.text (by omega)
  rw[fy] at hk
  simp only[mZ,rdB,tokB] at h ht hk ⊢
  cases e1:(k==1)
  ·have n1:k≠1:=by simpa using e1
   rw[if_neg fun h=>n1 h.1]
   refine ai rfl rfl Tryz.func78 rfl Tryz.ntmps78 ⟨by simp,by simp[LK]⟩ ?_
   simp only[go_sem,Nat.reduceLT,reduceCtorEq,Nat.reduceEqDiff,Nat.reduceBEq,Nat.reduceAdd,Nat.reduceSub,Nat.reduceLeDiff,hr,h,ht,e1]
  ·have n1:k=1:=by simpa using e1
   cases e2:(t.kind==7)
   ·have n2:t.kind≠7:=by simpa using e2
    rw[if_neg fun h=>n2 h.2.1]
    refine ai rfl rfl Tryz.func78 rfl Tryz.ntmps78 ⟨by simp,by simp[LK]⟩ ?_
    simp only[go_sem,Nat.reduceLT,reduceCtorEq,Nat.reduceEqDiff,Nat.reduceBEq,Nat.reduceAdd,Nat.reduceSub,Nat.reduceLeDiff,hr,h,ht,e1,e2]
   ·have n2:t.kind=7:=by simpa using e2
    cases e3:(t.n==0)
    ·have n3:t.n≠0:=by simpa using e3
     rw[if_neg fun h=>n3 h.2.2.1]
     refine ai rfl rfl Tryz.func78 rfl Tryz.ntmps78 ⟨by simp,by simp[LK]⟩ ?_
     simp only[go_sem,Nat.reduceLT,reduceCtorEq,Nat.reduceEqDiff,Nat.reduceBEq,Nat.reduceAdd,Nat.reduceSub,Nat.reduceLeDiff,hr,h,ht,e1,e2,e3]
    ·have n3:t.n=0:=by simpa using e3
     cases e4:ss.any (t.text == ·)
     ·rw[if_neg fun h=>absurd h.2.2.2 (by simp)]
      refine ai rfl rfl Tryz.func78 rfl Tryz.ntmps78 ⟨by simp,by simp[LK]⟩ ?_
      simp only[go_sem,Nat.reduceLT,reduceCtorEq,Nat.reduceEqDiff,Nat.reduceBEq,Nat.reduceAdd,Nat.reduceSub,Nat.reduceLeDiff,hr,h,ht,e1,e2,e3,hc,e4]
     ·rw[if_pos ⟨n1,n2,n3,rfl⟩]
      refine ai rfl rfl Tryz.func78 rfl Tryz.ntmps78 ⟨by simp,by simp[LK]⟩ ?_
      simp only[go_sem,Nat.reduceLT,reduceCtorEq,Nat.reduceEqDiff,Nat.reduceBEq,Nat.reduceAdd,Nat.reduceSub,Nat.reduceLeDiff,hr,h,ht,e1,e2,e3,hc,e4,hk]
theorem tH (s:List UInt8) (l:List Val):mZ [s] l=(Sl.sign s l).map fun r=>(s,r):=by
 cases l with
 | nil=>rfl
 | cons v r =>
  obtain ⟨k,t,c⟩:=v
  have hs:Sl.aU s (.mk k t c)=true↔k=1∧t=⟨7,s,0⟩:=by
   show ((k==1)&&decide (t=⟨7,s,0⟩))=true↔_
   simp
  unfold mZ Sl.sign
  simp only[List.any_cons,List.any_nil,Bool.or_false,beq_iff_eq]
  by_cases h:k=1∧t.kind=7∧t.n=0∧t.text=s
  ·obtain ⟨h1,h2,h3,h4⟩:=h
   have e:t=⟨7,s,0⟩:=by cases t;simp_all
   rw[if_pos ⟨h1,h2,h3,h4⟩,if_pos (hs.2 ⟨h1,e⟩),h4]
   rfl
  ·rw[if_neg h,if_neg fun x=>h (by obtain ⟨x1,x2⟩:=hs.1 x;rw[x2];exact ⟨x1,rfl,rfl,rfl⟩)]
   rfl
theorem gP {s:List UInt8} {l r:List Val} (hl:l.length≤90000000) (h:Sl.sign s l=some r):den K 78 [P0,L [[.str s]]] [rdB l]=some (.ret (T s) [rdB r]):=by
 have:=kM l [s] hl (by simp)
 unfold tP at this
 rw[tH,h] at this
 exact this
theorem eS {s:List UInt8} {l:List Val} (hl:l.length≤90000000) (h:Sl.sign s l=none):den K 78 [P0,L [[.str s]]] [rdB l]=some (.ret (T []) [rdB l]):=by
 have:=kM l [s] hl (by simp)
 unfold tP at this
 rw[tH,h] at this
 exact this
theorem rK (v:Val) (r:List Val):tokB 8 (v::r)=Sl.aq v:=by obtain ⟨k,t,c⟩:=v;rfl
abbrev wE (l:List Val) (w:Bool):St := { sl:=upd (upd bot 3 (B w)) 0 P0,bx:=upd nobox 100000 (some (rdB l)),nt:=9 }
noncomputable def rdblp:Code := .loop (ao Tryz.f141 2)
theorem Et (v:Val) (r:List Val) (w:Bool) (hl:r.length≤80000000) (hb:Sl.aq v=true) :
  exL K 141 rdblp (wE (v::r) w)=exL K 141 rdblp (wE r true):=by
 have ht:=dk (v::r) 8 (by rw[List.length_cons];omega)
 rw[rK,hb] at ht
 obtain ⟨k,t,c⟩:=v
 have hk:=eX k t c r (by omega)
 rw[fy] at hk
 simp only[rdB] at ht hk
 unfold rdblp
 conv in ao _ _=>whnf
 conv in ao _ _=>whnf
 conv in exL _ _ _ (wE (.mk k t c::r) w)=>rw[aw]
 simp only[go_sem,Nat.reduceLT,reduceCtorEq,Nat.reduceEqDiff,Nat.reduceBEq,Nat.reduceAdd,ht,hk]
 rw[aB]
 simp only[go_sem,reduceCtorEq,Nat.reduceEqDiff]
theorem Bq (l:List Val) (w:Bool) (hl:l.length≤80000000) (hb:tokB 8 l=false) :
  Ends (exL K 141 rdblp (wE l w)) fun o S=>o = .exit 0∧S.nt=9∧S.sl 0=P0∧S.sl 3=B w∧S.bx 100000=some (rdB l):=by
 have ht:=dk l 8 (by omega)
 rw[hb] at ht
 simp only[rdB] at ht
 unfold rdblp
 conv in ao _ _=>whnf
 rw[aw]
 simp only[go_sem,Nat.reduceLT,reduceCtorEq,Nat.reduceEqDiff,Nat.reduceBEq,Nat.reduceAdd,ht,ay]
theorem uQ : ∀ (l:List Val) (w:Bool),l.length≤80000000→Ends (exL K 141 rdblp (wE l w)) fun o S=>o = .exit 0∧S.nt=9∧S.sl 0=P0∧S.sl 3=B (w||decide ((l.dropWhile Sl.aq).length<l.length))∧S.bx 100000=some (rdB (l.dropWhile Sl.aq))
 | [],w,hl=>by
  have:=Bq [] w hl rfl
  simpa using this
 | v::r,w,hl=>by
  rw[List.length_cons] at hl
  cases hb:Sl.aq v with
  | true =>
   rw[Et v r w (by omega) hb,List.dropWhile_cons,if_pos hb]
   have hlen:=(List.dropWhile_sublist Sl.aq (l:=r)).length_le
   have e:decide ((r.dropWhile Sl.aq).length<(v::r).length)=true:=decide_eq_true (by rw[List.length_cons];omega)
   rw[e,Bool.or_true]
   refine cm (uQ r true (by omega)) fun o S q => ?_
   rw[Bool.true_or] at q
   exact q
  | false =>
   rw[List.dropWhile_cons,if_neg (by rw[hb];simp)]
   have:=Bq (v::r) w (by rw[List.length_cons];omega) (by rw[rK,hb])
   simpa using this
theorem kK (l:List Val) (hl:l.length≤80000000):den K 141 [P0] [rdB l]=some (.ret (B (decide ((l.dropWhile Sl.aq).length<l.length))) [rdB (l.dropWhile Sl.aq)]):=by
 have hr:Tryz.f141.results = #[.tmp 2]:=rfl
 have h:=uQ l false hl
 rw[Bool.false_or] at h
 unfold rdblp at h
 conv at h in ao _ _=>whnf
 obtain ⟨o,S,w,rfl,hn,s0,s3,b1⟩:=h
 refine ai rfl rfl Tryz.func141 rfl Tryz.ntmps141 ⟨by simp,by simp[LK]⟩ ?_
 simp only[go_sem,Nat.reduceLT,Nat.reduceBEq]
 rw[aB]
 simp only[go_sem,reduceCtorEq,Nat.reduceEqDiff]
 erw [w]
 simp only[go_sem,Nat.reduceLT,Nat.reduceEqDiff,Nat.reduceBEq,Nat.reduceAdd,hr,hn,s3,b1]
def gF {α:Type} (enc:α→AV) (o:Option (α×List Val)) (r:Option Res):Prop:=match o with
 | some (x,m)=>r=some (.ret (enc x) [rdB m])
 | none => ∃ m,r=some (.pan du [rdB m])
theorem iu (l:List Val) (hl:l.length≤80000000):gF T (Sl.name l) (den K 73 [P0] [rdB l]):=by
 have hr:Tryz.f73.results = #[.tmp 2]:=rfl
 have ht:=dk l 1 (by omega)
 unfold Sl.name
 cases hk:Sl.tokK 1 l with
 | none =>
  rw[dT hk] at ht
  have hm:=gk
  refine ⟨l,?_⟩
  simp only[rdB] at ht ⊢
  refine ai rfl rfl Tryz.func73 rfl Tryz.ntmps73 ⟨by simp,by simp[LK]⟩ ?_
  simp only[go_sem,Nat.reduceLT,reduceCtorEq,Nat.reduceEqDiff,Nat.reduceBEq,hr,ht,hm]
 | some t =>
  obtain ⟨e,c,r,rfl,h1⟩:=jl hk
  rw[e] at ht
  have hm:=eC
  have htk:=eX 1 t c r (by rw[List.length_cons] at hl;omega)
  rw[fy] at htk
  show den K 73 [P0] [rdB (.mk 1 t c::r)]=some (.ret (T t.text) [rdB r])
  simp only[rdB] at ht htk ⊢
  refine ai rfl rfl Tryz.func73 rfl Tryz.ntmps73 ⟨by simp,by simp[LK]⟩ ?_
  simp only[go_sem,Nat.reduceLT,reduceCtorEq,Nat.reduceEqDiff,Nat.reduceBEq,Nat.reduceAdd,Nat.reduceLeDiff,hr,ht,hm,htk]
theorem uK (l:List Val) (hl:l.length≤80000000):gF I (Sl.numP l) (den K 76 [P0] [rdB l]):=by
 have hr:Tryz.f76.results = #[.tmp 2]:=rfl
 have ht:=dk l 5 (by omega)
 unfold Sl.numP
 cases hk:Sl.tokK 5 l with
 | none =>
  rw[dT hk] at ht
  have hm:=gk
  refine ⟨l,?_⟩
  simp only[rdB] at ht ⊢
  refine ai rfl rfl Tryz.func76 rfl Tryz.ntmps76 ⟨by simp,by simp[LK]⟩ ?_
  simp only[go_sem,Nat.reduceLT,reduceCtorEq,Nat.reduceEqDiff,Nat.reduceBEq,hr,ht,hm]
 | some t =>
  obtain ⟨e,c,r,rfl,h1⟩:=jl hk
  rw[e] at ht
  have hx:=fU (.mk 1 t c::r) (by omega)
  have htk:=eX 1 t c r (by rw[List.length_cons] at hl;omega)
  rw[fy] at htk hx
  simp only
  by_cases hs:t.text=[]
  ·rw[if_pos hs]
   have hm:=eC
   have e0:(t.text==[])=true:=by rw[hs];rfl
   show den K 76 [P0] [rdB (.mk 1 t c::r)]=some (.ret (I t.n) [rdB r])
   simp only[rdB] at ht htk hx ⊢
   refine ai rfl rfl Tryz.func76 rfl Tryz.ntmps76 ⟨by simp,by simp[LK]⟩ ?_
   simp only[go_sem,Nat.reduceLT,reduceCtorEq,Nat.reduceEqDiff,Nat.reduceBEq,Nat.reduceAdd,Nat.reduceLeDiff,hr,ht,hm,hx,htk,e0]
  ·rw[if_neg hs]
   have hm:=gk
   have e0:(t.text==[])=false:=by rw[beq_eq_false_iff_ne];exact hs
   refine ⟨.mk 1 t c::r,?_⟩
   simp only[rdB] at ht htk hx ⊢
   refine ai rfl rfl Tryz.func76 rfl Tryz.ntmps76 ⟨by simp,by simp[LK]⟩ ?_
   simp only[go_sem,Nat.reduceLT,reduceCtorEq,Nat.reduceEqDiff,Nat.reduceBEq,Nat.reduceAdd,Nat.reduceLeDiff,hr,ht,hm,hx,e0]
def Km:List Sim→CV
 | [] => .nils
 | x::l => .pv (.sl (Sim.encL (x::l)))
def ii:Sim→List CV
 | .mk k n v a b l=>[.pv (.int .i64 k),.pv (.str n),.pv (.str v),.pv (.int .i64 a),.pv (.int .i64 b),Km l]
theorem cT (k:Int) (n v:List UInt8) (a b:Int):ii (.mk k n v a b [])=[.pv (.int .i64 k),.pv (.str n),.pv (.str v),.pv (.int .i64 a),.pv (.int .i64 b),.nils]:=rfl
def TSh (l:List Val):Prop := ∀ t∈Ne.flat l,t.text.length<1000000000
theorem sk {l m:List Val} (h:TSh l) (hs : ∀ v∈m,v∈l):TSh m:=fun t ht=>by
 obtain ⟨v,hv,ht⟩:=Sl.eB.1 ht
 exact h t (Sl.eB.2 ⟨v,hs v hv,ht⟩)
theorem qz {l:List Val} (h:TSh l):TSh (Sl.trim l):=sk h fun v hv=>Sl.iR hv
theorem FC {t:Tok} {c l:List Val} (h:TSh (.mk 1 t c::l)):t.text.length<1000000000:=h t (Sl.eB.2 ⟨.mk 1 t c,by simp,by rw[Ne.iL,if_pos rfl];simp⟩)
theorem KZ {l:List Val} {i:Nat} {t:Tok} {c:List Val} (h:TSh l) (hi:l[i]? = some (.mk 5 t c)):TSh c:=by
 have hm:Val.mk 5 t c∈l:=List.mem_of_getElem? hi
 exact fun x hx=>h x (Sl.eB.2 ⟨_,hm,by rw[Ne.iL,if_neg (by decide),if_pos rfl];simp[hx]⟩)
theorem jk (a b:List Val):Ne.size (a++b)=Ne.size a+Ne.size b:=by
 induction a with
 | nil=>rw[Ne.size];simp
 | cons v a ih=>rw[List.cons_append,Ne.size,Ne.size,ih];omega
theorem rf (p:Val→Bool) (l:List Val):Ne.size (l.dropWhile p)≤Ne.size l:=by
 have h:l.takeWhile p++l.dropWhile p=l:=List.takeWhile_append_dropWhile
 have:=jk (l.takeWhile p) (l.dropWhile p)
 rw[h] at this
 omega
theorem ur (l:List Val):Ne.size l.reverse=Ne.size l:=by
 induction l with
 | nil=>rfl
 | cons v l ih =>
  rw[List.reverse_cons,jk,ih,Ne.size,Ne.size,Ne.size]
  omega
theorem nk (l:List Val):Ne.size (Sl.trim l)≤Ne.size l:=by
 unfold Sl.trim
 rw[ur]
 have h1:=rf Sl.aq (l.dropWhile Sl.aq).reverse
 have h2:=rf Sl.aq l
 rw[ur] at h1
 omega
def i8 (g:List Val→Option (Sim×List Val)) (first:Bool) (l:List Val):Option (Sim×List Val) :=
  match (if first then Sl.tokK 1 l else none) with
  | some t=>some (.mk 2 (Sl.low t.text) [] 0 0 [],l.tail)
  | none =>
  match (if first then Sl.sign [42] l else none) with
  | some r=>some (.mk 1 [] [] 0 0 [],r)
  | none =>
  match Sl.tokK 4 l with
  | some t=>some (.mk 3 t.text [] 0 0 [],l.tail)
  | none =>
  match Sl.sign [46] l with
  | some r=>(Sl.name r).map fun x=>(.mk 4 x.1 [] 0 0 [],x.2)
  | none =>
  match Sl.sign [58] l with
  | some r=>Sl.colon g r
  | none =>
  match Sl.gu 3 l with
  | some x=>(Sl.attr x.1.2).map fun y=>(y,x.2)
  | none=>none
theorem yS (f:Nat) (first:Bool) (l:List Val):Sl.simple (f+1) first l=i8 (Sl.simple f true) first l:=rfl
def notG (g:List Val→Option (Sim×List Val)) (c:List Val):Option Sim :=
 match g (Sl.trim c) with
 | some (x,[])=>if x.kind=11 then none else some (.mk 11 [] [] 0 0 [x])
 | _=>none
theorem eK (k:Int) (n v:List UInt8) (a b:Int) (x:Sim) (l:List Sim):ii (.mk k n v a b (x::l))=[.pv (.int .i64 k),.pv (.str n),.pv (.str v),.pv (.int .i64 a),.pv (.int .i64 b),.pv (.sl (Sim.encL (x::l)))]:=rfl
theorem F6 (x:Sim):Sim.encL [x]=[x.enc]:=rfl
theorem Hl (k:Int) (n v:List UInt8) (a b:Int):(Sim.mk k n v a b []).enc=[.int .i64 k,.str n,.str v,.int .i64 a,.int .i64 b,.sl []]:=rfl
theorem GF (k:Int) (n v:List UInt8) (a b:Int) (x:Sim) (l:List Sim):(Sim.mk k n v a b (x::l)).enc=[.int .i64 k,.str n,.str v,.int .i64 a,.int .i64 b,.sl (Sim.encL (x::l))]:=rfl
def nthA (x:Option (Int×Int)):AV:=match x with
 | some x => .tup [.c (.pv (.int .i64 x.1)),.c (.pv (.int .i64 x.2)),.c (.pv (.int .i64 0))]
 | none => .tup [.c (.pv (.int .i64 0)),.c (.pv (.int .i64 0)),.c (.pv (.int .i64 40))]
theorem oH (l:List Sim):(Sim.encL l).length=l.length:=by rw[Sim.encL_map,List.length_map]
theorem Cj (l:List Sim):lens 6 (Sim.encL l)=true:=by
 rw[Sim.encL_map]
 simp only[lens,List.all_map,List.all_eq_true]
 intro x _
 obtain ⟨k,n,v,a,b,xl⟩:=x
 rfl
theorem F3 (a b c d e f:PV):lens 6 [[a,b,c,d,e,f]]=true:=rfl
theorem xq (a b:List Sim):Sim.encL (a++b)=Sim.encL a++Sim.encL b:=by rw[Sim.encL_map,Sim.encL_map,Sim.encL_map,List.map_append]
theorem HC (acc:List Sim) (k:Int) (n v:List UInt8) (a b:Int):Sim.encL acc++[[.int .i64 k,.str n,.str v,.int .i64 a,.int .i64 b,.sl []]]=Sim.encL (acc++[.mk k n v a b []]):=by rw[xq];rfl
theorem H1 (acc:List Sim) (k:Int) (n v:List UInt8) (a b:Int) (x:Sim) (xl:List Sim):Sim.encL acc++[[.int .i64 k,.str n,.str v,.int .i64 a,.int .i64 b,.sl (Sim.encL (x::xl))]]=Sim.encL (acc++[.mk k n v a b (x::xl)]):=by rw[xq];rfl
def Prt.enc (p:Prt):List PV:=[.int .i64 p.comb,.sl (p.l.map Sim.enc)]
def Cpx.enc (c:Cpx):List PV:=[.sl (c.parts.map Prt.enc),.str c.pseudo]
attribute [local go_sem] g7 eU fS kf iI fe jv g9 dh gJ fZ fA eF fg jc
theorem aK {α:Type} {ops ops' ops2:List Oper} {n j i n' j' i' n2 j2 i2:Nat} {a b:α} (h:(reach ops n j i&&(reach ops' n' j' i'&&reach ops2 n2 j2 i2))=true):(if (reach ops n j i&&(reach ops' n' j' i'&&reach ops2 n2 j2 i2))=true then a else b)=a:=if_pos h
abbrev encQ (l:List Prt):List (List PV):=l.map Prt.enc
theorem lO (l:List Prt):(encQ l).length=l.length:=List.length_map ..
theorem o0 (l:List Prt):lens 2 (encQ l)=true:=by
 simp only[lens,List.all_map,List.all_eq_true]
 intro x _
 rfl
theorem r9 (a b:PV):lens 2 [[a,b]]=true:=rfl
theorem rI (l:List Prt) (cb:Int) (acc:List Sim):encQ l++[[.int .i64 cb,.sl (Sim.encL acc)]]=encQ (l++[⟨cb,acc⟩]):=by
 show _=(l++[(⟨cb,acc⟩:Prt)]).map Prt.enc
 rw[List.map_append,Sim.encL_map];rfl
attribute [local go_sem] Hf
theorem iW {u:Nat} (h:u<10):Lib.decDigits u=[UInt8.ofNat (48+u)]:=by rw[Lib.decDigits,dif_pos h]
theorem mS {u:Nat} (h : ¬ u<10):Lib.decDigits u=Lib.decDigits (u / 10)++[UInt8.ofNat (48+u % 10)]:=by rw[Lib.decDigits,dif_neg h]
theorem x8 (u:Nat):(u:Int).tdiv 10=((u / 10:Nat):Int):=rfl
theorem F5 (u:Nat):(u:Int).tmod 10=((u % 10:Nat):Int):=rfl
theorem rR:((10:Int)=0)=False:=by simp
theorem sl0:(0+1<bT)=True:=by simp[bT]
theorem sl1:(1+1<bT)=True:=by simp[bT]
theorem Gu {n:Int} (h:n<0):Lib.itoa n=45::Lib.decDigits n.natAbs:=by unfold Lib.itoa;rw[if_pos h]
theorem nX {n:Int} (h:0≤n):Lib.itoa n=Lib.decDigits n.toNat:=by unfold Lib.itoa;rw[if_neg (by omega)]
set_option maxHeartbeats 4000000 in
theorem AQ : ∀ (k:Nat) (n:Int),n.natAbs≤k→I64 n→den K 27 [I n] []=some (.ret (T (Lib.itoa n)) []):=by
 intro k
 induction k with
 | zero =>
  intro n hk hn
  have:n=0:=by omega
  subst this
  refine ai rfl rfl Tryz.func27 rfl Tryz.ntmps27 ⟨by simp,by simp[LK]⟩ ?_
  have hr:Tryz.f27.results = #[.tmp 2]:=rfl
  have e:Lib.itoa 0=[48]:=by rw[nX (by omega)];exact iW (by omega)
  rw[e]
  have w1:IntKind.i64.wrap 48=48:=by decide
  have w2:IntKind.u8.wrap 48=48:=by decide
  simp[go_sem,Nat.reduceLT,reduceCtorEq,Nat.reduceEqDiff,Nat.reduceBEq,dl dF dZ,am (len:=1) ee kc fN ⟨rfl,by decide,by decide⟩,fT ee al,bytesOf,rR,w1,w2]
 | succ k ih =>
  intro n hk hn
  have hr:Tryz.f27.results = #[.tmp 2]:=rfl
  have hlen:=ov hn
  by_cases hneg:n<0
  ·have hl:decide (n<0)=true:=decide_eq_true hneg
   have hq:n.tdiv 10 = -(((n.natAbs / 10:Nat)):Int):=by
    obtain ⟨u,rfl⟩ : ∃ u:Nat,n = -(u:Int):=⟨n.natAbs,by omega⟩
    rw[Int.neg_tdiv,x8];simp only[Int.natAbs_neg,Int.natAbs_natCast]
   have hm:n.tmod 10 = -(((n.natAbs % 10:Nat)):Int):=by
    obtain ⟨u,rfl⟩ : ∃ u:Nat,n = -(u:Int):=⟨n.natAbs,by omega⟩
    rw[Int.neg_tmod,F5];simp only[Int.natAbs_neg,Int.natAbs_natCast]
   have w1:IntKind.i64.wrap (n.tdiv 10)=n.tdiv 10:=IntWalk.i64_in _ (by have:=hn.1;have:=hn.2;omega)
   have w3:IntKind.i64.wrap (48 - n.tmod 10)=((48+n.natAbs % 10:Nat):Int):=by rw[IntWalk.i64_in _ (by omega),hm];omega
   have w4:IntKind.u8.wrap ((48+n.natAbs % 10:Nat):Int)=((48+n.natAbs % 10:Nat):Int):=IntWalk.u8_in _ (by omega)
   rw[Gu hneg] at hlen ⊢
   by_cases hs:n.natAbs<10
   ·have hq0:decide (n.tdiv 10<0)=false:=decide_eq_false (by omega)
    rw[iW hs]
    have hmm:n.natAbs % 10=n.natAbs:=Nat.mod_eq_of_lt hs
    rw[hmm] at w3 w4
    refine ai rfl rfl Tryz.func27 rfl Tryz.ntmps27 ⟨by simp,by simp[LK]⟩ ?_
    simp only[go_sem,Nat.reduceLT,reduceCtorEq,Nat.reduceEqDiff,Nat.reduceBEq,Nat.reduceAdd,Nat.reduceMul,dl dF dZ,am (len:=1) ee kc fN ⟨rfl,by decide,by decide⟩,fT ee al,hr,bytesOf,rR,Int.toNat_natCast,sl0,sl1,hl,hq0,w1,w3,w4]
   ·have hq1:decide (n.tdiv 10<0)=true:=decide_eq_true (by omega)
    have w2:IntKind.i64.wrap (0 - n.tdiv 10)=((n.natAbs / 10:Nat):Int):=by rw[IntWalk.i64_in _ (by have:=hn.1;have:=hn.2;omega)];omega
    have hc:=ih ((n.natAbs / 10:Nat):Int) (by omega) ⟨by omega,by have:=hn.1;have:=hn.2;omega⟩
    rw[nX (by omega),Int.toNat_natCast] at hc
    rw[mS hs] at hlen ⊢
    have s1:1+(Lib.decDigits (n.natAbs / 10)).length<bT:=by simp at hlen;simp[bT];omega
    have s2:(Lib.decDigits (n.natAbs / 10)).length+1+1<bT:=by simp at hlen;simp[bT];omega
    refine ai rfl rfl Tryz.func27 rfl Tryz.ntmps27 ⟨by simp,by simp[LK]⟩ ?_
    simp only[go_sem,Nat.reduceLT,reduceCtorEq,Nat.reduceEqDiff,Nat.reduceBEq,Nat.reduceAdd,Nat.reduceMul,dl dF dZ,am (len:=1) ee kc fN ⟨rfl,by decide,by decide⟩,fT ee al,hr,bytesOf,rR,Int.toNat_natCast,hl,hq1,w1,w2,w3,w4,hc,s1,s2]
  ·have hl:decide (n<0)=false:=decide_eq_false hneg
   obtain ⟨u,rfl⟩ : ∃ u:Nat,n=u:=⟨n.toNat,by omega⟩
   have hm:(u:Int).tmod 10=((u % 10:Nat):Int):=rfl
   have w3:IntKind.i64.wrap (48+(u:Int).tmod 10)=((48+u % 10:Nat):Int):=by rw[hm,IntWalk.i64_in _ (by omega)];omega
   have w4:IntKind.u8.wrap ((48+u % 10:Nat):Int)=((48+u % 10:Nat):Int):=IntWalk.u8_in _ (by omega)
   rw[nX (by omega),Int.toNat_natCast] at hlen ⊢
   by_cases hs:u<10
   ·have hg:decide ((10:Int)≤(u:Int))=false:=decide_eq_false (by omega)
    rw[iW hs]
    have hmm:u % 10=u:=Nat.mod_eq_of_lt hs
    rw[hmm] at w3 w4
    refine ai rfl rfl Tryz.func27 rfl Tryz.ntmps27 ⟨by simp,by simp[LK]⟩ ?_
    simp only[go_sem,Nat.reduceLT,reduceCtorEq,Nat.reduceEqDiff,Nat.reduceBEq,Nat.reduceAdd,Nat.reduceMul,dl dF dZ,am (len:=1) ee kc fN ⟨rfl,by decide,by decide⟩,fT ee al,hr,bytesOf,rR,Int.toNat_natCast,hl,hg,w3,w4]
   ·have hg:decide ((10:Int)≤(u:Int))=true:=decide_eq_true (by omega)
    have w1:IntKind.i64.wrap ((u:Int).tdiv 10)=((u / 10:Nat):Int):=by rw[x8,IntWalk.i64_in _ (by have:=hn.2;omega)]
    have hc:=ih ((u / 10:Nat):Int) (by omega) ⟨by omega,by have:=hn.2;omega⟩
    rw[nX (by omega),Int.toNat_natCast] at hc
    rw[mS hs] at hlen ⊢
    have s1:(Lib.decDigits (u / 10)).length+1<bT:=by simp at hlen;simp[bT];omega
    refine ai rfl rfl Tryz.func27 rfl Tryz.ntmps27 ⟨by simp,by simp[LK]⟩ ?_
    simp only[go_sem,Nat.reduceLT,reduceCtorEq,Nat.reduceEqDiff,Nat.reduceBEq,Nat.reduceAdd,Nat.reduceMul,dl dF dZ,am (len:=1) ee kc fN ⟨rfl,by decide,by decide⟩,fT ee al,hr,bytesOf,rR,Int.toNat_natCast,hl,hg,w1,w3,w4,hc,s1]
theorem Cd (n:Int) (h:I64 n):den K 27 [I n] []=some (.ret (T (Lib.itoa n)) []):=AQ n.natAbs n (Nat.le_refl _) h
set_option maxHeartbeats 4000000 in
theorem EJ (t:Tok) (hn:I64 t.n) (hl:t.text.length<1000000000000):den K 109 [.agg t.cells] []=some (.ret (T (oneS t)) []):=by
 obtain ⟨k,s,n⟩:=t
 refine ai rfl rfl Tryz.func109 rfl Tryz.ntmps109 ⟨by simp,by simp[LK]⟩ ?_
 have hr:Tryz.f109.results = #[.tmp 2]:=rfl
 have hit:=Cd n hn
 have hi:=ov hn
 simp only at hl hi
 have l1:s.length+1<bT:=by simp[bT];omega
 have l1':1+s.length<bT:=by simp[bT];omega
 have l2:(Lib.itoa n).length+s.length<bT:=by simp[bT];omega
 have l3:1+s.length+1<bT:=by simp[bT];omega
 have l4:s.length+5<bT:=by simp[bT];omega
 have l7:s.length+1+1<bT:=by simp[bT];omega
 have hk:k=1∨k=2∨k=3∨k=4∨k=5∨k=6∨k=7∨k=8∨(k≠1∧k≠2∧k≠3∧k≠4∧k≠5∧k≠6∧k≠7∧k≠8):=by omega
 rcases hk with rfl|rfl|rfl|rfl|rfl|rfl|rfl|rfl|⟨h1,h2,h3,h4,h5,h6,h7,h8⟩
 ·simp[go_sem,Nat.reduceLT,Nat.reduceEqDiff,Nat.reduceBEq,Nat.reduceAdd,Tok.cells,oneS]
 ·simp[go_sem,Nat.reduceLT,Nat.reduceEqDiff,Nat.reduceBEq,Nat.reduceAdd,Tok.cells,oneS,l1]
 ·simp[go_sem,Nat.reduceLT,Nat.reduceEqDiff,Nat.reduceBEq,Nat.reduceAdd,Tok.cells,oneS,l1']
 ·simp[go_sem,Nat.reduceLT,Nat.reduceEqDiff,Nat.reduceBEq,Nat.reduceAdd,Tok.cells,oneS,l1']
 ·simp[go_sem,Nat.reduceLT,reduceCtorEq,Nat.reduceEqDiff,Nat.reduceBEq,Nat.reduceAdd,Tok.cells,oneS,hit,l2]
 ·by_cases h:n=39<;>simp[go_sem,Nat.reduceLT,Nat.reduceEqDiff,Nat.reduceBEq,Nat.reduceAdd,Tok.cells,oneS,h,l1',l7]
 ·by_cases h:s=[34]
  ·simp[go_sem,Nat.reduceLT,Nat.reduceEqDiff,Nat.reduceBEq,Nat.reduceAdd,Tok.cells,oneS,h,bT]
  ·have e:(s==[34])=false:=by simp[h]
   by_cases h':s=[39]
   ·simp[go_sem,Nat.reduceLT,Nat.reduceEqDiff,Nat.reduceBEq,Nat.reduceAdd,Tok.cells,oneS,h',bT]
   ·have e':(s==[39])=false:=by simp[h']
    simp[go_sem,Nat.reduceLT,Nat.reduceEqDiff,Nat.reduceBEq,Nat.reduceAdd,Tok.cells,oneS,e,e',h,h']
 ·simp[go_sem,Nat.reduceLT,Nat.reduceEqDiff,Nat.reduceBEq,Nat.reduceAdd,Tok.cells,oneS]
 ·simp[go_sem,Nat.reduceLT,Nat.reduceEqDiff,Nat.reduceBEq,Nat.reduceAdd,Tok.cells,oneS,h1,h2,h3,h4,h5,h6,h7,h8]
end Go.Abs
namespace Go.Abs
open Go Go.Proofs
set_option maxRecDepth 100000
def BE:List TypeId:=[4,3,9,91,60,93,23,52,48,50,45,47,31]
theorem Eh:qU Tryz.prog BE=true:=by kernel_rfl
end Go.Abs
