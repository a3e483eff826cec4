/-
  WHAT THE FUNCTIONS COMPUTE, layer 1: the tokens of a text.
  WHAT THE FUNCTIONS COMPUTE, layer 2: parsing; whether values may be.
  WHAT THE FUNCTIONS COMPUTE, layer 4, the document's reader of selectors: lists of them; texts.
  WHAT THE FUNCTIONS COMPUTE, layer 4, the program's reader of selectors: a complex selector.
  WHAT THE FUNCTIONS COMPUTE, layer 2: nest.May.
  WHAT THE FUNCTIONS COMPUTE, layer 3: the text of values, the values of a text.
  WHAT THE FUNCTIONS COMPUTE, layer 4, the program's reader of selectors: lists of them; texts.
  SELECTORS THAT WERE PARSED: they are the same as themselves, may be, and are of little.
-/
import Derived.Lib.ItoaLen
import Derived.Lib.Join
import Derived.Test.YtlomcifkckgneaaGreatDoorRa1
import Derived.Test.YtlomcifkckgneaaGreatDoorRa4
import Derived.Test.YtlomcifkckgneaaGreatDoorRa6
import Derived.Test.YtlomcifkckgneaaGreatDoorRa7
import Derived.Test.YtlomcifkckgneaaGreatDoorRa11
import Derived.Test.YtlomcifkckgneaaGreatDoorRa14
import Derived.Test.YtlomcifkckgneaaGreatDoorRa15
set_option linter.unusedSimpArgs false
set_option linter.unusedVariables false
namespace Go.Abs
open Go Go.Proofs
set_option maxRecDepth 10000
attribute [local go_sem] cA bm bU bD bB cz bQ bS aG bv bq bL cg br opd avOf cvOf St.degAt St.put okPV db okAV cN cM cO cd aq if_true Bool.false_eq_true if_false Option.map_some Option.map_none Option.bind_some Option.bind_none c9 c5 upd List.toList_toArray bO steal aZ mvB cR cf b7 AV.deg CV.deg AV.gv AV.isIter b9 bT bC List.length_nil List.length_cons List.filterMap_cons List.filterMap_nil beq_iff_eq List.getElem?_cons_zero List.getElem?_cons_succ Option.getD_some du d5 Bool.false_and Bool.and_false Bool.and_self K_P eF bF bV aW lend back idx dedup AV.ren CV.ren TV.ren AV.ptrs CV.ptrs ce AV.flat CV.flat bM bz aJ cj cx dp bE aE bK a7 bh bA a8 dP CV.pv? content bf ownT aL reps pvs chunks bu leave dL bW cJ bt aX TV.deg TV.av LK CV.plain CV.noBld cm dF bound List.map_cons List.map_nil List.all_cons List.all_nil List.any_cons List.any_nil List.contains_cons List.contains_nil List.elem_cons List.elem_nil List.cons_append List.nil_append List.append_nil List.flatMap_cons List.flatMap_nil List.zip_cons_cons List.zip_nil_left List.zip_nil_right List.take_succ_cons List.take_zero List.take_nil List.drop_succ_cons List.drop_zero List.drop_nil List.isEmpty_nil List.isEmpty_cons Bool.and_true Bool.true_and Bool.or_true Bool.true_or Bool.or_false Bool.false_or Bool.not_true Bool.not_false Nat.add_zero Nat.zero_add Option.isNone_none Option.isNone_some Option.getD_none true_and and_true not_true_eq_false not_false_eq_true decide_true decide_false Nat.le_refl and_self Bool.not_eq_true Nat.sub_self or_true true_or Option.some.injEq List.length_map List.nil_eq and_false false_and AV.live CV.live CV.liveIn dh aI Option.orElse_some Option.orElse_none head aO aN Int.lt_irrefl List.length_append ite_self dc bI ck bg Key.clash Key.sees Key.writes Nat.lt_irrefl gt_iff_lt bR cW false_or or_false beq_self_eq_true Bool.true_beq Bool.false_beq eH g9 f7 zC AP hC de cL
theorem CI {x:TS} {et:Nat} {ct:List (List PV)} (hx:x.cell = .own et ct) (o:Option Tok) : ∃ et' ct',(eE x o).cell = .own et' ct'∧(eE x o).toks=x.toks++o.toList:=by
 cases o with
 | none=>exact ⟨et,ct,hx,by simp[eE]⟩
 | some t=>exact ⟨_,_,rfl,rfl⟩
theorem Cq {x:TS} {et:Nat} {ct:List (List PV)} (hx:x.cell = .own et ct):ct=x.toks.map Tok.enc:=by
 cases x with
 | nils=>cases hx
 | live=>cases hx;rfl
 | wr l=>cases hx;rfl
abbrev allH (s:List UInt8) (et:Nat) (ct:List (List PV)):St := { sl:=upd bot 3 (.c (.loc 6 0)),bx:=upd nobox 6 (some [.pv (.str s),.own et ct]),nt:=19 }
theorem C1 : ∀ (s:List UInt8),s.length<4000000000 → ∀ (x:TS) (et:Nat) (ct:List (List PV)),x.cell = .own et ct→x.toks.length+s.length<4000000000 →
  Ends (exL K 99 (.loop (au Tryz.f99 2)) (allH s et ct)) fun o S=>o = .exit 0∧S.nt=19∧S.sl 3 = .c (.loc 6 0) ∧ ∃ et',S.bx 6=some [.pv (.str []),.own et' ((x.toks++Tk.all s).map Tok.enc)]:=by
 refine Tk.tg (Q:=fun s=>s.length<4000000000 → ∀ (x:TS) (et:Nat) (ct:List (List PV)),x.cell = .own et ct→x.toks.length+s.length<4000000000 →
  Ends (exL K 99 (.loop (au Tryz.f99 2)) (allH s et ct)) fun o S=>o = .exit 0∧S.nt=19∧S.sl 3 = .c (.loc 6 0) ∧ ∃ et',S.bx 6=some [.pv (.str []),.own et' ((x.toks++Tk.all s).map Tok.enc)]) ?_ ?_
 ·intro _ x et ct hx _
  have hct:=Cq hx
  have hlt:decide ((0:Int)<((0:Nat):Int))=false:=by decide
  rw[Tk.all_nil,List.append_nil,←hct]
  conv in au _ _=>whnf
  rw[aD]
  simp only[go_sem,Nat.reduceLT,Nat.reduceEqDiff,Nat.reduceBEq,Nat.reduceAdd,aF af,aV,hlt]
  exact ⟨_,rfl⟩
 ·intro c r ih hs x et ct hx hl
  have hp:=Tk.km c r
  have hle:=Tk.xG c r
  have hn:=Bg (c::r) c r x et ct hx rfl hs (by omega)
  obtain ⟨et2,ct2,h2,h3⟩:=CI hx (Tk.step c r).1
  have ho:((Tk.step c r).1.toList).length≤1:=by cases (Tk.step c r).1<;>simp
  have ih':=ih (by rw[List.length_drop];omega) (eE x (Tk.step c r).1) et2 ct2 h2 (by rw[h3,List.length_append,List.length_drop];omega)
  rw[h3,List.append_assoc,←Tk.all_cons] at ih'
  have hlt:decide ((0:Int)<((c::r).length:Int))=true:=decide_eq_true (by simp only[List.length_cons];omega)
  simp only[scan,h2] at hn
  generalize c::r=s at hn ih' hlt
  conv at ih' in au _ _=>whnf
  conv in au _ _=>whnf
  rw[aD]
  simp only[go_sem,Nat.reduceLT,Nat.reduceEqDiff,Nat.reduceBEq,Nat.reduceAdd,aF af,hlt,hn]
  rw[aY]
  simp only[go_sem,Nat.reduceEqDiff]
  exact ih'
theorem DA (s:List UInt8) (hs:s.length<4000000000):den K 99 [T s] []=some (.ret (L ((Tk.all s).map Tok.enc)) []):=by
 refine ab rfl rfl Tryz.func99 rfl Tryz.ntmps99 ⟨by simp,by simp[LK]⟩ ?_
 have hr:Tryz.f99.results = #[.tmp 2]:=rfl
 have hl:=C1 s hs .live 0 [] rfl (by simp[TS.toks];omega)
 conv at hl in au _ _=>whnf
 obtain ⟨o,S',e2,rfl,hn,h3,et',hb⟩:=hl
 simp only[TS.toks,List.nil_append] at hb
 simp only[go_sem,Nat.reduceLT,reduceCtorEq,Nat.reduceEqDiff,Nat.reduceBEq,Nat.reduceAdd,Nat.reduceSub,Nat.reduceLeDiff,aj m0 nN]
 rw[aY]
 simp only[go_sem,Nat.reduceEqDiff,Nat.reduceSub,Nat.reduceLeDiff]
 erw [e2]
 simp only[go_sem,Nat.reduceLT,Nat.reduceEqDiff,Nat.reduceBEq,Nat.reduceAdd,hr,hn,h3,hb]
theorem zq (l:List Tok) (hl:l.length≤1000000) (deep:Int):den K 98 [L (l.map Tok.enc),I deep] []=some (.ret (jl deep l) []):=by
 refine ey (F:=o5) rfl ?_
 unfold o5
 simp only[yA]
 rw[if_pos hl]
abbrev encC (l:List Cpx):List (List PV):=l.map Cpx.enc
theorem Ae (l:List Cpx):lens 2 (encC l)=true:=by
 simp only[lens,List.all_map,List.all_eq_true]
 intro x _
 rfl
theorem BM (l:List Cpx) (c:Cpx):encC l++[[.sl (encQ c.parts),.str c.pseudo]]=encC (l++[c]):=by
 show _=(l++[c]).map Cpx.enc
 rw[List.map_append];rfl
theorem ru (l:List (List Val)):(encP l).length=l.length:=List.length_map ..
def jh (x:Option (List Cpx)):AV:=match x with
 | some cs => .tup [.c (.pv (.sl (encC cs))),.c (.pv (.int .i64 0))]
 | none => .tup [.c .nils,.c (.pv (.int .i64 40))]
theorem y5 (s:List UInt8):(Tk.all s).length≤s.length:=Tk.l6 s
theorem DJ {l:List Tok} {v:List Val} {n:Nat} (h:Ne.parse 60 l=some v) (hl : ∀ t∈l,t.text.length≤n) (hn:n<1000000000):TSh v:=fun t ht=>by
 obtain ⟨_,_,_,c,hc⟩:=Ne.lk h
 rw[hc] at ht
 rcases List.mem_append.1 ht with ht|ht
 ·have:=hl t ht;omega
 ·obtain ⟨k,_,rfl⟩:=List.mem_map.1 ht
  unfold Ne.eN
  simp
attribute [local go_sem] dA fU eU ja yI D7 gG eV ar dk EC bG
abbrev cpxE (c:Cpx):AV := .agg [.pv (.sl (encQ c.parts)),.pv (.str c.pseudo)]
abbrev cxpH (l:List Val) (cb:Int) (e:Nat) (ps:List Prt):St :=
  { sl:=upd (upd (upd (upd bot 4 (I cb)) 3 (.c (.loc 3 0))) 2 (.c (.loc 2 0))) 0 P0,
    bx:=upd (upd (upd nobox 100000 (some (rdB l))) 3 (some [.own e (encQ ps),.pv (.str [])])) 2 (some [.own 0 [],.pv (.str [])]),nt:=35 }
noncomputable def cxplp:Code := .loop (au Tryz.f47 3)
theorem BQ (l:List Val) (cb:Int) (e:Nat) (ps:List Prt) (h : ¬ ps.length<16) :
  Ends (exL K 47 cxplp (cxpH l cb e ps)) fun o S=>o = .pan cI∧S.bx 100000=some (rdB l):=by
 have e1:decide ((ps.length:Int)<16)=false:=decide_eq_false (by omega)
 have hmn:=e7
 unfold cxplp
 conv in au _ _=>whnf
 rw[aD]
 simp only[go_sem,Nat.reduceLT,reduceCtorEq,Nat.reduceEqDiff,Nat.reduceBEq,ai ay,dr,e1,hmn,aV]
theorem DY (l m:List Val) (cb:Int) (e:Nat) (ps:List Prt) (h:ps.length<16) (hc:den K 91 [P0] [rdB l]=some (.pan cI [rdB m])) :
  Ends (exL K 47 cxplp (cxpH l cb e ps)) fun o S=>o = .pan cI∧S.bx 100000=some (rdB m):=by
 have e1:decide ((ps.length:Int)<16)=true:=decide_eq_true (by omega)
 have hmy:=dq
 simp only[rdB] at hc
 unfold cxplp
 conv in au _ _=>whnf
 rw[aD]
 simp only[go_sem,Nat.reduceLT,reduceCtorEq,Nat.reduceEqDiff,Nat.reduceBEq,Nat.reduceAdd,ai ay,dr,e1,hmy,hc,aV]
def rl (ps:List Prt) (s:List UInt8) (r:List Val) (o:Out) (S:St):Prop:=o = .ret∧S.nt=35∧S.sl 2 = .c (.loc 2 0)∧S.bx 2=some [.pv (.sl (encQ ps)),.pv (.str s)]∧S.bx 100000=some (rdB r)
set_option maxHeartbeats 8000000 in
theorem CJ (l r:List Val) (cb:Int) (e:Nat) (ps:List Prt) (h:ps.length<16) (he:e=50∨ps=[]) (ls:List Sim) (s:List UInt8) (hs:s≠[]) (hc:den K 91 [P0] [rdB l]=some (.ret (nr (ls,s)) [rdB r])) :
  Ends (exL K 47 cxplp (cxpH l cb e ps)) fun o S=>rl (ps++[⟨cb,ls⟩]) s r o S:=by
 have e1:decide ((ps.length:Int)<16)=true:=decide_eq_true (by omega)
 have e2:(s==[])=false:=by rw[beq_eq_false_iff_ne];exact hs
 have hmy:=dq
 have hown:e=50∨(encQ ps).isEmpty=true:=by
  rcases he with rfl|rfl
  ·exact .inl rfl
  ·exact .inr rfl
 have hlim:ps.length+1<dl:=by unfold dl;omega
 have hlv:=m7 ps
 simp only[rdB,nr] at hc
 unfold rl
 unfold cxplp
 conv in au _ _=>whnf
 rw[aD]
 simp only[go_sem,Nat.reduceLT,reduceCtorEq,Nat.reduceEqDiff,Nat.reduceBEq,Nat.reduceAdd,Nat.reduceLeDiff,Nat.reduceMul,ai ay,aj bd dI,ae (len:=1) ay dN bd ⟨rfl,by decide,by decide⟩,dR fm,cK ay,dr,e1,e2,hmy,hc,hown,hlim,hlv,p8,oJ,bne,aV]
set_option maxHeartbeats 8000000 in
theorem BO (l r r2:List Val) (cb:Int) (e:Nat) (ps:List Prt) (h:ps.length<16) (he:e=50∨ps=[]) (ls:List Sim) (hc:den K 91 [P0] [rdB l]=some (.ret (nr (ls,[])) [rdB r]))
  (hk:den K 92 [P0] [rdB r]=some (.ret (I 0) [rdB r2])) :
  Ends (exL K 47 cxplp (cxpH l cb e ps)) fun o S=>rl (ps++[⟨cb,ls⟩]) [] r2 o S:=by
 have e1:decide ((ps.length:Int)<16)=true:=decide_eq_true (by omega)
 have e2:(([]:List UInt8)==[])=true:=rfl
 have e3:((0:Int)==0)=true:=rfl
 have hmy:=dq
 have hown:e=50∨(encQ ps).isEmpty=true:=by
  rcases he with rfl|rfl
  ·exact .inl rfl
  ·exact .inr rfl
 have hlim:ps.length+1<dl:=by unfold dl;omega
 have hlv:=m7 ps
 simp only[rdB,nr] at hc hk
 unfold rl
 unfold cxplp
 conv in au _ _=>whnf
 rw[aD]
 simp only[go_sem,Nat.reduceLT,reduceCtorEq,Nat.reduceEqDiff,Nat.reduceBEq,Nat.reduceAdd,Nat.reduceLeDiff,Nat.reduceMul,ai ay,aj bd dI,ae (len:=1) ay dN bd ⟨rfl,by decide,by decide⟩,dR fm,cK ay,dr,e1,e2,e3,hmy,hc,hk,hown,hlim,hlv,p8,oJ,bne,aV]
set_option maxHeartbeats 8000000 in
theorem A8 (l r r2:List Val) (cb cb2:Int) (e:Nat) (ps:List Prt) (h:ps.length<16) (he:e=50∨ps=[]) (ls:List Sim) (hc:den K 91 [P0] [rdB l]=some (.ret (nr (ls,[])) [rdB r]))
  (hk:den K 92 [P0] [rdB r]=some (.ret (I cb2) [rdB r2])) (h0:cb2≠0) :
  exL K 47 cxplp (cxpH l cb e ps)=exL K 47 cxplp (cxpH r2 cb2 50 (ps++[⟨cb,ls⟩])):=by
 have e1:decide ((ps.length:Int)<16)=true:=decide_eq_true (by omega)
 have e2:(([]:List UInt8)==[])=true:=rfl
 have e3:(cb2==0)=false:=by rw[beq_eq_false_iff_ne];exact h0
 have hmy:=dq
 have hown:e=50∨(encQ ps).isEmpty=true:=by
  rcases he with rfl|rfl
  ·exact .inl rfl
  ·exact .inr rfl
 have hlim:ps.length+1<dl:=by unfold dl;omega
 have hlv:=m7 ps
 simp only[rdB,nr] at hc hk
 unfold cxplp
 conv in au _ _=>whnf
 conv in au _ _=>whnf
 conv in exL _ _ _ (cxpH l cb e ps)=>rw[aD]
 simp only[go_sem,Nat.reduceLT,reduceCtorEq,Nat.reduceEqDiff,Nat.reduceBEq,Nat.reduceAdd,Nat.reduceLeDiff,Nat.reduceMul,ai ay,aj bd dI,ae (len:=1) ay dN bd ⟨rfl,by decide,by decide⟩,dR fm,cK ay,dr,e1,e2,e3,hmy,hc,hk,hown,hlim,hlv,p8,oJ,bne]
 rw[aY]
 simp only[go_sem,reduceCtorEq,Nat.reduceEqDiff,Nat.reduceBEq]
theorem rO : ∀ (f:Nat) (acc:List Sim) (l:List Val) (y:List Sim×List UInt8) (r:List Val),Sl.jQ f acc l=some (y,r) → ∃ p,l=p++r
 | 0,_,_,_,_,h=>by cases h
 | f+1,acc,l,y,r,h=>by
  rw[Sl.jQ] at h
  split at h
  ·split at h
   ·cases h
   ·cases h;exact ⟨[],rfl⟩
  ·split at h
   ·rw[Option.map_eq_some_iff] at h
    obtain ⟨z,hz,e⟩:=h
    cases e
    unfold Sl.kt at hz
    split at hz
    ·rename_i s m hn
     split at hz
     ·cases hz
      obtain ⟨t,c,e,_⟩:=Sl.oY hn
      exact ⟨l.take 2++[.mk 1 t c],by rw[List.append_assoc];simp only[List.singleton_append];rw[←e,List.take_append_drop]⟩
     ·cases hz
    ·cases hz
   ·split at h
    ·split at h
     ·rename_i x m hs
      obtain ⟨p,rfl,_⟩:=Sl.kD _ _ _ _ _ hs
      obtain ⟨q,e⟩:=rO f _ m y r h
      exact ⟨p++q,by rw[List.append_assoc,←e]⟩
     ·cases h
    ·cases h
theorem zK (l:List Val) : ∃ p,l=p++(Sl.ij l).2:=by
 obtain ⟨p,hp⟩:=List.dropWhile_suffix Sl.aa (l:=l)
 have key : ∀ {s:List UInt8} {x:List Val},Sl.sign s (l.dropWhile Sl.aa)=some x → ∃ p,l=p++x.dropWhile Sl.aa:=fun {s x} h=>by
  obtain ⟨v,e,_⟩:=Sl.dZ h
  obtain ⟨q,hq⟩:=List.dropWhile_suffix Sl.aa (l:=x)
  exact ⟨p++(v::q),by rw[←hp,e,List.append_assoc,List.cons_append,hq]⟩
 unfold Sl.ij
 simp only
 cases h1:Sl.sign [62] (l.dropWhile Sl.aa) with
 | some x=>exact key h1
 | none =>
  cases h2:Sl.sign [43] (l.dropWhile Sl.aa) with
  | some x=>exact key h2
  | none =>
   cases h3:Sl.sign [126] (l.dropWhile Sl.aa) with
   | some x=>exact key h3
   | none =>
    simp only
    split
    ·exact ⟨p,hp.symm⟩
    ·exact ⟨p,hp.symm⟩
theorem uY : ∀ (n:Nat) (l:List Val) (cb:Int) (e:Nat) (ps:List Prt),ps.length+n=16→Ne.size l≤60000000→TSh l→(e=50∨ps=[]) →
  Ends (exL K 47 cxplp (cxpH l cb e ps)) fun o S=>match Sl.cpxP n cb ps l with
   | some (c,r)=>rl c.parts c.pseudo r o S
   | none => ∃ m,o = .pan cI∧S.bx 100000=some (rdB m)
 | 0,l,cb,e,ps,h,hsz,hts,he=>cX (BQ l cb e ps (by omega)) fun o S q=>⟨l,q⟩
 | n+1,l,cb,e,ps,h,hsz,hts,he=>by
  have hl:l.length≤60000000:=Nat.le_trans (Ne.cB l) hsz
  have hc:=y3 l hsz hts
  rw[Sl.cpxP]
  cases hp:Sl.jQ (l.length+1) [] l with
  | none =>
   rw[hp] at hc
   obtain ⟨m,hc⟩:=dH hc
   exact cX (DY l m cb e ps (by omega) hc) fun o S q=>⟨m,q⟩
  | some y =>
   obtain ⟨⟨ls,s⟩,r⟩:=y
   rw[hp] at hc
   have hc:=cS hc
   obtain ⟨p,hpl⟩:=rO _ _ _ _ _ hp
   simp only
   by_cases hs:s=[]
   ·subst hs
    rw[if_neg (by simp)]
    have hrl:r.length≤l.length:=by rw[hpl,List.length_append];omega
    have hk:=zo r (by omega)
    by_cases h0:(Sl.ij r).1=0
    ·rw[if_pos h0]
     rw[h0] at hk
     exact BO l r _ cb e ps (by omega) he ls hc hk
    ·rw[if_neg h0,A8 l r _ cb _ e ps (by omega) he ls hc hk h0]
     obtain ⟨q,hq⟩:=zK r
     have hsz2:Ne.size (Sl.ij r).2≤Ne.size l:=by
      have e1:Ne.size l=Ne.size p+Ne.size r:=by rw[hpl,iK]
      have e2:Ne.size r=Ne.size q+Ne.size (Sl.ij r).2:=by rw[←iK,←hq]
      omega
     exact uY n _ _ _ _ (by rw[List.length_append,List.length_singleton];omega) (by omega) (r6 hts fun v hv=>by
      rw[hpl,List.mem_append]
      right
      rw[hq,List.mem_append]
      exact .inr hv) (.inl rfl)
   ·rw[if_pos hs]
    exact CJ l r cb e ps (by omega) he ls s hs hc
set_option maxHeartbeats 8000000 in
theorem EO (l:List Val) (hsz:Ne.size l≤60000000) (hts:TSh l):fh cpxE (Sl.cpxP 16 0 [] l) (den K 47 [P0] [rdB l]):=by
 have hr:Tryz.f47.results = #[.cell 2 47]:=rfl
 have h:=uY 16 l 0 0 [] rfl hsz hts (.inr rfl)
 unfold cxplp at h
 conv at h in au _ _=>whnf
 obtain ⟨o,S,w,hq⟩:=h
 have e0:encQ []=[]:=rfl
 simp only[cxpH,rdB,e0] at w
 cases hc:Sl.cpxP 16 0 [] l with
 | none =>
  rw[hc] at hq
  obtain ⟨m,rfl,q1⟩:=hq
  refine ⟨m,?_⟩
  simp only[rdB] at q1 ⊢
  refine ab rfl rfl Tryz.func47 rfl Tryz.ntmps47 ⟨by simp,by simp[LK]⟩ ?_
  simp only[go_sem,Nat.reduceLT,Nat.reduceEqDiff,Nat.reduceBEq,Nat.reduceSub,Nat.reduceLeDiff]
  rw[aY]
  simp only[go_sem,reduceCtorEq,Nat.reduceEqDiff,Nat.reduceBEq,Nat.reduceSub,Nat.reduceLeDiff]
  erw [w]
  simp only[go_sem,hr,q1]
 | some y =>
  obtain ⟨c,r⟩:=y
  rw[hc] at hq
  unfold rl at hq
  obtain ⟨rfl,q1,q2,q3,q4⟩:=hq
  show den K 47 [P0] [rdB l]=some (.ret (cpxE c) [rdB r])
  simp only[rdB,cpxE] at q4 ⊢
  refine ab rfl rfl Tryz.func47 rfl Tryz.ntmps47 ⟨by simp,by simp[LK]⟩ ?_
  simp only[go_sem,Nat.reduceLT,Nat.reduceEqDiff,Nat.reduceBEq,Nat.reduceSub,Nat.reduceLeDiff]
  rw[aY]
  simp only[go_sem,reduceCtorEq,Nat.reduceEqDiff,Nat.reduceBEq,Nat.reduceSub,Nat.reduceLeDiff]
  erw [w]
  simp only[go_sem,Nat.reduceAdd,hr,q2,q3,q4]
end Go.Abs
set_option linter.unusedSimpArgs true
namespace Go.Abs
open Go Go.Proofs
set_option maxRecDepth 10000
attribute [local go_sem] cA bm bU bD bB cz bQ bS aG bv bq bL cg br opd avOf cvOf St.degAt St.put okPV db okAV cN cM cO cd aq if_true Bool.false_eq_true if_false Option.map_some Option.map_none Option.bind_some Option.bind_none c9 c5 upd List.toList_toArray bO steal aZ mvB cR cf b7 AV.deg CV.deg AV.gv AV.isIter b9 bT bC List.length_nil List.length_cons List.filterMap_cons List.filterMap_nil beq_iff_eq List.getElem?_cons_zero List.getElem?_cons_succ Option.getD_some du d5 Bool.false_and Bool.and_false Bool.and_self K_P eF bF bV aW lend back idx dedup AV.ren CV.ren TV.ren AV.ptrs CV.ptrs ce AV.flat CV.flat bM bz aJ cj cx dp bE aE bK a7 bh bA a8 dP CV.pv? content bf ownT aL reps pvs chunks bu leave dL bW cJ bt aX TV.deg TV.av LK CV.plain CV.noBld cm dF bound List.map_cons List.map_nil List.all_cons List.all_nil List.any_cons List.any_nil List.contains_cons List.contains_nil List.elem_cons List.elem_nil List.cons_append List.nil_append List.append_nil List.flatMap_cons List.flatMap_nil List.zip_cons_cons List.zip_nil_left List.zip_nil_right List.take_succ_cons List.take_zero List.take_nil List.drop_succ_cons List.drop_zero List.drop_nil List.isEmpty_nil List.isEmpty_cons Bool.and_true Bool.true_and Bool.or_true Bool.true_or Bool.or_false Bool.false_or Bool.not_true Bool.not_false Nat.add_zero Nat.zero_add Option.isNone_none Option.isNone_some Option.getD_none true_and and_true not_true_eq_false not_false_eq_true decide_true decide_false Nat.le_refl and_self Bool.not_eq_true Nat.sub_self or_true true_or Option.some.injEq List.length_map List.nil_eq and_false false_and AV.live CV.live CV.liveIn dh aI Option.orElse_some Option.orElse_none head aO aN Int.lt_irrefl List.length_append ite_self dc bI ck bg Key.clash Key.sees Key.writes Nat.lt_irrefl gt_iff_lt bR cW false_or or_false beq_self_eq_true Bool.true_beq Bool.false_beq
theorem ww {deep:Int} {l:List Tok} {vs:List Val} (h1:1≤deep) (h2:deep≤60) (h:Ne.parse deep.toNat l=some vs):jl deep l = .tup [.c (.pv (.sl (encL vs))),.c (.pv (.int .i64 0))]:=by
 unfold jl
 rw[if_neg (by omega)]
 unfold Ne.parse at h
 cases hu:Ne.dm 0 deep.toNat l with
 | some x=>rw[hu] at h;cases h;rfl
 | none=>rw[hu] at h;cases h
theorem xf {deep:Int} {l:List Tok} (h1:1≤deep) (h2:deep≤60) (h:Ne.parse deep.toNat l=none):jl deep l = .tup [.c (.pv (.sl [])),.c (.pv (.int .i64 20))]:=by
 unfold jl
 rw[if_neg (by omega)]
 unfold Ne.parse at h
 cases hu:Ne.dm 0 deep.toNat l with
 | some x=>rw[hu] at h;cases h
 | none=>rfl
end Go.Abs
namespace Go.Abs
open Go Go.Proofs
set_option maxRecDepth 10000
attribute [local go_sem] cA bm bU bD bB cz bQ bS aG bv bq bL cg br opd avOf cvOf St.degAt St.put okPV db okAV cN cM cO cd aq if_true Bool.false_eq_true if_false Option.map_some Option.map_none Option.bind_some Option.bind_none c9 c5 upd List.toList_toArray bO steal aZ mvB cR cf b7 AV.deg CV.deg AV.gv AV.isIter b9 bT bC List.length_nil List.length_cons List.filterMap_cons List.filterMap_nil beq_iff_eq List.getElem?_cons_zero List.getElem?_cons_succ Option.getD_some du d5 Bool.false_and Bool.and_false Bool.and_self K_P eF bF bV aW lend back idx dedup AV.ren CV.ren TV.ren AV.ptrs CV.ptrs ce AV.flat CV.flat bM bz aJ cj cx dp bE aE bK a7 bh bA a8 dP CV.pv? content bf ownT aL reps pvs chunks bu leave dL bW cJ bt aX TV.deg TV.av LK CV.plain CV.noBld cm dF bound List.map_cons List.map_nil List.all_cons List.all_nil List.any_cons List.any_nil List.contains_cons List.contains_nil List.elem_cons List.elem_nil List.cons_append List.nil_append List.append_nil List.flatMap_cons List.flatMap_nil List.zip_cons_cons List.zip_nil_left List.zip_nil_right List.take_succ_cons List.take_zero List.take_nil List.drop_succ_cons List.drop_zero List.drop_nil List.isEmpty_nil List.isEmpty_cons Bool.and_true Bool.true_and Bool.or_true Bool.true_or Bool.or_false Bool.false_or Bool.not_true Bool.not_false Nat.add_zero Nat.zero_add Option.isNone_none Option.isNone_some Option.getD_none true_and and_true not_true_eq_false not_false_eq_true decide_true decide_false Nat.le_refl and_self Bool.not_eq_true Nat.sub_self or_true true_or Option.some.injEq List.length_map List.nil_eq and_false false_and AV.live CV.live CV.liveIn dh aI Option.orElse_some Option.orElse_none head aO aN Int.lt_irrefl List.length_append ite_self dc bI ck bg Key.clash Key.sees Key.writes Nat.lt_irrefl gt_iff_lt bR cW false_or or_false beq_self_eq_true Bool.true_beq Bool.false_beq Dr ET DX
def wL (s:List UInt8):AV:=match Sl.CK s with
 | some a => .tup [.c (.pv (.sl (encL a))),.c (.pv (.int .i64 0))]
 | none => .tup [.c (.pv (.sl [])),.c (.pv (.int .i64 20))]
theorem Ah (s:List UInt8) (hs:s.length<4000000000) (hal:(Tk.all s).length≤1000000):den K 49 [T s] []=some (.ret (wL s) []):=by
 have h1:=DA s hs
 have h2:=zq (Tk.all s) (by omega) 60
 unfold wL Sl.CK
 refine ab rfl rfl Tryz.func49 rfl Tryz.ntmps49 ⟨by simp,by simp[LK]⟩ ?_
 have hr:Tryz.f49.results = #[.tmp 2,.tmp 3]:=rfl
 cases hp:Ne.parse 60 (Tk.all s) with
 | none =>
  rw[xf (deep:=60) (by decide) (by decide) hp] at h2
  have h3:=gJ [] (by simp)
  have e0:encL []=[]:=rfl
  have e1:Sl.trim []=[]:=rfl
  rw[e1,e0] at h3
  simp only[go_sem,Nat.reduceLT,reduceCtorEq,Nat.reduceEqDiff,Nat.reduceBEq,Nat.reduceAdd,hr,h1,h2,h3,Option.map_none,TV.flat]
 | some vs =>
  rw[ww (deep:=60) (by decide) (by decide) hp] at h2
  obtain ⟨_,_,hsz,_⟩:=Ne.lk hp
  have hl:=Ne.cB vs
  have h3:=gJ vs (by omega)
  simp only[go_sem,Nat.reduceLT,reduceCtorEq,Nat.reduceEqDiff,Nat.reduceBEq,Nat.reduceAdd,hr,h1,h2,h3,Option.map_some,TV.flat]
attribute [local go_sem] yO dM dU sL jF nM Ew EA DV
theorem vU {m m2:List Val} {out:List Cpx} {e:Nat} {c:Cpx} (he:e=47∨out=[]) (ho:out.length≤1000) (h:den K 47 [P0] [rdB m]=some (.ret (cpxE c) [rdB m2])) :
  den K 46 [P0,P1] [rdB m,[.own e (encC out)]]=some (.ret (.tup []) [rdB m2,[.own 47 (encC (out++[c]))]]):=by
 rw[iR (K:=K) (F:=parse1P) rfl rfl]
 have h1:e=47∨(encC out).isEmpty=true:=by
  rcases he with rfl|rfl
  ·exact .inl rfl
  ·exact .inr rfl
 have h2:(encC out).length+1<dl:=by rw[List.length_map];unfold dl;omega
 have h:=h
 simp only[cpxE] at h
 unfold parse1P
 simp only[and_self,if_true,Plan.run,h]
 rw[if_pos ⟨h1,Ae out,h2⟩]
 simp only[Plan.run,BM]
theorem vQ {m m2:List Val} {out:List Cpx} {e:Nat} (h:den K 47 [P0] [rdB m]=some (.pan cI [rdB m2])) :
  den K 46 [P0,P1] [rdB m,[.own e (encC out)]]=some (.pan cI [rdB m2,[.top]]):=by
 rw[iR (K:=K) (F:=parse1P) rfl rfl]
 unfold parse1P
 simp only[and_self,if_true,Plan.run,h]
abbrev prpH (parts:List (List Val)) (i e:Nat) (out:List Cpx):St :=
  { sl:=upd (upd (upd (upd bot 11 (I i)) 10 (I parts.length)) 9 (L (encP parts))) 4 (.c (.loc 4 0)),bx:=upd nobox 4 (some [.own e (encC out)]),nt:=27 }
noncomputable def prplp:Code := .loop (au Tryz.f17 3)
theorem Dz (parts:List (List Val)) (e:Nat) (out:List Cpx) :
  Ends (exL K 17 prplp (prpH parts parts.length e out)) fun o S=>o = .exit 0∧S.nt=27∧S.sl 4 = .c (.loc 4 0)∧S.bx 4=some [.own e (encC out)]:=by
 have hlt:decide ((parts.length:Int)<(parts.length:Int))=false:=decide_eq_false (by omega)
 unfold prplp
 conv in au _ _=>whnf
 rw[aD]
 simp only[go_sem,Nat.reduceLT,Nat.reduceEqDiff,Nat.reduceBEq,aV]
set_option maxHeartbeats 4000000 in
theorem DS (parts:List (List Val)) (i e:Nat) (out:List Cpx) (p:List Val) (hi:parts[i]? = some p) (hpl:parts.length≤200000000) (b:List CV) (hb : ∃ v:CV,b=[v])
  (hw:den K 37 [L (encL p),.c (.fn 46 [(100000,0)])] [[.own e (encC out)]]=some (.ret (I 40) [b])) :
  Ends (exL K 17 prplp (prpH parts i e out)) fun o S=>o = .ret∧S.sl 2 = .c .nils∧S.sl 3=I 40:=by
 have hil:i<parts.length:=(List.getElem?_eq_some_iff.1 hi).1
 have hlt:decide ((i:Int)<(parts.length:Int))=true:=decide_eq_true (by omega)
 have hget:(encP parts)[(i:Int).toNat]? = some [.sl (encL p)]:=by simp[hi]
 obtain ⟨v,rfl⟩:=hb
 unfold prplp
 conv in au _ _=>whnf
 rw[aD]
 simp only[go_sem,Nat.reduceLT,Nat.reduceEqDiff,Nat.reduceBEq,Nat.reduceAdd,aw fP,hlt,hget,Int.natCast_nonneg,hw,fK,locs,gD,aV,Int.reduceBNe]
set_option maxHeartbeats 4000000 in
theorem BG (parts:List (List Val)) (i e e':Nat) (out out':List Cpx) (p:List Val) (hi:parts[i]? = some p) (hpl:parts.length≤200000000) (ho:32<out'.length)
  (hw:den K 37 [L (encL p),.c (.fn 46 [(100000,0)])] [[.own e (encC out)]]=some (.ret (I 0) [[.own e' (encC out')]])) :
  Ends (exL K 17 prplp (prpH parts i e out)) fun o S=>o = .ret∧S.sl 2 = .c .nils∧S.sl 3=I 40:=by
 have hil:i<parts.length:=(List.getElem?_eq_some_iff.1 hi).1
 have hlt:decide ((i:Int)<(parts.length:Int))=true:=decide_eq_true (by omega)
 have h32:decide ((32:Int)<(out'.length:Int))=true:=decide_eq_true (by omega)
 have hget:(encP parts)[(i:Int).toNat]? = some [.sl (encL p)]:=by simp[hi]
 unfold prplp
 conv in au _ _=>whnf
 rw[aD]
 simp only[go_sem,Nat.reduceLT,Nat.reduceEqDiff,Nat.reduceBEq,Nat.reduceAdd,aw fP,ai ax,hlt,hget,Int.natCast_nonneg,hw,h32,fK,locs,gD,aV,bne_self_eq_false]
set_option maxHeartbeats 4000000 in
theorem AU (parts:List (List Val)) (i e e':Nat) (out out':List Cpx) (p:List Val) (hi:parts[i]? = some p) (hpl:parts.length≤200000000) (ho : ¬ 32<out'.length)
  (hw:den K 37 [L (encL p),.c (.fn 46 [(100000,0)])] [[.own e (encC out)]]=some (.ret (I 0) [[.own e' (encC out')]])) :
  exL K 17 prplp (prpH parts i e out)=exL K 17 prplp (prpH parts (i+1) e' out'):=by
 have hil:i<parts.length:=(List.getElem?_eq_some_iff.1 hi).1
 have hlt:decide ((i:Int)<(parts.length:Int))=true:=decide_eq_true (by omega)
 have h32:decide ((32:Int)<(out'.length:Int))=false:=decide_eq_false (by omega)
 have hget:(encP parts)[(i:Int).toNat]? = some [.sl (encL p)]:=by simp[hi]
 have hws:IntKind.i64.wrap ((i:Int)+1)=((i+1:Nat):Int):=d8 i (by omega)
 unfold prplp
 conv in au _ _=>whnf
 conv in au _ _=>whnf
 conv in exL _ _ _ (prpH parts i e out)=>rw[aD]
 simp only[go_sem,Nat.reduceLT,Nat.reduceEqDiff,Nat.reduceBEq,Nat.reduceAdd,aw fP,ai ax,hlt,hget,Int.natCast_nonneg,hw,h32,hws,fK,locs,gD,bne_self_eq_false]
 rw[aY]
 simp only[go_sem,Nat.reduceEqDiff]
theorem sY (e:Nat) (c:List (List PV)) (f:Nat→Option Nat):([CV.own e c]).map (CV.ren f)=[CV.own e c]:=rfl
theorem D4 (f:Nat→Option Nat):([CV.top]).map (CV.ren f)=[CV.top]:=rfl
theorem wO (p:List Val) (e:Nat) (out:List Cpx) (hsz:Ne.size p≤60000000) (hts:TSh p) (hc:Sl.c7 [44] p=false) (he:e=47∨out=[]) (ho:out.length≤1000):match Sl.cpx 16 0 (Sl.trim p) with
  | some c=>den K 37 [L (encL p),.c (.fn 46 [(100000,0)])] [[.own e (encC out)]]=some (.ret (I 0) [[.own 47 (encC (out++[c]))]])
  | none => ∃ v:CV,den K 37 [L (encL p),.c (.fn 46 [(100000,0)])] [[.own e (encC out)]]=some (.ret (I 40) [[v]]):=by
 have hl:p.length≤60000000:=Nat.le_trans (Ne.cB p) hsz
 have hg:goods.contains 46=true:=by kernel_rfl
 have hx:=EO (Sl.trim p) (Nat.le_trans (la p) hsz) (n7 hts)
 rw[←Sl.zI hc]
 unfold Sl.ej
 cases hp:Sl.cpxP 16 0 [] (Sl.trim p) with
 | none =>
  rw[hp] at hx
  obtain ⟨m,hx⟩:=dH hx
  exact ⟨.top,pg hg (by omega) (sY _ _) D4 (vQ hx)⟩
 | some y =>
  obtain ⟨c,m⟩:=y
  rw[hp] at hx
  have hw:=oD hg (by omega) (sY _ _) (sY _ _) (vU he ho (cS hx))
  cases m with
  | nil=>exact hw
  | cons v m=>exact ⟨_,hw⟩
theorem vt (parts:List (List Val)) (hpl:parts.length≤200000000) (hp : ∀ p∈parts,Ne.size p≤60000000∧TSh p∧Sl.c7 [44] p=false) : ∀ (rest:List (List Val)) (i e:Nat) (out:List Cpx),parts.drop i=rest→i≤parts.length→i≤32→out.length=i→(e=47∨out=[]) →
  Ends (exL K 17 prplp (prpH parts i e out)) fun o S=>match Sl.all_ rest with
   | some cs=>if i+rest.length≤32 then (o = .exit 0∧S.nt=27∧S.sl 4 = .c (.loc 4 0) ∧ ∃ e',S.bx 4=some [.own e' (encC (out++cs))]) else (o = .ret∧S.sl 2 = .c .nils∧S.sl 3=I 40)
   | none=>o = .ret∧S.sl 2 = .c .nils∧S.sl 3=I 40
 | [],i,e,out,hd,hi,h32,ho,he=>by
  have hin:i=parts.length:=by
   have:=List.drop_eq_nil_iff.1 hd
   omega
  subst hin
  refine cX (Dz parts e out) fun o S q => ?_
  rw[Sl.all_nil]
  simp only
  rw[if_pos (by simpa using h32)]
  exact ⟨q.1,q.2.1,q.2.2.1,e,by rw[List.append_nil];exact q.2.2.2⟩
 | p::rest,i,e,out,hd,hi,h32,ho,he=>by
  obtain ⟨g1,g2,g3⟩:=eC hd
  obtain ⟨k1,k2,k3⟩:=hp p (List.mem_of_getElem? g1)
  have hw:=wO p e out k1 k2 k3 he (by omega)
  rw[Sl.all_cons]
  cases hc:Sl.cpx 16 0 (Sl.trim p) with
  | none =>
   rw[hc] at hw
   obtain ⟨v,hw⟩:=hw
   exact DS parts i e out p g1 hpl [v] ⟨v,rfl⟩ hw
  | some c =>
   rw[hc] at hw
   simp only at hw
   by_cases h:i<32
   ·rw[AU parts i e _ out _ p g1 hpl (by rw[List.length_append,List.length_singleton];omega) hw]
    refine cX (vt parts hpl hp rest (i+1) _ (out++[c]) g2 (by omega) (by omega) (by rw[List.length_append,List.length_singleton];omega) (.inl rfl)) fun o S q => ?_
    cases hr:Sl.all_ rest with
    | none=>rw[hr] at q;exact q
    | some cs =>
     rw[hr] at q
     simp only at q ⊢
     rw[List.length_cons]
     by_cases h2:i+1+rest.length≤32
     ·rw[if_pos h2] at q
      rw[if_pos (by omega)]
      obtain ⟨q1,q2,q3,e',q4⟩:=q
      exact ⟨q1,q2,q3,e',by rw[q4,List.append_assoc];rfl⟩
     ·rw[if_neg h2] at q
      rw[if_neg (by omega)]
      exact q
   ·refine cX (BG parts i e _ out _ p g1 hpl (by rw[List.length_append,List.length_singleton];omega) hw) fun o S q => ?_
    cases hr:Sl.all_ rest with
    | none=>exact q
    | some cs =>
     simp only
     rw[List.length_cons,if_neg (by omega)]
     exact q
set_option maxHeartbeats 8000000 in
theorem wA (l:List Val) (hsz:Ne.size l≤60000000) (hts:TSh l):den K 17 [L (encL l)] []=some (.ret (jh (Sl.parse l)) []):=by
 have hr:Tryz.f17.results = #[.tmp 2,.tmp 3]:=rfl
 have hat:=D2 l [44] (by omega)
 have hal:=Ai [44] l
 have hll:=Ne.cB l
 have hpl:(Sl.at_ [44] l).length≤200000000:=by omega
 have h:=vt (Sl.at_ [44] l) hpl (fun p hp=>⟨Nat.le_trans (CW [44] l p hp) hsz,r6 hts (Sl.jb [44] l p hp).1,(Sl.jb [44] l p hp).2⟩) _ 0 0 [] rfl (Nat.zero_le _) (by omega) rfl (.inr rfl)
 rw[List.drop_zero] at h
 unfold prplp at h
 conv at h in au _ _=>whnf
 obtain ⟨o,S,w,hq⟩:=h
 have z0:((0:Nat):Int)=0:=rfl
 have e0:encC []=[]:=rfl
 simp only[prpH,z0,e0] at w
 have err:o = .ret∧S.sl 2 = .c .nils∧S.sl 3=I 40→den K 17 [L (encL l)] []=some (.ret (jh none) []):=by
  rintro ⟨rfl,q1,q2⟩
  unfold jh
  refine ab rfl rfl Tryz.func17 rfl Tryz.ntmps17 ⟨by simp,by simp[LK]⟩ ?_
  simp only[go_sem,Nat.reduceLT,reduceCtorEq,Nat.reduceEqDiff,Nat.reduceBEq,Nat.reduceAdd,Nat.reduceSub,Nat.reduceLeDiff,ai fP,hat,ru]
  rw[aY]
  simp only[go_sem,Nat.reduceEqDiff,Nat.reduceSub,Nat.reduceLeDiff]
  erw [w]
  simp only[go_sem,hr,q1,q2]
 unfold Sl.parse
 cases hx:Sl.all_ (Sl.at_ [44] l) with
 | none =>
  rw[hx] at hq
  rw[ite_self]
  exact err hq
 | some cs =>
  rw[hx] at hq
  simp only[Nat.zero_add] at hq
  by_cases h32:(Sl.at_ [44] l).length≤32
  ·rw[if_pos h32] at hq ⊢
   obtain ⟨rfl,q1,q2,e',q3⟩:=hq
   rw[List.nil_append] at q3
   unfold jh
   refine ab rfl rfl Tryz.func17 rfl Tryz.ntmps17 ⟨by simp,by simp[LK]⟩ ?_
   simp only[go_sem,Nat.reduceLT,reduceCtorEq,Nat.reduceEqDiff,Nat.reduceBEq,Nat.reduceAdd,Nat.reduceSub,Nat.reduceLeDiff,ai fP,hat,ru]
   rw[aY]
   simp only[go_sem,Nat.reduceEqDiff,Nat.reduceSub,Nat.reduceLeDiff]
   erw [w]
   simp only[go_sem,Nat.reduceLT,Nat.reduceEqDiff,Nat.reduceBEq,Nat.reduceAdd,hr,q1,q2,q3]
  ·rw[if_neg h32] at hq ⊢
   exact err hq
set_option maxHeartbeats 8000000 in
theorem nH (s:List UInt8) (hs:s.length≤500000):den K 19 [T s] []=some (.ret (jh (Sl.read s)) []):=by
 have hr:Tryz.f19.results = #[.tmp 2,.tmp 3]:=rfl
 have hc:=y5 s
 have h1:=Ah s (by omega) (by omega)
 unfold Sl.read
 unfold wL Sl.CK at h1
 cases hx:Ne.parse 60 (Tk.all s) with
 | none =>
  rw[hx] at h1
  unfold jh
  simp only[Option.map_none,Option.bind_none] at h1 ⊢
  refine ab rfl rfl Tryz.func19 rfl Tryz.ntmps19 ⟨by simp,by simp[LK]⟩ ?_
  simp only[go_sem,Nat.reduceLT,reduceCtorEq,Nat.reduceEqDiff,Nat.reduceBEq,Nat.reduceAdd,hr,h1,TV.flat,Int.reduceBNe]
 | some v =>
  have hv:=(Ne.lk hx).2.2.1
  have hts:=DJ hx (Tk.Bw s) (by omega)
  have h2:=wA (Sl.trim v) (Nat.le_trans (la v) (by omega)) (n7 hts)
  rw[hx] at h1
  simp only[Option.map_some,Option.bind_some] at h1 ⊢
  unfold jh at h2 ⊢
  cases hy:Sl.parse (Sl.trim v) with
  | none =>
   rw[hy] at h2
   simp only at h2 ⊢
   refine ab rfl rfl Tryz.func19 rfl Tryz.ntmps19 ⟨by simp,by simp[LK]⟩ ?_
   simp only[go_sem,Nat.reduceLT,reduceCtorEq,Nat.reduceEqDiff,Nat.reduceBEq,Nat.reduceAdd,hr,h1,h2,TV.flat,Int.reduceBNe]
  | some cs =>
   rw[hy] at h2
   simp only at h2 ⊢
   refine ab rfl rfl Tryz.func19 rfl Tryz.ntmps19 ⟨by simp,by simp[LK]⟩ ?_
   simp only[go_sem,Nat.reduceLT,reduceCtorEq,Nat.reduceEqDiff,Nat.reduceBEq,Nat.reduceAdd,hr,h1,h2,TV.flat,Int.reduceBNe]
end Go.Abs
set_option linter.unusedSimpArgs true
namespace Go.Abs
open Go Go.Proofs
set_option maxRecDepth 10000
attribute [local go_sem] cA bm bU bD bB cz bQ bS aG bv bq bL cg br opd avOf cvOf St.degAt St.put okPV db okAV cN cM cO cd aq if_true Bool.false_eq_true if_false Option.map_some Option.map_none Option.bind_some Option.bind_none c9 c5 upd List.toList_toArray bO steal aZ mvB cR cf b7 AV.deg CV.deg AV.gv AV.isIter b9 bT bC List.length_nil List.length_cons List.filterMap_cons List.filterMap_nil beq_iff_eq List.getElem?_cons_zero List.getElem?_cons_succ Option.getD_some du d5 Bool.false_and Bool.and_false Bool.and_self K_P eF bF bV aW lend back idx dedup AV.ren CV.ren TV.ren AV.ptrs CV.ptrs ce AV.flat CV.flat bM bz aJ cj cx dp bE aE bK a7 bh bA a8 dP CV.pv? content bf ownT aL reps pvs chunks bu leave dL bW cJ bt aX TV.deg TV.av LK CV.plain CV.noBld cm dF bound List.map_cons List.map_nil List.all_cons List.all_nil List.any_cons List.any_nil List.contains_cons List.contains_nil List.elem_cons List.elem_nil List.cons_append List.nil_append List.append_nil List.flatMap_cons List.flatMap_nil List.zip_cons_cons List.zip_nil_left List.zip_nil_right List.take_succ_cons List.take_zero List.take_nil List.drop_succ_cons List.drop_zero List.drop_nil List.isEmpty_nil List.isEmpty_cons Bool.and_true Bool.true_and Bool.or_true Bool.true_or Bool.or_false Bool.false_or Bool.not_true Bool.not_false Nat.add_zero Nat.zero_add Option.isNone_none Option.isNone_some Option.getD_none true_and and_true not_true_eq_false not_false_eq_true decide_true decide_false Nat.le_refl and_self Bool.not_eq_true Nat.sub_self or_true true_or Option.some.injEq List.length_map List.nil_eq and_false false_and AV.live CV.live CV.liveIn dh aI Option.orElse_some Option.orElse_none head aO aN Int.lt_irrefl List.length_append ite_self dc bI ck bg Key.clash Key.sees Key.writes Nat.lt_irrefl gt_iff_lt bR cW false_or or_false beq_self_eq_true Bool.true_beq Bool.false_beq
theorem uz {v:List Val} {cs:List Cpx} (h:Sl.parse v=some cs):den K 22 [L (encC cs),L (encC cs)] []=some (.ret (B true) []):=by
 obtain ⟨h1,h2⟩:=wy h
 exact zL cs (by omega) fun c hc=>by
  obtain ⟨h3,h4⟩:=h2 c hc
  exact ⟨by omega,fun p hp=>sJ p.l (by have:=(h4 p hp).1;omega) (h4 p hp).2⟩
end Go.Abs
