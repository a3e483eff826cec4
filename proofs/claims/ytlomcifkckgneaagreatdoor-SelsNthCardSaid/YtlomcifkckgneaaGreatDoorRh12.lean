/-
  SelsNth, as the interpreter answers it: what its calls answer.
-/
import Derived.Lib.ItoaLen
import Derived.Test.YtlomcifkckgneaaGreatDoorRh4
import Derived.Test.YtlomcifkckgneaaGreatDoorRh8
import Derived.Test.YtlomcifkckgneaaGreatDoorRh10
import Derived.Test.YtlomcifkckgneaaGreatDoorRh11
set_option linter.unusedSimpArgs false
set_option linter.unusedVariables false
set_option linter.unusedSimpArgs true
namespace Go.Abs
open Go Go.Proofs
set_option maxRecDepth 10000
attribute [local go_sem] cS bA ck bM bL cT cq co aI a6 aX bt bV bf opd avOf cvOf St.degAt St.put okPV dD okAV cX cZ cY cx al if_true Bool.false_eq_true if_false Option.map_some Option.map_none Option.bind_some Option.bind_none dE dp upd List.toList_toArray bu steal aN mvB dt cA bW AV.deg CV.deg AV.gv AV.isIter cj ct bJ List.length_nil List.length_cons List.filterMap_cons List.filterMap_nil beq_iff_eq List.getElem?_cons_zero List.getElem?_cons_succ Option.getD_some eL fe Bool.false_and Bool.and_false Bool.and_self K_P fZ bv bS aR lend back idx dedup AV.ren CV.ren TV.ren AV.ptrs CV.ptrs b6 AV.flat CV.flat bI bz aJ bU cF dU bD aF bR aY bh bw aZ eD CV.pv? content aV ownT aM reps pvs chunks a7 leave ek b5 cU bd aQ TV.deg TV.av LK CV.plain CV.noBld ci ei bound List.map_cons List.map_nil List.all_cons List.all_nil List.any_cons List.any_nil List.contains_cons List.contains_nil List.elem_cons List.elem_nil List.cons_append List.nil_append List.append_nil List.flatMap_cons List.flatMap_nil List.zip_cons_cons List.zip_nil_left List.zip_nil_right List.take_succ_cons List.take_zero List.take_nil List.drop_succ_cons List.drop_zero List.drop_nil List.isEmpty_nil List.isEmpty_cons Bool.and_true Bool.true_and Bool.or_true Bool.true_or Bool.or_false Bool.false_or Bool.not_true Bool.not_false Nat.add_zero Nat.zero_add Option.isNone_none Option.isNone_some Option.getD_none true_and and_true not_true_eq_false not_false_eq_true decide_true decide_false Nat.le_refl and_self Bool.not_eq_true Nat.sub_self or_true true_or Option.some.injEq List.length_map List.nil_eq and_false false_and AV.live CV.live CV.liveIn ev aH Option.orElse_some Option.orElse_none head aU aP Int.lt_irrefl List.length_append ite_self dx bo bX a8 Key.clash Key.sees Key.writes Nat.lt_irrefl gt_iff_lt cm dG false_or or_false beq_self_eq_true Bool.true_beq Bool.false_beq
theorem mt {n:Int} (h : -20000≤n∧n≤20000):(Lib.itoa n).length≤100:=by
 have h1:=Lib.itoa_length_le n (by omega) (by omega)
 omega
theorem xG {s:List UInt8} {v:List Val} (hs:s.length≤1000) (h:Sl.kf s=some v):den K 11 [T s] []=some (.ret (.tup [.c (.pv (.sl (encL v))),.c (.pv (.int .i64 0))]) [])∧den K 13 [L (encL v)] []=some (.ret (nthA (Sl.nthM v)) []):=by
 have hal:=n8 s
 have hrd:=so s (by omega) (by omega)
 unfold oP at hrd
 rw[h] at hrd
 obtain ⟨hsz,hts⟩:=xV h (by omega)
 have hll:=Ne.iz v
 exact ⟨hrd,xb v (by omega) hts⟩
def oz (a b:Int):List UInt8:=if 0<b then (Lib.itoa a++[110])++43::Lib.itoa b else if b<0 then (Lib.itoa a++[110])++Lib.itoa b else Lib.itoa a++[110]
theorem xw (a b:Int):oz a b=Sl.rg a b:=by
 unfold oz Sl.rg
 split
 ·simp
 ·split<;>simp
end Go.Abs
