/-
  THE ABSTRACT INTERPRETER: functions of Go's library that are not interpreted: what they answer, and that they do.
  THE ABSTRACT INTERPRETER: nest.pairs: it makes a map of three rows; walked by hand.
  THE ABSTRACT INTERPRETER: nest.opens: it looks through a map in whatever order; walked by hand.
-/
import Derived.Test.YtegabgmehebimaaDoorQC
import Derived.Test.YtegabgmehebimaaDoorQShelf
import Derived.Shelf.Strings.Builder1
import Derived.WalkMore
import Derived.WideMake
import Derived.Test.YtegabgmehebimaaDoorQE
import Derived.Maps.RangeRun
import Derived.WalkKit
import Derived.Deep.RegionWith
set_option linter.unusedSimpArgs false
set_option linter.unusedVariables false
namespace Go.Abs
open Go Go.Proofs Go.RowKit

section
variable {P : Program} {G G' : Gh} {w w' : World}

/-- the world stays below the heap's end -/
theorem below_gr (hw : WI G w) (hb : Below w.heap.size w w') : Gr (fun _ => False) G w G w' ∧ WI G w' := by
  refine ⟨⟨⟨fun _ _ _ h => h, fun b hlt h => ⟨h, hb.block b hlt, fun _ => rfl⟩, hb.size, hb.os, hb.output, hb.tape, fun _ _ => rfl⟩, fun _ _ h => h, fun b ℓ h _ => ⟨h, hb.block b (ow_lt hw h), fun _ => rfl⟩⟩,
    ⟨fun b o y h => ?_, fun b h => hw.fresh b (Nat.le_trans hb.size h), hw.boxI, hw.bbow, hw.tab.map fun b hlt h => ⟨h, hb.block b hlt⟩⟩⟩
  rw [hb.cell (p := ⟨b, o, none⟩) (I_lt hw h)]
  exact hw.cell b o y h

/-- a call that turns nothing of what was there, and gives back data -/
theorem contract_data {f : FuncId} {args : List AV} {p : PV} (h : ∀ (G : Gh) (w : World) (cargs : List Value), WI G w → All2 (fun v x => RA G w .ret v x) args cargs →
    Calls P f cargs.toArray w fun e w' => ∃ x, e = .returned x ∧ RP G.I p x ∧ Below w.heap.size w w') : Contract P f args [] (.ret (.c (.pv p)) []) := by
  intro G w cargs hw hargs _ _ _
  refine (h G w cargs hw hargs).mono ?_
  rintro e w' ⟨x, rfl, hx, hb⟩
  obtain ⟨g, hw'⟩ := below_gr hw hb
  exact ⟨G, g.ext, hw', x, rfl, hx, rfl, fun i l h => by simp at h⟩

theorem args_one {v : AV} {cargs : List Value} (h : All2 (fun v x => RA G w .ret v x) [v] cargs) : ∃ x, cargs = [x] ∧ RA G w .ret v x := by
  cases h with
  | cons h1 h2 => cases h2; exact ⟨_, rfl, h1⟩

theorem args_two {u v : AV} {cargs : List Value} (h : All2 (fun v x => RA G w .ret v x) [u, v] cargs) : ∃ x y, cargs = [x, y] ∧ RA G w .ret u x ∧ RA G w .ret v y := by
  cases h with
  | cons h1 h2 =>
    cases h2 with
    | cons h3 h4 => cases h4; exact ⟨_, _, rfl, h1, h3⟩

abbrev Prim := List AV → List (List CV) → Option (AV × List (List CV))

/-! ### strings -/

def pContains : Prim
  | [.c (.pv (.str s)), .c (.pv (.str [c]))], [] => some (.c (.pv (.bool (decide (0 ≤ Lib.indexByte s c)))), [])
  | _, _ => none

def pHasPrefix : Prim
  | [.c (.pv (.str s)), .c (.pv (.str p))], [] => some (.c (.pv (.bool (Lib.hasPrefix s p))), [])
  | _, _ => none

def pIndexByte : Prim
  | [.c (.pv (.str s)), .c (.pv (.int .u8 c))], [] => some (.c (.pv (.int .i64 (Lib.indexByte s c.toNat.toUInt8))), [])
  | _, _ => none

def pIndex : Prim
  | [.c (.pv (.str s)), .c (.pv (.str p))], [] => if s.length < 4294967281 then some (.c (.pv (.int .i64 (Lib.index s p))), []) else none
  | _, _ => none

def pItoa : Prim
  | [.c (.pv (.int .i64 n))], [] => if -9223372036854775808 ≤ n ∧ n ≤ 9223372036854775807 then some (.c (.pv (.str (Lib.itoa n))), []) else none
  | _, _ => none






theorem pHasPrefix_ok {args : List AV} {bxs : List (List CV)} {x : AV × List (List CV)} (h : pHasPrefix args bxs = some x) : Contract Tryd.prog 64 args bxs (.ret x.1 x.2) := by
  unfold pHasPrefix at h
  split at h
  case h_2 => cases h
  rename_i s p
  cases h
  refine contract_data fun G w cargs hw hargs => ?_
  obtain ⟨x, y, rfl, hx, hy⟩ := args_two hargs
  cases hx.strv
  cases hy.strv
  refine (Tryd.strings_HasPrefix ⟨s.toArray⟩ ⟨p.toArray⟩ w).mono ?_
  rintro e w' ⟨rfl, rfl⟩
  exact ⟨_, rfl, .bool _, .refl _ _⟩

theorem pIndexByte_ok {args : List AV} {bxs : List (List CV)} {x : AV × List (List CV)} (h : pIndexByte args bxs = some x) : Contract Tryd.prog 66 args bxs (.ret x.1 x.2) := by
  unfold pIndexByte at h
  split at h
  case h_2 => cases h
  rename_i s c
  cases h
  refine contract_data fun G w cargs hw hargs => ?_
  obtain ⟨x, y, rfl, hx, hy⟩ := args_two hargs
  cases hx.strv
  cases hy.intv
  refine (Tryd.strings_IndexByte ⟨s.toArray⟩ c w).mono ?_
  rintro e w' ⟨rfl, rfl⟩
  exact ⟨_, rfl, .int _ _, .refl _ _⟩

theorem pIndex_ok {args : List AV} {bxs : List (List CV)} {x : AV × List (List CV)} (h : pIndex args bxs = some x) : Contract Tryd.prog 77 args bxs (.ret x.1 x.2) := by
  unfold pIndex at h
  split at h
  case h_2 => cases h
  rename_i s p
  split at h
  case isFalse => cases h
  rename_i hs
  cases h
  refine contract_data fun G w cargs hw hargs => ?_
  obtain ⟨x, y, rfl, hx, hy⟩ := args_two hargs
  cases hx.strv
  cases hy.strv
  obtain ⟨_, m, cs, ty, fz, hm, hm0⟩ := hw.tab.2 1 (by simp [ints])
  refine (Tryd.strings_Index ⟨s.toArray⟩ ⟨p.toArray⟩ m w (by show s.toArray.size < _; simpa using hs) ((cell_of_heap hm 0).trans hm0)).mono ?_
  rintro e w' ⟨rfl, rfl⟩
  exact ⟨_, rfl, .int _ _, .refl _ _⟩

theorem pow10_tab (hw : WI G w) : Lib.TabIs Tryd.prog w "internal/strconv.uint64pow10" .u64 Lib.pow10Tab := by
  obtain ⟨_, ty, fz, h⟩ := hw.tab.1 (0, (List.range 20).map fun i => .int .u64 ((10 ^ i : Nat) : Int)) (by simp [tabs])
  have hg : Tryd.prog.globalNamed "internal/strconv.uint64pow10" = some 0 := by kernel_rfl
  unfold Lib.TabIs World.var?
  simp only [hg, Option.bind_some, h, Lib.pow10Tab, List.map_map]
  rfl

theorem pItoa_ok {args : List AV} {bxs : List (List CV)} {x : AV × List (List CV)} (h : pItoa args bxs = some x) : Contract Tryd.prog 58 args bxs (.ret x.1 x.2) := by
  unfold pItoa at h
  split at h
  case h_2 => cases h
  rename_i n
  split at h
  case isFalse => cases h
  rename_i hn
  cases h
  refine contract_data fun G w cargs hw hargs => ?_
  obtain ⟨x, rfl, hx⟩ := args_one hargs
  cases hx.intv
  refine (Tryd.strconv_Itoa n hn.1 hn.2 w (pow10_tab hw)).mono ?_
  rintro e w' ⟨rfl, k, os, rfl⟩
  refine ⟨_, rfl, .str _, ⟨rfl, rfl, rfl, ?_, fun j hj => ?_⟩⟩
  · show w.heap.size ≤ (w.heap ++ os).size
    simp
  · show (w.heap ++ os)[j]? = _
    rw [Array.getElem?_append_left hj]



/-! ### strings.Builder -/

def pCopyCheck : Prim
  | [.c (.loc k 0)], [[a, v]] =>
    if k = LK then
      match a with
      | .bld => some (.tup [], [[.loc LK 0, v]])
      | .loc j o => if j = LK ∧ o = 0 then some (.tup [], [[.loc LK 0, v]]) else none
      | _ => none
    else none
  | _, _ => none

end
end Go.Abs

namespace Go.Abs
open Go Go.Proofs Go.RowKit

section
variable {P : Program}

theorem alloc_set (w : World) (o o' : Obj) : { w.alloc o with heap := (w.alloc o).heap.setIfInBounds w.heap.size o' } = w.alloc o' := by
  simp only [World.alloc]
  congr 1
  apply Array.ext'
  simp [Array.setIfInBounds, Array.toList_push]

theorem run_insert_new {t key elem : TypeId} {k : IntKind} (ht : P.underlying t = some (.map key elem)) (hk : P.underlying key = some (.int k)) (w : World) (es : Array MapEntry) (clock : Nat) (n : Int) (v : Value)
    (hall : es.toList.all (fun e => match e.key with | .int k' _ => k' == k | _ => false) = true) (hf : es.toList.find? (keyIs k n) = none) :
    (Instr.mapUpdate t (.map (some w.heap.size)) (.int k n) v).run P (w.alloc (.map es clock)) = .ok () (w.alloc (.map (es.push { key := .int k n, val := v, born := clock }) (clock + 1))) := by
  have hh : (w.alloc (.map es clock)).heap[w.heap.size]? = some (.map es clock) := heap_alloc_new w _
  have hget : (getObj w.heap.size).run P (w.alloc (.map es clock)) = .ok (.map es clock) (w.alloc (.map es clock)) := by simp only [getObj, Sem.run, hh]
  have hck := checkKey_int (P := P) (w := w.alloc (.map es clock)) hk false 9999 (.int k n)
  have hnow : Instr.findNow (.int k) (.int k n) es.toList 0 = some none := by
    rcases findNow_int (n := n) 0 hall with ⟨_, h2⟩ | ⟨e, j, h1, _⟩
    · exact h2
    · rw [hf] at h1; cases h1
  have hfind : (Instr.findKey key (.int k n) es.toList).run P (w.alloc (.map es clock)) = .ok none (w.alloc (.map es clock)) := by
    unfold Instr.findKey
    simp only [Sem.run_bind, run_underlying hk, Result.andThen_ok, hnow]
    rfl
  have hset : (setObj w.heap.size (.map (es.push { key := .int k n, val := v, born := clock }) (clock + 1))).run P (w.alloc (.map es clock)) = .ok () (w.alloc (.map (es.push { key := .int k n, val := v, born := clock }) (clock + 1))) := by
    have : w.heap.size < (w.alloc (.map es clock)).heap.size := by rw [alloc_size]; omega
    simp only [setObj, Sem.run, hh]
    exact congrArg (Result.ok ()) (alloc_set w _ _)
  unfold Instr.mapUpdate
  simp only [Sem.run_bind, run_underlying ht, Result.andThen_ok, hget, hck, hfind, hset]
theorem newObj_gr {G : Gh} {w : World} {o : Option Own} (hw : WI G w) (ob : Obj) (ho : ∀ s, o ≠ some (.box s)) :
    Gr (fun _ => False) G w { G with ow := upd G.ow w.heap.size o } (w.alloc ob) ∧ WI { G with ow := upd G.ow w.heap.size o } (w.alloc ob) := by
  refine ⟨⟨⟨fun _ _ _ h => h, fun c hc hn => ⟨?_, heap_old w _ c hc, fun k => rfl⟩, by rw [alloc_size]; omega, rfl, rfl, rfl, fun k hk => rfl⟩, fun s b hb => hb, fun b ℓ hb _ => ⟨?_, heap_old w _ b (ow_lt hw hb), fun k => rfl⟩⟩, ⟨fun b k y h => ?_, fun b hb => ?_, fun b s hb k => ?_, fun s b hb => ?_, hw.tab.map fun c hc hn => ⟨by show upd G.ow w.heap.size _ c = none; unfold upd; rw [if_neg (by omega)]; exact hn, heap_old w _ c hc⟩⟩⟩
  · show upd G.ow w.heap.size _ c = none
    unfold upd; rw [if_neg (by omega)]; exact hn
  · have := ow_lt hw hb
    show upd G.ow w.heap.size _ b = _
    unfold upd; rw [if_neg (by omega)]; exact hb
  · rw [cell_alloc_old w _ (I_lt hw h)]; exact hw.cell b k y h
  · rw [alloc_size] at hb
    refine ⟨fun k => (hw.fresh b (by omega)).1 k, ?_⟩
    show upd G.ow w.heap.size _ b = none
    unfold upd; rw [if_neg (by omega)]; exact (hw.fresh b (by omega)).2
  · have hb' : upd G.ow w.heap.size o b = some (.box s) := hb
    unfold upd at hb'
    split at hb'
    · exact absurd hb' (ho s)
    · exact hw.boxI b s hb' k
  · have h1 := hw.bbow s b hb
    have h2 := ow_lt hw h1
    show upd G.ow w.heap.size _ b = _
    unfold upd; rw [if_neg (by omega)]; exact h1
end

abbrev pairV (a b : UInt8) : Value := .agg #[.string ⟨#[a]⟩, .string ⟨#[b]⟩]
/-- the rows of the map -/
def pairsE : List MapEntry := [{ key := .int .i64 2, val := pairV 40 41, born := 0 }, { key := .int .i64 3, val := pairV 91 93, born := 1 }, { key := .int .i64 4, val := pairV 123 125, born := 2 }]

set_option maxHeartbeats 4000000 in
set_option maxRecDepth 100000 in
theorem pairs_calls (w : World) : Calls Tryd.prog 30 #[] w fun e w' => e = .returned (.map (some w.heap.size)) ∧ w' = w.alloc (.map pairsE.toArray 3) := by
  have ht : Tryd.prog.underlying 58 = some (.map 3 56) := by kernel_rfl
  have hk : Tryd.prog.underlying 3 = some (.int .i64) := by kernel_rfl
  have h1 := run_insert_new ht hk w #[] 0 2 (pairV 40 41) rfl rfl
  have h2 := run_insert_new ht hk w #[{ key := .int .i64 2, val := pairV 40 41, born := 0 }] 1 3 (pairV 91 93) rfl rfl
  have h3 := run_insert_new ht hk w #[{ key := .int .i64 2, val := pairV 40 41, born := 0 }, { key := .int .i64 3, val := pairV 91 93, born := 1 }] 2 4 (pairV 123 125) rfl rfl
  have hm := run_makeMap_plain (P := Tryd.prog) (w := w) 58
  go_enter Tryd.func30, Tryd.ntmps30
  go_wp2
  go_ret
  exact ⟨rfl, rfl⟩

def pPairs : Prim
  | [], [] => some (.c (.cmap pairsE), [])
  | _, _ => none

theorem pPairs_ok {args : List AV} {bxs : List (List CV)} {x : AV × List (List CV)} (h : pPairs args bxs = some x) : Contract Tryd.prog 30 args bxs (.ret x.1 x.2) := by
  unfold pPairs at h
  split at h
  case h_2 => cases h
  cases h
  intro G w cargs hw hargs _ _ _
  cases hargs
  refine (pairs_calls w).mono ?_
  rintro e w' ⟨rfl, rfl⟩
  obtain ⟨g, hw'⟩ := newObj_gr (o := some .ret) hw (.map pairsE.toArray 3) (fun s => by simp)
  exact ⟨_, g.ext, hw', _, rfl, ⟨w.heap.size, 3, rfl, by simp [upd], heap_alloc_new w _⟩, rfl, fun i l h => by simp at h⟩
end Go.Abs

namespace Go.Abs
open Go Go.Proofs Go.RowKit Go.ChangeMaps

/-- a token, as the model has it -/
abbrev tokV (k : Int) (s : ByteArray) (n : Int) : Value := .agg #[.int .i64 k, .string s, .int .i64 n]
abbrev tokO (k : Int) (s : ByteArray) (n : Int) : Obj := .cells #[.int .i64 k, .string s, .int .i64 n] 38

set_option maxHeartbeats 4000000 in
set_option maxRecDepth 100000 in
theorem delim_calls (s : ByteArray) (w : World) : Calls Tryd.prog 31 #[.string s] w fun e w' => e = .returned (tokV 7 s 0) ∧ w' = w.alloc (tokO 7 s 0) := by
  have mixed : Tryd.prog.follows .mixedOrders = true := by kernel_rfl
  go_enter Tryd.func31, Tryd.ntmps31
  go_wp2
  exact bodyPost_ret (v := tokV 7 s 0) (by simp [results, Tryd.results31, go_sem]) rfl ⟨rfl, rfl⟩

def firstOf (n : Int) : ByteArray := if n = 2 then ⟨#[40]⟩ else if n = 3 then ⟨#[91]⟩ else ⟨#[123]⟩
def lastOf (n : Int) : ByteArray := if n = 2 then ⟨#[41]⟩ else if n = 3 then ⟨#[93]⟩ else ⟨#[125]⟩
/-- what 'opens' answers -/
def opensI (k : Int) (s : ByteArray) (n : Int) : Int :=
  if k = 2 then 5 else if k = 7 ∧ n = 0 then (if s = ⟨#[40]⟩ then 2 else if s = ⟨#[91]⟩ then 3 else if s = ⟨#[123]⟩ then 4 else 0) else 0

/-- what the loop knows of the world -/
structure Loop1 (w wr : World) (k : Int) (s : ByteArray) (n : Int) (since : Nat) (seen : Array Nat) (c0 : Nat) : Prop where
  bel : Below w.heap.size w wr
  tok : wr.heap[w.heap.size]? = some (tokO k s n)
  map : wr.heap[w.heap.size + 1]? = some (.map pairsE.toArray 3)
  it : wr.heap[w.heap.size + 2]? = some (.mapIter (some (w.heap.size + 1)) since seen c0)
  since3 : since = 3 ∧ c0 = 3
  no : ∀ x ∈ pairsE, seen.contains x.born = true → ∀ m, x.key = .int .i64 m → ¬ (k = 7 ∧ s = firstOf m ∧ n = 0)

set_option maxHeartbeats 8000000 in
set_option maxRecDepth 100000 in
theorem opens_calls (k : Int) (s : ByteArray) (n : Int) (w : World) : Calls Tryd.prog 56 #[tokV k s n] w fun e w' => e = .returned (.int .i64 (opensI k s n)) ∧ Below w.heap.size w w' := by
  have mixed : Tryd.prog.follows .mixedOrders = true := by kernel_rfl
  have e30 : ∀ args w, (callFunc 30 args).run Tryd.prog w = .ok (.enter 30 args) w := enters_of Tryd.func30 (by kernel_rfl) rfl
  have e31 : ∀ args w, (callFunc 31 args).run Tryd.prog w = .ok (.enter 31 args) w := enters_of Tryd.func31 (by kernel_rfl) rfl
  have ut : Tryd.prog.underlying 58 = some (.map 3 56) := by kernel_rfl
  by_cases h2 : k = 2
  · subst h2
    go_enter Tryd.func56, Tryd.ntmps56
    go_wp2
    go_ret
    exact ⟨rfl, (Below.refl _ _).alloc (Nat.le_refl _) _⟩
  · have hk : (k == 2) = false := by simpa using h2
    have hrg := run_range_map (P := Tryd.prog) ((w.alloc (tokO k s n)).alloc (.map pairsE.toArray 3)) 58 3 56 (w.heap.size + 1) pairsE.toArray 3 ut (by
      have := heap_alloc_new (w.alloc (tokO k s n)) (.map pairsE.toArray 3)
      rwa [alloc_size] at this)
    go_enter Tryd.func56, Tryd.ntmps56
    go_wp2_with (go_at_call 30; refine (pairs_calls _).mono ?_; rintro e w' ⟨rfl, rfl⟩)
    go_loopw [] (fun wr => ∃ since seen c0, Loop1 w wr k s n since seen c0) (fun wr => (leftOf pairsE.toArray (wr.iterSeen (w.heap.size + 2))).size)
    case atStart =>
      refine ⟨3, #[], 3, ?_⟩
      have a1 : ∀ (w : World) (o : Obj) (i : Nat), i < w.heap.size → (w.alloc o).heap[i]? = w.heap[i]? := fun w o i h => heap_old w o i h
      refine ⟨(((Below.refl _ _).alloc (Nat.le_refl _) _).alloc (by simp) _).alloc (by simp; omega) _, ?_, ?_, ?_, ⟨rfl, rfl⟩, fun x hx h => by simp at h⟩
      · rw [a1 _ _ _ (by simp; omega), a1 _ _ _ (by simp), heap_alloc_new]
      · rw [a1 _ _ _ (by simp)]
        have := heap_alloc_new (w.alloc (tokO k s n)) (.map pairsE.toArray 3)
        rwa [alloc_size] at this
      · have := heap_alloc_new ((w.alloc (tokO k s n)).alloc (.map pairsE.toArray 3)) (.mapIter (some (w.heap.size + 1)) 3 #[] 3)
        rwa [alloc_size, alloc_size] at this
    case round =>
      obtain ⟨since, seen, c0, hl⟩ := hrel
      rcases run_next_at (P := Tryd.prog) wr 0 (w.heap.size + 2) (w.heap.size + 1) since c0 seen pairsE.toArray 3 hl.it hl.map (by rw [hl.since3.1]; decide) (by rw [hl.since3.1, hl.since3.2]; decide) with ⟨h0, hrun⟩ | ⟨e, he, w1, hw1, hrun⟩
      · have hnx : ∀ ty, (Instr.next (.pointer (some ⟨w.heap.size + 2, 0, none⟩)) false ty).run Tryd.prog wr = _ := fun _ => hrun
        go_wp2
        go_ret
        refine ⟨?_, hl.bel⟩
        have hs : ∀ x ∈ pairsE, seen.contains x.born = true := fun x hx => all_seen pairsE.toArray seen h0 x (by simpa using hx)
        have n2 : ¬ (k = 7 ∧ s = ⟨#[40]⟩ ∧ n = 0) := hl.no _ (List.mem_cons_self) (hs _ List.mem_cons_self) 2 rfl
        have n3 : ¬ (k = 7 ∧ s = ⟨#[91]⟩ ∧ n = 0) := hl.no _ (List.mem_cons_of_mem _ List.mem_cons_self) (hs _ (List.mem_cons_of_mem _ List.mem_cons_self)) 3 rfl
        have n4 : ¬ (k = 7 ∧ s = ⟨#[123]⟩ ∧ n = 0) := hl.no _ (List.mem_cons_of_mem _ (List.mem_cons_of_mem _ List.mem_cons_self)) (hs _ (List.mem_cons_of_mem _ (List.mem_cons_of_mem _ List.mem_cons_self))) 4 rfl
        unfold opensI
        rw [if_neg h2]
        by_cases hkn : k = 7 ∧ n = 0
        · rw [if_pos hkn]
          have m2 : ¬ s = ⟨#[40]⟩ := fun h => n2 ⟨hkn.1, h, hkn.2⟩
          have m3 : ¬ s = ⟨#[91]⟩ := fun h => n3 ⟨hkn.1, h, hkn.2⟩
          have m4 : ¬ s = ⟨#[123]⟩ := fun h => n4 ⟨hkn.1, h, hkn.2⟩
          rw [if_neg m2, if_neg m3, if_neg m4]
          rfl
        · rw [if_neg hkn]
          rfl
      · have hmem : e ∈ pairsE := by simpa using (mem_left he).1
        obtain ⟨m, a, b, hkey, hval, hfm, hm3⟩ : ∃ m a b, e.key = .int .i64 m ∧ e.val = pairV a b ∧ firstOf m = ⟨#[a]⟩ ∧ (m = 2 ∨ m = 3 ∨ m = 4) := by
          simp only [pairsE, List.mem_cons, List.not_mem_nil, or_false] at hmem
          rcases hmem with rfl | rfl | rfl
          · exact ⟨2, 40, 41, rfl, rfl, rfl, .inl rfl⟩
          · exact ⟨3, 91, 93, rfl, rfl, rfl, .inr (.inl rfl)⟩
          · exact ⟨4, 123, 125, rfl, rfl, rfl, .inr (.inr rfl)⟩
        have hr1 : w1.heap = wr.heap := by rcases hw1 with rfl | rfl <;> rfl
        obtain ⟨W2, hW2⟩ : ∃ W, W = setBlock w1 (w.heap.size + 2) (.mapIter (some (w.heap.size + 1)) since (seen.push e.born) 3) := ⟨_, rfl⟩
        rw [← hW2, hkey, hval] at hrun
        have hh : ∀ i, i ≠ w.heap.size + 2 → W2.heap[i]? = wr.heap[i]? := by
          intro i hi
          subst hW2
          show (w1.heap.setIfInBounds _ _)[i]? = _
          rw [Array.getElem?_setIfInBounds_ne (by omega), hr1]
        have hit : W2.heap[w.heap.size + 2]? = some (.mapIter (some (w.heap.size + 1)) since (seen.push e.born) 3) := by
          subst hW2
          show (w1.heap.setIfInBounds _ _)[w.heap.size + 2]? = _
          have : w.heap.size + 2 < w1.heap.size := by rw [hr1]; exact (Array.getElem?_eq_some_iff.1 hl.it).1
          rw [Array.getElem?_setIfInBounds_self_of_lt this]
        have hbel2 : Below w.heap.size w W2 := by
          refine hl.bel.trans ?_
          subst hW2
          refine ⟨?_, ?_, ?_, ?_, fun i hi => ?_⟩
          · rcases hw1 with rfl | rfl <;> rfl
          · rcases hw1 with rfl | rfl <;> rfl
          · rcases hw1 with rfl | rfl <;> rfl
          · show wr.heap.size ≤ (w1.heap.setIfInBounds _ _).size
            rw [Array.size_setIfInBounds, hr1]
            exact Nat.le_refl _
          · exact hh i (by omega)
        have hnx : ∀ ty, (Instr.next (.pointer (some ⟨w.heap.size + 2, 0, none⟩)) false ty).run Tryd.prog wr = _ := fun _ => hrun
        have hen := run_entry_at (P := Tryd.prog) W2 (w.heap.size + 2) (w.heap.size + 1) since seen pairsE.toArray 3 e hit ((hh _ (by omega)).trans hl.map) (by simpa using hmem) (by decide)
        rw [hkey, hval] at hen
        have c0' : ∀ j, W2.cell? ⟨w.heap.size, j, none⟩ = wr.cell? ⟨w.heap.size, j, none⟩ := fun j => by simp only [World.cell?, hh w.heap.size (by omega)]
        have hc : ∀ j v, (tokV k s n).cells[j]? = some v → W2.cell? ⟨w.heap.size, j, none⟩ = some v := by
          intro j v h
          rw [c0' j]
          simp only [World.cell?, hl.tok]
          exact h
        have hen1 : (Instr.entry (.pointer (some ⟨w.heap.size + 1 + 1, 0, none⟩))).run Tryd.prog W2 = _ := hen
        have hsz : W2.heap.size = wr.heap.size := by
          rw [hW2]
          show (w1.heap.setIfInBounds _ _).size = _
          rw [Array.size_setIfInBounds, hr1]
        have htok := (hh w.heap.size (by omega)).trans hl.tok
        have hmap := (hh (w.heap.size + 1) (by omega)).trans hl.map
        have hrel0 : ∀ o o', (((W2.alloc o).alloc o').drew).heap[w.heap.size + 2]? = some (.mapIter (some (w.heap.size + 1)) since (seen.push e.born) 3) := fun o o' =>
          ((heap_old (W2.alloc o) o' _ (by rw [alloc_size]; have := (Array.getElem?_eq_some_iff.1 hit).1; omega)).trans (heap_old W2 o _ (Array.getElem?_eq_some_iff.1 hit).1)).trans hit
        have hlt : w.heap.size < W2.heap.size := (Array.getElem?_eq_some_iff.1 ((hh w.heap.size (by omega)).trans hl.tok)).1
        have d1 : ∀ (o : Obj) j, ((W2.alloc o).drew).cell? ⟨w.heap.size, j, none⟩ = W2.cell? ⟨w.heap.size, j, none⟩ := fun o j => World.cell?_alloc_past _ _ _ hlt
        have d2 : ∀ (o o' : Obj) j, (((W2.alloc o).drew.alloc o')).cell? ⟨w.heap.size, j, none⟩ = W2.cell? ⟨w.heap.size, j, none⟩ := fun o o' j => (World.cell?_alloc_past _ _ _ (by simp; omega)).trans (d1 o j)
        have d10 : ∀ (o : Obj), ((W2.alloc o).drew).cell? ⟨w.heap.size, 0, none⟩ = some (.int .i64 k) := fun o => (d1 o 0).trans (hc 0 _ rfl)
        have d11 : ∀ (o : Obj), ((W2.alloc o).drew).cell? ⟨w.heap.size, 1, none⟩ = some (.string s) := fun o => (d1 o 1).trans (hc 1 _ rfl)
        have d12 : ∀ (o : Obj), ((W2.alloc o).drew).cell? ⟨w.heap.size, 2, none⟩ = some (.int .i64 n) := fun o => (d1 o 2).trans (hc 2 _ rfl)
        have d20 : ∀ (o o' : Obj), ((W2.alloc o).drew.alloc o').cell? ⟨w.heap.size, 0, none⟩ = some (.int .i64 k) := fun o o' => (d2 o o' 0).trans (hc 0 _ rfl)
        have d21 : ∀ (o o' : Obj), ((W2.alloc o).drew.alloc o').cell? ⟨w.heap.size, 1, none⟩ = some (.string s) := fun o o' => (d2 o o' 1).trans (hc 1 _ rfl)
        have d22 : ∀ (o o' : Obj), ((W2.alloc o).drew.alloc o').cell? ⟨w.heap.size, 2, none⟩ = some (.int .i64 n) := fun o o' => (d2 o o' 2).trans (hc 2 _ rfl)
        have d30 : ∀ (o o' : Obj), ((W2.alloc o).alloc o').drew.cell? ⟨w.heap.size, 0, none⟩ = some (.int .i64 k) := d20
        have d31 : ∀ (o o' : Obj), ((W2.alloc o).alloc o').drew.cell? ⟨w.heap.size, 1, none⟩ = some (.string s) := d21
        have d32 : ∀ (o o' : Obj), ((W2.alloc o).alloc o').drew.cell? ⟨w.heap.size, 2, none⟩ = some (.int .i64 n) := d22
        clear d1 d2 hc c0' hh
        have hrel' : ∀ o o', ¬ (k = 7 ∧ s = firstOf m ∧ n = 0) → Loop1 w ((W2.alloc o).alloc o').drew k s n since (seen.push e.born) c0 := by
          intro o o' hne
          have hl2 : W2.heap.size = wr.heap.size := hsz
          have hp : ∀ i, i < W2.heap.size → (((W2.alloc o).alloc o').drew).heap[i]? = W2.heap[i]? := fun i hi =>
            (heap_old (W2.alloc o) o' i (by rw [alloc_size]; omega)).trans (heap_old W2 o i hi)
          have l2 : w.heap.size + 2 < W2.heap.size := (Array.getElem?_eq_some_iff.1 hit).1
          refine ⟨Below.drew ((hbel2.alloc (by omega) _).alloc (by simp; omega) _), ?_, ?_, ?_, hl.since3, ?_⟩
          · rw [hp _ (by omega)]; exact htok
          · rw [hp _ (by omega)]; exact hmap
          · rw [hp _ l2, hit, hl.since3.2]
          · intro x hx hc' m' hm'
            rw [contains_push] at hc'
            rcases Bool.or_eq_true _ _ ▸ hc' with h1 | h1
            · exact hl.no x hx h1 m' hm'
            · have hxe : x = e := born_inj (l := pairsE) (by decide) hx hmem (beq_iff_eq.1 h1)
              subst hxe
              rw [hkey] at hm'
              cases hm'
              exact hne
        have hmea : ∀ o o', (leftOf pairsE.toArray ((((W2.alloc o).alloc o').drew).iterSeen (w.heap.size + 2))).size < (leftOf pairsE.toArray (wr.iterSeen (w.heap.size + 2))).size := by
          intro o o'
          have hi := (hrel0 o o')
          have h1 : (((W2.alloc o).alloc o').drew).iterSeen (w.heap.size + 2) = seen.push e.born := by
            unfold World.iterSeen
            rw [hi]
          have h2 : wr.iterSeen (w.heap.size + 2) = seen := by
            unfold World.iterSeen
            rw [hl.it]
          rw [h1, h2]
          exact left_shrinks pairsE.toArray seen e he
        have hopen : k = 7 → s.toList = [a] → n = 0 → opensI k s n = m := by
          intro e1 e2 e3
          have e4 : s = firstOf m := by
            rw [hfm]
            rw [ByteArray.toList_eq] at e2
            obtain ⟨⟨x⟩⟩ := s
            simp only at e2
            rw [e2]
          unfold opensI
          rw [if_neg h2, if_pos ⟨e1, e3⟩, e4]
          rcases hm3 with rfl | rfl | rfl <;> rfl
        have hsz2 : w.heap.size ≤ W2.heap.size := by omega
        clear hW2 hsz htok hmap hrel0 hr1 hit hlt
        go_wp2
        clear hrun hnx hen hen1
        cases h7 : (k == 7)
        · have hne : ¬ (k = 7 ∧ s = firstOf m ∧ n = 0) := fun h => by simp [h.1] at h7
          go_region_with (go_at_call 31; refine (delim_calls _ _).mono ?_; rintro e w' ⟨rfl, rfl⟩)
          all_goals
            go_wp2
            exact ⟨⟨_, _, _, _, _, _, _, _, _, _, _, _, _, _, ⟨since, _, c0, hrel' _ _ hne⟩, rfl⟩, hmea _ _⟩
        · by_cases hs : s.toList = [a]
          · by_cases hn : n = 0
            · have hans : opensI k s n = m := hopen (by simpa using h7) hs hn
              go_region_with (go_at_call 31; refine (delim_calls _ _).mono ?_; rintro e w' ⟨rfl, rfl⟩)
              all_goals
                go_wp2
                go_ret
                refine ⟨by rw [hans]; rfl, Below.drew ((hbel2.alloc hsz2 _).alloc (by simp; omega) _)⟩
            · have hne : ¬ (k = 7 ∧ s = firstOf m ∧ n = 0) := fun h => hn h.2.2
              go_region_with (go_at_call 31; refine (delim_calls _ _).mono ?_; rintro e w' ⟨rfl, rfl⟩)
              all_goals
                go_wp2
                exact ⟨⟨_, _, _, _, _, _, _, _, _, _, _, _, _, _, ⟨since, _, c0, hrel' _ _ hne⟩, rfl⟩, hmea _ _⟩
          · have hne : ¬ (k = 7 ∧ s = firstOf m ∧ n = 0) := fun h => hs (by rw [h.2.1, hfm, ByteArray.toList_eq])
            go_region_with (go_at_call 31; refine (delim_calls _ _).mono ?_; rintro e w' ⟨rfl, rfl⟩)
            all_goals
              go_wp2
              exact ⟨⟨_, _, _, _, _, _, _, _, _, _, _, _, _, _, ⟨since, _, c0, hrel' _ _ hne⟩, rfl⟩, hmea _ _⟩

theorem opensI_eq (k : Int) (s : List UInt8) (n : Int) : opensI k ⟨s.toArray⟩ n = opensL k s n := by
  have h : ∀ l : List UInt8, ((⟨s.toArray⟩ : ByteArray) = ⟨l.toArray⟩) = (s = l) := fun l => by
    apply propext
    constructor
    · intro h; injection h with h; simpa using h
    · intro h; rw [h]
  have h1 := h [40]
  have h2 := h [91]
  have h3 := h [123]
  unfold opensI opensL
  simp only [h1, h2, h3]

def pOpens : Prim
  | [.agg [.pv (.int .i64 k), .pv (.str s), .pv (.int .i64 n)]], [] => some (.c (.pv (.int .i64 (opensL k s n))), [])
  | _, _ => none

theorem pOpens_ok {args : List AV} {bxs : List (List CV)} {x : AV × List (List CV)} (h : pOpens args bxs = some x) : Contract Tryd.prog 56 args bxs (.ret x.1 x.2) := by
  unfold pOpens at h
  split at h
  case h_2 => cases h
  rename_i k s n
  cases h
  refine contract_data fun G w cargs hw hargs => ?_
  obtain ⟨x, rfl, hx⟩ := args_one hargs
  obtain ⟨xs, rfl, hxs⟩ : ∃ xs : List Value, x = .agg xs.toArray ∧ All2 (RN G) [.pv (.int .i64 k), .pv (.str s), .pv (.int .i64 n)] xs := hx
  cases hxs with
  | cons ha hxs =>
  cases hxs with
  | cons hb hxs =>
  cases hxs with
  | cons hc hxs =>
  cases hxs
  cases (RA.of_RN (w := w) (ℓ := .ret) ha).intv
  cases (RA.of_RN (w := w) (ℓ := .ret) hb).strv
  cases (RA.of_RN (w := w) (ℓ := .ret) hc).intv
  refine (opens_calls k ⟨s.toArray⟩ n w).mono ?_
  rintro e w' ⟨rfl, hb⟩
  rw [opensI_eq]
  exact ⟨_, rfl, .int _ _, hb⟩
end Go.Abs
