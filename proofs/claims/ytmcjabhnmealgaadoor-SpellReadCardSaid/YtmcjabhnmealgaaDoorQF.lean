/-
  THE ABSTRACT INTERPRETER: functions of Go's library that are not interpreted: what they answer, and that they do.
  THE ABSTRACT INTERPRETER: Low of winnowingref04: it writes into a row that it has made; walked by hand.
-/
import Derived.Test.YtmcjabhnmealgaaDoorQC
import Derived.Test.YtmcjabhnmealgaaDoorQShelf
import Derived.Shelf.Strings.Builder1
set_option linter.unusedSimpArgs false
set_option linter.unusedVariables false
namespace Go.Abs
open Go Go.Proofs Go.RowKit

section
variable {P : Program} {G G' : Gh} {w w' : World}

/-- the world stays below the heap's end -/
theorem below_gr (hw : WI G w) (hb : Below w.heap.size w w') : Gr (fun _ => False) G w G w' ∧ WI G w' := by
  refine ⟨⟨⟨fun _ _ _ h => h, fun b hlt h => ⟨h, hb.block b hlt, fun _ => rfl⟩, hb.size, hb.os, hb.output, hb.tape, fun _ _ => rfl⟩, fun _ _ h => h, fun b ℓ h _ => ⟨h, hb.block b (ow_lt hw h), fun _ => rfl⟩⟩,
    ⟨fun b o y h => ?_, fun b h => hw.fresh b (Nat.le_trans hb.size h), hw.boxI, hw.bbow, hw.tab.map fun b hlt h => ⟨h, hb.block b hlt⟩⟩⟩
  rw [hb.cell (p := ⟨b, o, none⟩) (I_lt hw h)]
  exact hw.cell b o y h

/-- a call that turns nothing of what was there, and gives back data -/
theorem contract_data {f : FuncId} {args : List AV} {p : PV} (h : ∀ (G : Gh) (w : World) (cargs : List Value), WI G w → All2 (fun v x => RA G w .ret v x) args cargs →
    Calls P f cargs.toArray w fun e w' => ∃ x, e = .returned x ∧ RP G.I p x ∧ Below w.heap.size w w') : Contract P f args [] (.ret (.c (.pv p)) []) := by
  intro G w cargs hw hargs _ _ _
  refine (h G w cargs hw hargs).mono ?_
  rintro e w' ⟨x, rfl, hx, hb⟩
  obtain ⟨g, hw'⟩ := below_gr hw hb
  exact ⟨G, g.ext, hw', x, rfl, hx, rfl, fun i l h => by simp at h⟩

theorem args_one {v : AV} {cargs : List Value} (h : All2 (fun v x => RA G w .ret v x) [v] cargs) : ∃ x, cargs = [x] ∧ RA G w .ret v x := by
  cases h with
  | cons h1 h2 => cases h2; exact ⟨_, rfl, h1⟩

theorem args_two {u v : AV} {cargs : List Value} (h : All2 (fun v x => RA G w .ret v x) [u, v] cargs) : ∃ x y, cargs = [x, y] ∧ RA G w .ret u x ∧ RA G w .ret v y := by
  cases h with
  | cons h1 h2 =>
    cases h2 with
    | cons h3 h4 => cases h4; exact ⟨_, _, rfl, h1, h3⟩

abbrev Prim := List AV → List (List CV) → Option (AV × List (List CV))

/-! ### strings -/

def pContains : Prim
  | [.c (.pv (.str s)), .c (.pv (.str [c]))], [] => some (.c (.pv (.bool (decide (0 ≤ Lib.indexByte s c)))), [])
  | _, _ => none

def pHasPrefix : Prim
  | [.c (.pv (.str s)), .c (.pv (.str p))], [] => some (.c (.pv (.bool (Lib.hasPrefix s p))), [])
  | _, _ => none

def pIndexByte : Prim
  | [.c (.pv (.str s)), .c (.pv (.int .u8 c))], [] => some (.c (.pv (.int .i64 (Lib.indexByte s c.toNat.toUInt8))), [])
  | _, _ => none

def pIndex : Prim
  | [.c (.pv (.str s)), .c (.pv (.str p))], [] => if s.length < 4294967281 then some (.c (.pv (.int .i64 (Lib.index s p))), []) else none
  | _, _ => none

def pItoa : Prim
  | [.c (.pv (.int .i64 n))], [] => if -9223372036854775808 ≤ n ∧ n ≤ 9223372036854775807 then some (.c (.pv (.str (Lib.itoa n))), []) else none
  | _, _ => none

def strsOf : List (List PV) → Option (List (List UInt8))
  | [] => some []
  | [.str s] :: l => (strsOf l).map (s :: ·)
  | _ => none

def joinLim : Nat := 140737488355328

def pJoin : Prim
  | [x, .c (.pv (.str sep))], [] =>
    match x with
    | .c .nils => some (.c (.pv (.str [])), [])
    | .c (.pv (.sl c)) =>
      (match strsOf c with
       | some l => if c.length ≤ joinLim ∧ (Lib.join l sep).length ≤ joinLim then some (.c (.pv (.str (Lib.join l sep))), []) else none
       | none => none)
    | _ => none
  | _, _ => none


theorem pContains_ok {args : List AV} {bxs : List (List CV)} {x : AV × List (List CV)} (h : pContains args bxs = some x) : Contract Tryd.prog 41 args bxs (.ret x.1 x.2) := by
  unfold pContains at h
  split at h
  case h_2 => cases h
  rename_i s c
  cases h
  refine contract_data fun G w cargs hw hargs => ?_
  obtain ⟨x, y, rfl, hx, hy⟩ := args_two hargs
  cases hx.strv
  cases hy.strv
  refine (Tryd.strings_Contains_one ⟨s.toArray⟩ c w).mono ?_
  rintro e w' ⟨rfl, rfl⟩
  exact ⟨_, rfl, .bool _, .refl _ _⟩



theorem pIndex_ok {args : List AV} {bxs : List (List CV)} {x : AV × List (List CV)} (h : pIndex args bxs = some x) : Contract Tryd.prog 61 args bxs (.ret x.1 x.2) := by
  unfold pIndex at h
  split at h
  case h_2 => cases h
  rename_i s p
  split at h
  case isFalse => cases h
  rename_i hs
  cases h
  refine contract_data fun G w cargs hw hargs => ?_
  obtain ⟨x, y, rfl, hx, hy⟩ := args_two hargs
  cases hx.strv
  cases hy.strv
  obtain ⟨_, m, cs, ty, fz, hm, hm0⟩ := hw.tab.2 0 (by simp [ints])
  refine (Tryd.strings_Index ⟨s.toArray⟩ ⟨p.toArray⟩ m w (by show s.toArray.size < _; simpa using hs) ((cell_of_heap hm 0).trans hm0)).mono ?_
  rintro e w' ⟨rfl, rfl⟩
  exact ⟨_, rfl, .int _ _, .refl _ _⟩

theorem pow10_tab (hw : WI G w) : Lib.TabIs Tryd.prog w "internal/strconv.uint64pow10" .u64 Lib.pow10Tab := by
  obtain ⟨_, ty, fz, h⟩ := hw.tab.1 (1, (List.range 20).map fun i => .int .u64 ((10 ^ i : Nat) : Int)) (by simp [tabs])
  have hg : Tryd.prog.globalNamed "internal/strconv.uint64pow10" = some 1 := by kernel_rfl
  unfold Lib.TabIs World.var?
  simp only [hg, Option.bind_some, h, Lib.pow10Tab, List.map_map]
  rfl

theorem pItoa_ok {args : List AV} {bxs : List (List CV)} {x : AV × List (List CV)} (h : pItoa args bxs = some x) : Contract Tryd.prog 29 args bxs (.ret x.1 x.2) := by
  unfold pItoa at h
  split at h
  case h_2 => cases h
  rename_i n
  split at h
  case isFalse => cases h
  rename_i hn
  cases h
  refine contract_data fun G w cargs hw hargs => ?_
  obtain ⟨x, rfl, hx⟩ := args_one hargs
  cases hx.intv
  refine (Tryd.strconv_Itoa n hn.1 hn.2 w (pow10_tab hw)).mono ?_
  rintro e w' ⟨rfl, k, os, rfl⟩
  refine ⟨_, rfl, .str _, ⟨rfl, rfl, rfl, ?_, fun j hj => ?_⟩⟩
  · show w.heap.size ≤ (w.heap ++ os).size
    simp
  · show (w.heap ++ os)[j]? = _
    rw [Array.getElem?_append_left hj]

theorem strsOf_seg {I : Nat → Nat → Option Value} : ∀ {c : List (List PV)} {l : List (List UInt8)}, strsOf c = some l → c.length = l.length ∧ ∀ (i : Nat) (s : List UInt8), l[i]? = some s → c[i]? = some [.str s]
  | [], l, h => by simp [strsOf] at h; subst h; exact ⟨rfl, fun i s h => by simp at h⟩
  | el :: c, l, h => by
    unfold strsOf at h
    split at h
    · rename_i e1; cases e1
    · rename_i s m e1
      cases e1
      rw [Option.map_eq_some_iff] at h
      obtain ⟨m', hm, rfl⟩ := h
      obtain ⟨h1, h2⟩ := strsOf_seg (I := I) hm
      refine ⟨by simp [h1], fun i t hi => ?_⟩
      cases i with
      | zero => simp at hi; subst hi; rfl
      | succ i => simpa using h2 i t (by simpa using hi)
    · cases h

theorem pJoin_ok {args : List AV} {bxs : List (List CV)} {x : AV × List (List CV)} (h : pJoin args bxs = some x) : Contract Tryd.prog 13 args bxs (.ret x.1 x.2) := by
  unfold pJoin at h
  split at h
  case h_2 => cases h
  rename_i v sep
  split at h
  · cases h
    refine contract_data fun G w cargs hw hargs => ?_
    obtain ⟨x, y, rfl, hx, hy⟩ := args_two hargs
    cases hy.strv
    have hx' : x = .slice none 0 0 := hx
    subst hx'
    refine (Tryd.strings_Join_none none 0 ⟨sep.toArray⟩ w).mono ?_
    rintro e w' ⟨rfl, rfl⟩
    exact ⟨_, rfl, .str [], .refl _ _⟩
  · rename_i c
    split at h
    case h_2 => cases h
    rename_i l hl
    split at h
    case isFalse => cases h
    rename_i hb
    cases h
    refine contract_data fun G w cargs hw hargs => ?_
    obtain ⟨x, y, rfl, hx, hy⟩ := args_two hargs
    cases hy.strv
    obtain ⟨ad, cap, rfl, hcap, hne⟩ := RP.slice_inv (hx : RP G.I (.sl c) x)
    obtain ⟨hlen, hget⟩ := strsOf_seg (I := G.I) hl
    by_cases hc : c = []
    · subst hc
      have hl0 : l = [] := List.eq_nil_of_length_eq_zero (by rw [← hlen]; rfl)
      subst hl0
      refine (Tryd.strings_Join_none ad cap ⟨sep.toArray⟩ w).mono ?_
      rintro e w' ⟨rfl, rfl⟩
      exact ⟨_, rfl, .str [], .refl _ _⟩
    · obtain ⟨b, o, sz, rfl, hsz, hseg⟩ := hne hc
      have hcl : 0 < c.length := List.length_pos_iff.2 hc
      have hsz1 : sz = 1 := by
        obtain ⟨s0, hs0⟩ : ∃ s0, l[0]? = some s0 := ⟨l[0]'(by omega), by simp⟩
        have := hget 0 s0 hs0
        exact (hsz [PV.str s0] (List.mem_of_getElem? this)).symm
      subst hsz1
      have hcells : ∀ (j : Nat) (s : List UInt8), l[j]? = some s → G.I b (o + j) = some (.string ⟨s.toArray⟩) := fun j s hj => by
        obtain ⟨y, h1, h2⟩ := hseg j _ 0 (.str s) (hget j s hj) rfl
        cases h2
        simpa using h1
      have hbk : b < w.heap.size := by
        obtain ⟨s0, hs0⟩ : ∃ s0, l[0]? = some s0 := ⟨l[0]'(by omega), by simp⟩
        exact I_lt hw (hcells 0 s0 hs0)
      have hmap : ((l.map fun s => (⟨s.toArray⟩ : ByteArray)).map (·.data.toList)) = l := by
        rw [List.map_map]
        conv => rhs; rw [← List.map_id l]
        exact List.map_congr_left fun s _ => by simp
      have hrun := Tryd.strings_Join b o cap (l.map fun s => (⟨s.toArray⟩ : ByteArray)) ⟨sep.toArray⟩ w (fun j x hj => by
        rw [List.getElem?_map, Option.map_eq_some_iff] at hj
        obtain ⟨s, hs, rfl⟩ := hj
        exact hw.cell _ _ _ (hcells j s hs)) hbk (by simp only [List.length_map, ← hlen]; exact hb.1) (by simp only [List.length_map, ← hlen]; exact hcap) (by rw [hmap]; exact hb.2)
      rw [hmap] at hrun
      simp only [List.length_map, ← hlen] at hrun
      refine hrun.mono ?_
      rintro e w' ⟨rfl, hbel⟩
      exact ⟨_, rfl, .str _, hbel⟩
  · cases h

/-! ### strings.Builder -/

def pCopyCheck : Prim
  | [.c (.loc k 0)], [[a, v]] =>
    if k = LK then
      match a with
      | .bld => some (.tup [], [[.loc LK 0, v]])
      | .loc j o => if j = LK ∧ o = 0 then some (.tup [], [[.loc LK 0, v]]) else none
      | _ => none
    else none
  | _, _ => none

set_option maxHeartbeats 1000000 in
set_option maxRecDepth 100000 in
theorem copyCheck_used (b : Nat) (w : World) (h0 : w.cell? ⟨b, 0, none⟩ = some (.pointer (some ⟨b, 0, none⟩))) :
    Calls Tryd.prog 39 #[.pointer (some ⟨b, 0, none⟩)] w fun e w' => e = .returned (.tuple #[]) ∧ w' = w := by
  obtain ⟨j, hj⟩ : ∃ j, Tryd.prog.info? 51 = some j := ⟨_, rfl⟩
  go_enter Tryd.func39, Tryd.ntmps39
  go_wp2
  rw [Lib.run_neq_ptr_same w _ Tryd.underlying48 hj]
  go_wp2
  go_end0
  exact ⟨rfl, rfl⟩

set_option maxHeartbeats 1000000 in
set_option maxRecDepth 100000 in
theorem copyCheck_fresh (b : Nat) (w : World) (ty : TypeId) (hty : ty ∈ bldTypes) (h0 : w.cell? ⟨b, 0, none⟩ = some (.pointer none)) (hsh : w.shape? b = some (ty, 2)) (hfz : w.frozen? ⟨b, 0, none⟩ = false) :
    Calls Tryd.prog 39 #[.pointer (some ⟨b, 0, none⟩)] w fun e w' => e = .returned (.tuple #[]) ∧ w' = w.setCell ⟨b, 0, none⟩ (.pointer (some ⟨b, 0, none⟩)) := by
  obtain ⟨j, hj, hjs⟩ : ∃ j, Tryd.prog.info? 51 = some j ∧ j.size = 2 := ⟨_, rfl, rfl⟩
  have hlies : liesAt Tryd.prog Tryd.prog.depth ty (2 / Tryd.prog.cellsOf ty) 0 51 1 = true := by
    have : bldTypes.all (fun t => liesAt Tryd.prog Tryd.prog.depth t (2 / Tryd.prog.cellsOf t) 0 51 1) = true := by kernel_rfl
    exact List.all_eq_true.1 this ty hty
  go_enter Tryd.func39, Tryd.ntmps39
  go_wp2
  rw [Lib.run_to_unsafe w ⟨b, 0, none⟩ Tryd.underlying48 Tryd.underlying106 hj (by rw [hjs]; decide) hsh (Nat.zero_lt_succ 1)]
  simp only [Result.andThen]
  rw [Oper.upon_value]
  go_wp2
  rw [run_callFunc_extern Tryd.func59 (by kernel_rfl) (by kernel_rfl) (by kernel_rfl) (e := Extern.AbiNoEscape.same) (by kernel_rfl)]
  rw [Lib.run_noEscape]
  simp only [Result.andThen]
  rw [Oper.upon_value]
  go_wp2
  rw [Lib.run_from_unsafe w ⟨b, 0, none⟩ Tryd.underlying106 Tryd.underlying48 hj hsh hlies]
  simp only [Result.andThen]
  rw [Oper.upon_value]
  go_wp2
  go_end0
  exact ⟨rfl, rfl⟩
theorem setCell_row {b o : Nat} {cs : Array Value} {ty : TypeId} {fz : Nat × Nat} (h : w.heap[b]? = some (.cells cs ty fz)) (v : Value) : w.setCell ⟨b, o, none⟩ v = w.setRow b (cs.setIfInBounds o v) := by
  have hlt : b < w.heap.size := (Array.getElem?_eq_some_iff.1 h).1
  have hv : w.heap[b] = .cells cs ty fz := (Array.getElem?_eq_some_iff.1 h).2
  have e : (w.setCell ⟨b, o, none⟩ v).heap = (w.setRow b (cs.setIfInBounds o v)).heap := by
    apply Array.ext
    · simp [World.setCell, World.setRow]
    · intro i h1 h2
      simp only [World.setCell, World.setRow, Array.getElem_modify]
      split
      · rename_i hi; subst hi; simp [hv]
      · rfl
  show World.mk _ _ _ _ _ = World.mk _ _ _ _ _
  congr 1

theorem pCopyCheck_ok {args : List AV} {bxs : List (List CV)} {x : AV × List (List CV)} (h : pCopyCheck args bxs = some x) : Contract Tryd.prog 39 args bxs (.ret x.1 x.2) := by
  unfold pCopyCheck at h
  split at h
  case h_2 => cases h
  rename_i k a v
  split at h
  case isFalse => cases h
  rename_i hk
  subst hk
  intro G w cargs hw hargs hno hb hbb
  obtain ⟨y, rfl, hy⟩ := args_one hargs
  obtain ⟨b, hb0, rfl⟩ : ∃ b, G.bb LK = some b ∧ y = .pointer (some ⟨b, 0, none⟩) := hy
  obtain ⟨b', cs, ty, hb', hh, ⟨hsz, hbl⟩, hcells⟩ := hb 0 [a, v] rfl
  rw [show LK + 0 = LK from rfl] at hb'
  rw [hb0] at hb'; cases hb'
  obtain ⟨x0, h0, hr0⟩ := hcells 0 a rfl
  obtain ⟨x1, h1, hr1⟩ := hcells 1 v rfl
  have hsz2 : cs.size = 2 := hsz
  have c0 : w.cell? ⟨b, 0, none⟩ = some x0 := (cell_of_heap hh 0).trans h0
  split at h
  · cases h
    have e0 : x0 = .pointer none := hr0
    subst e0
    have hrun := copyCheck_fresh b w ty (hbl rfl) c0 (by simp [World.shape?, hh, hsz2]) (by simp [World.frozen?, hh])
    refine hrun.mono ?_
    rintro e w' ⟨rfl, rfl⟩
    rw [setCell_row hh]
    obtain ⟨g, hw'⟩ := setRow_gr hw hb0 hh (new := cs.setIfInBounds 0 (.pointer (some ⟨b, 0, none⟩)))
    refine ⟨G, g.ext, hw', _, rfl, ⟨[], rfl, .nil⟩, rfl, fun i l hl => ?_⟩
    cases i with
    | succ i => simp at hl
    | zero =>
      simp at hl
      subst hl
      refine ⟨b, _, ty, hb0, setRow_heap w b cs _ ty _ hh, ⟨by simpa using hsz2, fun e => by simp at e⟩, fun k u hu => ?_⟩
      match k, hu with
      | 0, hu =>
        simp at hu; subst hu
        exact ⟨_, by simp [hsz2], ⟨b, hb0, rfl⟩⟩
      | 1, hu =>
        simp at hu; subst hu
        exact ⟨x1, by simpa using h1, RC.gr hr1 g (by simp)⟩
      | k + 2, hu => simp at hu
  · rename_i j o
    split at h
    case isFalse => cases h
    rename_i hjo
    obtain ⟨rfl, rfl⟩ := hjo
    cases h
    obtain ⟨b2, hb2, rfl⟩ : ∃ b, G.bb LK = some b ∧ x0 = .pointer (some ⟨b, 0, none⟩) := hr0
    rw [hb0] at hb2; cases hb2
    refine (copyCheck_used b w c0).mono ?_
    rintro e w' ⟨rfl, rfl⟩
    refine ⟨G, .refl _ _, hw, _, rfl, ⟨[], rfl, .nil⟩, rfl, fun i l hl => ?_⟩
    cases i with
    | succ i => simp at hl
    | zero => simp at hl; subst hl; exact hb 0 _ rfl
  · cases h

/-! ### String -/

def bytesIn : List (List PV) → Option (List UInt8)
  | [] => some []
  | [.int .u8 n] :: l => if 0 ≤ n ∧ n < 256 then (bytesIn l).map (UInt8.ofNat n.toNat :: ·) else none
  | _ => none

def pString : Prim
  | [.c (.loc k 0)], [[a, v]] =>
    if k = LK then
      match v with
      | .nils => some (.c (.pv (.str [])), [[a, .nils]])
      | .own e c => (match bytesIn c with
        | some s => if (e = 5 ∨ c.isEmpty = true) ∧ s.length < strLim then some (.c (.pv (.str s)), [[a, .pv (.sl c)]]) else none
        | none => none)
      | _ => none
    else none
  | _, _ => none

section
open Go.Shelf
variable {ρ : Ren}

set_option linter.unusedVariables false in
set_option maxHeartbeats 2000000 in
set_option maxRecDepth 100000 in
/-- String, at a builder that holds a byte: the bytes; they are frozen in the buffer. -/
theorem string_some (L : Lays.n169 P ρ) (X : Builder.Extra P ρ) (b g cap : Nat) (l : List UInt8) (cur : Array Value) (w : World) (hc : w.cell? ⟨b, 1, none⟩ = some (.slice (some ⟨g, 0, none⟩) l.length cap))
    (hg : w.heap[g]? = some (.cells cur (ρ.t 5) (0, 0))) (h0 : l ≠ []) (hnc : l.length ≤ cap) (hcs : cap ≤ cur.size) (h63 : l.length ≤ 9223372036854775807)
    (hcell : ∀ j x, l[j]? = some x → w.cell? ((⟨g, 0, none⟩ : Addr).add j) = some (.int .u8 x.toNat)) :
    Calls P (ρ.f 169) #[.pointer (some ⟨b, 0, none⟩)] w fun e w' => e = .returned (.string ⟨l.toArray⟩) ∧ w' = w.drew.freeze ⟨g, 0, none⟩ l.length := by
  have hl0 : 0 < l.length := List.length_pos_iff.2 h0
  have c1 : w.drew.cell? ⟨b, 1, none⟩ = some (.slice (some ⟨g, 0, none⟩) l.length cap) := hc
  have hSD : (Builtin.unsafeSliceData_ #[(ρ.t 37)] (ρ.t 127) #[.slice (some ⟨g, 0, none⟩) l.length cap]).run P w.drew = .ok (.pointer (some ⟨g, 0, none⟩)) w.drew :=
    Lib.run_unsafeSliceData_row _ _ _ _ _ _ (by omega)
  have hUS : (Builtin.unsafeString_ #[(ρ.t 127), (ρ.t 3)] (ρ.t 9) #[.pointer (some ⟨g, 0, none⟩), .int .i64 l.length]).run P w.drew = .ok (.string ⟨l.toArray⟩) (w.drew.freeze ⟨g, 0, none⟩ l.length) := by
    refine Lib.run_unsafeString_row w.drew (ρ.t 127) (ρ.t 3) (ρ.t 9) (ρ.t 5) L.t127 X.cellsByte g cur.size (by have hg' : w.drew.heap[g]? = some (.cells cur (ρ.t 5) (0, 0)) := hg; simp [World.shape?, hg']) l h0 (by omega) h63 hcell
  have mixed := L.mixed
  have t72 := L.t72; have a72 := L.a72; have z72 := L.z72; have v72 := L.v72; have u72 := run_underlying L.t72
  have t70 := L.t70; have a70 := L.a70; have z70 := L.z70; have v70 := L.v70; have u70 := run_underlying L.t70
  have t37 := L.t37; have a37 := L.a37; have z37 := L.z37; have v37 := L.v37; have u37 := run_underlying L.t37
  have t127 := L.t127; have a127 := L.a127; have z127 := L.z127; have v127 := L.v127; have u127 := run_underlying L.t127
  have t3 := L.t3; have a3 := L.a3; have z3 := L.z3; have v3 := L.v3; have u3 := run_underlying L.t3
  have t9 := L.t9; have a9 := L.a9; have z9 := L.z9; have v9 := L.v9; have u9 := run_underlying L.t9
  have t5 := X.t5; have a5 := X.a5; have z5 := X.z5; have v5 := X.v5; have u5 := run_underlying X.t5
  go_enter L.f169, Body.n169_ntmps ρ
  go_wp2
  go_region_o
  all_goals (go_wp2; go_ret; exact ⟨rfl, rfl⟩)

set_option linter.unusedVariables false in
set_option maxHeartbeats 2000000 in
set_option maxRecDepth 100000 in
theorem string_nil (L : Lays.n169 P ρ) (X : Builder.Extra P ρ) (b : Nat) (w : World) (hc : w.cell? ⟨b, 1, none⟩ = some (.slice none 0 0)) :
    Calls P (ρ.f 169) #[.pointer (some ⟨b, 0, none⟩)] w fun e w' => e = .returned (.string ⟨#[]⟩) ∧ w' = w.drew := by
  have hUS := Any.unsafeString_none L X
  have c1 : w.drew.cell? ⟨b, 1, none⟩ = some (.slice none 0 0) := hc
  have hSD : (Builtin.unsafeSliceData_ #[(ρ.t 37)] (ρ.t 127) #[.slice none 0 0]).run P w.drew = .ok (.pointer none) w.drew := rfl
  have mixed := L.mixed
  have t72 := L.t72; have a72 := L.a72; have z72 := L.z72; have v72 := L.v72; have u72 := run_underlying L.t72
  have t70 := L.t70; have a70 := L.a70; have z70 := L.z70; have v70 := L.v70; have u70 := run_underlying L.t70
  have t37 := L.t37; have a37 := L.a37; have z37 := L.z37; have v37 := L.v37; have u37 := run_underlying L.t37
  have t127 := L.t127; have a127 := L.a127; have z127 := L.z127; have v127 := L.v127; have u127 := run_underlying L.t127
  have t3 := L.t3; have a3 := L.a3; have z3 := L.z3; have v3 := L.v3; have u3 := run_underlying L.t3
  have t9 := L.t9; have a9 := L.a9; have z9 := L.z9; have v9 := L.v9; have u9 := run_underlying L.t9
  have t5 := X.t5; have a5 := X.a5; have z5 := X.z5; have v5 := X.v5; have u5 := run_underlying X.t5
  go_enter L.f169, Body.n169_ntmps ρ
  go_wp2
  go_region_o
  all_goals (go_wp2; go_ret; exact ⟨rfl, rfl⟩)

set_option linter.unusedVariables false in
set_option maxHeartbeats 2000000 in
set_option maxRecDepth 100000 in
theorem string_zero (L : Lays.n169 P ρ) (X : Builder.Extra P ρ) (b g : Nat) (cur : Array Value) (e : TypeId) (w : World) (hlt : b < w.heap.size) (hc : w.cell? ⟨b, 1, none⟩ = some (.slice (some ⟨g, 0, none⟩) 0 0)) (hg : w.heap[g]? = some (.cells cur e (0, 0))) :
    Calls P (ρ.f 169) #[.pointer (some ⟨b, 0, none⟩)] w fun e w' => e = .returned (.string ⟨#[]⟩) ∧ w' = w.drew.alloc (.view ⟨g, 0, none⟩ (ρ.t 5)) := by
  have hUS := Any.unsafeString_none L X
  have c1 : w.drew.cell? ⟨b, 1, none⟩ = some (.slice (some ⟨g, 0, none⟩) 0 0) := hc
  have hSD : (Builtin.unsafeSliceData_ #[(ρ.t 37)] (ρ.t 127) #[.slice (some ⟨g, 0, none⟩) 0 0]).run P w.drew = .ok (.pointer (some ⟨w.drew.heap.size, 0, none⟩)) (w.drew.alloc (.view ⟨g, 0, none⟩ (ρ.t 5))) :=
    Lib.run_unsafeSliceData_zero w.drew _ _ (ρ.t 5) L.t127 ⟨g, 0, none⟩ 0 (e, cur.size) (by have hg' : w.drew.heap[g]? = some (.cells cur e (0, 0)) := hg; simp [World.shape?, hg'])
  have c2 : (w.drew.alloc (.view ⟨g, 0, none⟩ (ρ.t 5))).cell? ⟨b, 1, none⟩ = some (.slice (some ⟨g, 0, none⟩) 0 0) := by
    rw [cell_alloc_old w.drew _ hlt]; exact hc
  have c3 : (w.alloc (.view ⟨g, 0, none⟩ (ρ.t 5))).drew.cell? ⟨b, 1, none⟩ = some (.slice (some ⟨g, 0, none⟩) 0 0) := c2
  have c0 : w.cell? ⟨b, 1, none⟩ = some (.slice (some ⟨g, 0, none⟩) 0 0) := c1
  have mixed := L.mixed
  have t72 := L.t72; have a72 := L.a72; have z72 := L.z72; have v72 := L.v72; have u72 := run_underlying L.t72
  have t70 := L.t70; have a70 := L.a70; have z70 := L.z70; have v70 := L.v70; have u70 := run_underlying L.t70
  have t37 := L.t37; have a37 := L.a37; have z37 := L.z37; have v37 := L.v37; have u37 := run_underlying L.t37
  have t127 := L.t127; have a127 := L.a127; have z127 := L.z127; have v127 := L.v127; have u127 := run_underlying L.t127
  have t3 := L.t3; have a3 := L.a3; have z3 := L.z3; have v3 := L.v3; have u3 := run_underlying L.t3
  have t9 := L.t9; have a9 := L.a9; have z9 := L.z9; have v9 := L.v9; have u9 := run_underlying L.t9
  have t5 := X.t5; have a5 := X.a5; have z5 := X.z5; have v5 := X.v5; have u5 := run_underlying X.t5
  go_enter L.f169, Body.n169_ntmps ρ
  go_wp2
  go_region_o
  all_goals (go_wp2; go_ret; exact ⟨rfl, rfl⟩)

end

theorem bytesIn_get : ∀ {c : List (List PV)} {s : List UInt8}, bytesIn c = some s → c.length = s.length ∧ ∀ (j : Nat) (x : UInt8), s[j]? = some x → c[j]? = some [.int .u8 x.toNat]
  | [], s, h => by simp [bytesIn] at h; subst h; exact ⟨rfl, fun j x h => by simp at h⟩
  | el :: c, s, h => by
    unfold bytesIn at h
    split at h
    · rename_i e1; cases e1
    · rename_i n m e1
      cases e1
      split at h
      case isFalse => cases h
      rename_i hn
      rw [Option.map_eq_some_iff] at h
      obtain ⟨m', hm, rfl⟩ := h
      obtain ⟨h1, h2⟩ := bytesIn_get hm
      refine ⟨by simp [h1], fun j x hj => ?_⟩
      cases j with
      | zero =>
        simp at hj; subst hj
        have : ((UInt8.ofNat n.toNat).toNat : Int) = n := by
          rw [UInt8.toNat_ofNat']
          omega
        show some [PV.int .u8 n] = some [PV.int .u8 ((UInt8.ofNat n.toNat).toNat : Int)]
        rw [this]
      | succ j => simpa using h2 j x (by simpa using hj)
    · cases h

theorem freeze_other (w : World) (g n b : Nat) (h : b ≠ g) : (w.freeze ⟨g, 0, none⟩ n).heap[b]? = w.heap[b]? := by
  unfold World.freeze
  split
  · rfl
  · simp [Array.getElem?_modify, Ne.symm h]

theorem freeze_at (w : World) (g n : Nat) {cur : Array Value} {e : TypeId} (h : w.heap[g]? = some (.cells cur e (0, 0))) (hn : n ≠ 0) : (w.freeze ⟨g, 0, none⟩ n).heap[g]? = some (.cells cur e (0, 0 + n)) := by
  unfold World.freeze
  rw [if_neg hn]
  simp [Array.getElem?_modify, h]

theorem freeze_size (w : World) (g n : Nat) : (w.freeze ⟨g, 0, none⟩ n).heap.size = w.heap.size := by
  unfold World.freeze
  split
  · rfl
  · simp

theorem freeze_rest (w : World) (g n : Nat) : (w.freeze ⟨g, 0, none⟩ n).os = w.os ∧ (w.freeze ⟨g, 0, none⟩ n).output = w.output ∧ (w.freeze ⟨g, 0, none⟩ n).tape = w.tape := by
  unfold World.freeze
  split <;> exact ⟨rfl, rfl, rfl⟩

theorem freeze_gr (hw : WI G w) {g n : Nat} {ℓ : Own} {cur : Array Value} {e : TypeId} (ho : G.ow g = some ℓ) (hg : w.heap[g]? = some (.cells cur e (0, 0))) (hn : n ≠ 0) :
    Gr (fun o => o = ℓ) G w G (w.freeze ⟨g, 0, none⟩ n) ∧ WI G (w.freeze ⟨g, 0, none⟩ n) := by
  obtain ⟨r1, r2, r3⟩ := freeze_rest w g n
  have hne : ∀ b, G.ow b = none → b ≠ g := fun b hb e => by rw [e, ho] at hb; cases hb
  refine ⟨⟨⟨fun _ _ _ h => h, fun b _ hb => ⟨hb, freeze_other w g n b (hne b hb), fun _ => rfl⟩, by rw [freeze_size]; exact Nat.le_refl _, r1, r2, r3, fun _ _ => rfl⟩, fun _ _ h => h,
      fun b m hm hc => ⟨hm, freeze_other w g n b (fun e => hc (by rw [e, ho] at hm; exact (Option.some.inj hm).symm)), fun _ => rfl⟩⟩,
    ⟨fun b o y h => ?_, fun b hb => hw.fresh b (by rw [freeze_size] at hb; exact hb), hw.boxI, hw.bbow, hw.tab.map fun b _ hb => ⟨hb, freeze_other w g n b (hne b hb)⟩⟩⟩
  have h1 := hw.cell b o y h
  by_cases hbg : b = g
  · subst hbg
    rw [cell_of_heap (freeze_at w b n hg hn)]
    rw [cell_of_heap hg] at h1; exact h1
  · exact (World.cell?_of_block (w := w) (a := ⟨b, o, none⟩) (freeze_other w g n b hbg)).trans h1

theorem pString_ok {args : List AV} {bxs : List (List CV)} {x : AV × List (List CV)} (h : pString args bxs = some x) : Contract Tryd.prog 16 args bxs (.ret x.1 x.2) := by
  unfold pString at h
  split at h
  case h_2 => cases h
  rename_i k a v
  split at h
  case isFalse => cases h
  rename_i hk
  subst hk
  have boxes : ∀ {G : Gh} {w w' : World} {v' : CV} {ch : Own → Prop}, BoxR G w LK [a, v] → WI G w → Gr ch G w G w' → ¬ ch (.box LK) → ¬ ch (.cell LK 0) → (∀ y, RC G w (.cell LK 1) v y → RC G w' (.cell LK 1) v' y) →
      ∀ (i : Nat) (l : List CV), [[a, v']][i]? = some l → BoxR G w' (LK + i) l := by
    intro G w w' v' ch hbx hw g n1 n2 hv i l hl
    cases i with
    | succ i => simp at hl
    | zero =>
      simp at hl
      subst hl
      obtain ⟨b, cs, ty, hb0, hh, ⟨hsz, hbl⟩, hcells⟩ := hbx
      refine ⟨b, cs, ty, hb0, (g.keep b _ (hw.bbow _ _ hb0) n1).2.1.trans hh, ⟨hsz, fun e => hbl (by simpa using e)⟩, fun k u hu => ?_⟩
      match k, hu with
      | 0, hu =>
        simp at hu; subst hu
        obtain ⟨x0, h0, hr0⟩ := hcells 0 a rfl
        exact ⟨x0, h0, RC.gr hr0 g n2⟩
      | 1, hu =>
        simp at hu; subst hu
        obtain ⟨x1, h1, hr1⟩ := hcells 1 v rfl
        exact ⟨x1, h1, hv x1 hr1⟩
      | k + 2, hu => simp at hu
  have base : ∀ {G : Gh} {w : World} {cargs : List Value} {Q : Nat → Value → Prop}, All2 (fun v x => RA G w .ret v x) [.c (.loc LK 0)] cargs → BoxR G w LK [a, v] → 
      (∀ b x1, G.bb LK = some b → b < w.heap.size → w.cell? ⟨b, 1, none⟩ = some x1 → RC G w (.cell LK 1) v x1 → Q b x1) → ∃ b x1, cargs = [.pointer (some ⟨b, 0, none⟩)] ∧ Q b x1 := by
    intro G w cargs Q hargs hbx hq
    obtain ⟨y, rfl, hy⟩ := args_one hargs
    obtain ⟨b, hb0, rfl⟩ : ∃ b, G.bb LK = some b ∧ y = .pointer (some ⟨b, 0, none⟩) := hy
    obtain ⟨b', cs, ty, hb', hh, ⟨hsz, hbl⟩, hcells⟩ := hbx
    rw [hb0] at hb'; cases hb'
    obtain ⟨x1, h1, hr1⟩ := hcells 1 v rfl
    exact ⟨b, x1, rfl, hq b x1 hb0 (Array.getElem?_eq_some_iff.1 hh).1 ((cell_of_heap hh 1).trans h1) hr1⟩
  split at h
  · cases h
    intro G w cargs hw hargs hno hb hbb
    have hbx := hb 0 _ rfl
    obtain ⟨b, x1, rfl, hx1, hc⟩ := base (Q := fun b x1 => x1 = .slice none 0 0 ∧ w.cell? ⟨b, 1, none⟩ = some x1) hargs hbx fun b x1 _ _ hc hr => ⟨hr, hc⟩
    subst hx1
    refine (string_nil Tryd.lays169 Tryd.Builder_Extra_169 b w hc).mono ?_
    rintro e w' ⟨rfl, rfl⟩
    obtain ⟨g, hw'⟩ := drew_gr hw
    exact ⟨G, g.ext, hw', _, rfl, .str [], rfl, boxes hbx hw g (fun h => h) (fun h => h) fun y hy => RC.gr hy g (fun h => h)⟩
  · rename_i e c
    split at h
    case h_2 => cases h
    rename_i s hs
    split at h
    case isFalse => cases h
    rename_i hcond
    cases h
    obtain ⟨hlen, hget⟩ := bytesIn_get hs
    intro G w cargs hw hargs hno hb hbb
    have hbx := hb 0 _ rfl
    obtain ⟨b, x1, rfl, hown, hc, hlt⟩ := base (Q := fun b x1 => OwnAt G w (.cell LK 1) e c x1 ∧ w.cell? ⟨b, 1, none⟩ = some x1 ∧ b < w.heap.size) hargs hbx fun b x1 _ hlt hc hr => ⟨hr, hc, hlt⟩
    have hrp : ∀ {w' : World}, ∀ y, RC G w (.cell LK 1) (.own e c) y → RC G w' (.cell LK 1) (.pv (.sl c)) y := fun y hy => OwnAt.rp hy
    rcases hown with ⟨hc0, ad, rfl, hemp⟩ | ⟨hc0, g, cap, cur, sz, rfl, how, hheap, hcap, hcur, hsz0, hszs, hseg, hfree⟩
    · subst hc0
      have hs0 : s = [] := List.eq_nil_of_length_eq_zero (by rw [← hlen]; rfl)
      subst hs0
      rcases hemp with rfl | ⟨g, cur, e', rfl, how, hheap⟩
      · refine (string_nil Tryd.lays169 Tryd.Builder_Extra_169 b w hc).mono ?_
        rintro e1 w' ⟨rfl, rfl⟩
        obtain ⟨gr, hw'⟩ := drew_gr hw
        exact ⟨G, gr.ext, hw', _, rfl, .str [], rfl, boxes hbx hw gr (fun h => h) (fun h => h) hrp⟩
      · refine (string_zero Tryd.lays169 Tryd.Builder_Extra_169 b g cur _ w hlt hc hheap).mono ?_
        rintro e1 w' ⟨rfl, rfl⟩
        obtain ⟨gr, hw'⟩ := below_gr hw ((Below.drew (Below.refl w.heap.size w)).alloc (Nat.le_refl _) (.view ⟨g, 0, none⟩ (Tryd.lays169_ren.t 5)))
        exact ⟨G, gr.ext, hw', _, rfl, .str [], rfl, boxes hbx hw gr (fun h => h) (fun h => h) hrp⟩
    · have hs0 : s ≠ [] := fun e0 => hc0 (List.eq_nil_of_length_eq_zero (by rw [hlen, e0]; rfl))
      have hsz1 : sz = 1 := by
        obtain ⟨x0, hx0⟩ : ∃ x0, s[0]? = some x0 := by
          cases s with
          | nil => exact absurd rfl hs0
          | cons x0 r => exact ⟨x0, rfl⟩
        exact (hszs _ (List.mem_of_getElem? (hget 0 x0 hx0))).symm
      subst hsz1
      have hee : e = 5 := by
        rcases hcond.1 with h1 | h1
        · exact h1
        · exact absurd (by simpa using h1) hc0
      subst hee
      have hn0 : s.length ≠ 0 := by simpa using hs0
      have hlim : s.length < strLim := hcond.2
      unfold strLim at hlim
      rw [hlen] at hc hcap
      refine (string_some Tryd.lays169 Tryd.Builder_Extra_169 b g cap s cur w hc hheap hs0 hcap (by omega) (by omega) fun j x hj => ?_).mono ?_
      · obtain ⟨y, h1, h2⟩ := hseg j _ 0 _ (hget j x hj) rfl
        cases h2
        have := hw.cell _ _ _ h1
        have hadd : (⟨g, 0, none⟩ : Addr).add j = ⟨g, 0 + j, none⟩ := by simp only [Addr.add]; split <;> simp_all
        rw [hadd]
        simpa using this
      · rintro e1 w' ⟨rfl, rfl⟩
        obtain ⟨gd, hwd⟩ := drew_gr hw
        obtain ⟨gr, hw'⟩ := freeze_gr (w := w.drew) hwd how hheap hn0
        have g2 := gd.trans gr
        exact ⟨G, g2.ext, hw', _, rfl, .str s, rfl, boxes hbx hw g2 (by simp) (by simp) hrp⟩
  · cases h
end
end Go.Abs

namespace Go.Abs
open Go Go.Proofs Go.RowKit

def lowB (b : UInt8) : UInt8 := if 65 ≤ b ∧ b ≤ 90 then b + 32 else b

structure LowInv (w : World) (s : ByteArray) (e : TypeId) (B cap : Nat) (wr : World) (k : Nat) : Prop where
  bel : Below w.heap.size w wr
  row : ∃ cur N, wr.heap[B]? = some (.cells cur e (N, N + 1)) ∧ cur.size = N ∧ s.size ≤ N ∧ ∀ (j : Nat) (b : UInt8), s.data.toList[j]? = some b → cur[j]? = some (.int .u8 ((if j < k then lowB b else b).toNat : Int))

theorem lowB_in {b : UInt8} (h1 : 65 ≤ (b.toNat : Int)) (h2 : (b.toNat : Int) ≤ 90) : ((lowB b).toNat : Int) = b.toNat + 32 := by
  unfold lowB
  have e1 : (65 : UInt8) ≤ b := by rw [UInt8.le_iff_toNat_le]; show 65 ≤ _; omega
  have e2 : b ≤ (90 : UInt8) := by rw [UInt8.le_iff_toNat_le]; show _ ≤ 90; omega
  rw [if_pos ⟨e1, e2⟩, UInt8.toNat_add]
  show (((b.toNat + 32) % 256 : Nat) : Int) = _
  omega

theorem lowB_out {b : UInt8} (h : ¬ (65 ≤ (b.toNat : Int) ∧ (b.toNat : Int) ≤ 90)) : lowB b = b := by
  unfold lowB
  rw [if_neg]
  rintro ⟨e1, e2⟩
  rw [UInt8.le_iff_toNat_le] at e1 e2
  have e1 : 65 ≤ b.toNat := e1
  have e2 : b.toNat ≤ 90 := e2
  omega

theorem LowInv.step {w wr : World} {s : ByteArray} {e : TypeId} {cap k : Nat} {b : UInt8} (h : LowInv w s e w.heap.size cap wr k) (hb : s.data.toList[k]? = some b) (h1 : 65 ≤ (b.toNat : Int)) (h2 : (b.toNat : Int) ≤ 90) :
    LowInv w s e w.heap.size cap (wr.setCell ⟨w.heap.size, k, none⟩ (.int .u8 (b.toNat + 32))) (k + 1) := by
  obtain ⟨hbel, cur, N, h3, h4, h5, h6⟩ := h
  refine ⟨hbel.setCell (p := ⟨w.heap.size, k, none⟩) (Nat.le_refl _) _, cur.setIfInBounds k (.int .u8 (b.toNat + 32)), N, ?_, by simpa using h4, h5, fun j c hj => ?_⟩
  · rw [setCell_row h3]; exact setRow_heap wr _ cur _ e _ h3
  · by_cases hjk : j = k
    · subst hjk
      rw [hb] at hj; cases hj
      rw [if_pos (by omega), lowB_in h1 h2]
      have := h6 j b hb
      have hlt := (Array.getElem?_eq_some_iff.1 this).1
      simp [hlt]
    · have := h6 j c hj
      rw [Array.getElem?_setIfInBounds_ne (Ne.symm hjk), this]
      by_cases hlt : j < k
      · rw [if_pos hlt, if_pos (by omega)]
      · rw [if_neg hlt, if_neg (by omega)]

theorem LowInv.skip {w wr : World} {s : ByteArray} {e : TypeId} {cap k : Nat} {b : UInt8} (h : LowInv w s e w.heap.size cap wr k) (hb : s.data.toList[k]? = some b) (h1 : ¬ (65 ≤ (b.toNat : Int) ∧ (b.toNat : Int) ≤ 90)) :
    LowInv w s e w.heap.size cap wr (k + 1) := by
  obtain ⟨hbel, cur, N, h3, h4, h5, h6⟩ := h
  refine ⟨hbel, cur, N, h3, h4, h5, fun j c hj => ?_⟩
  by_cases hjk : j = k
  · subst hjk
    rw [hb] at hj; cases hj
    rw [if_pos (by omega), h6 j b hb, if_neg (by omega), lowB_out h1]
  · rw [h6 j c hj]
    by_cases hlt : j < k
    · rw [if_pos hlt, if_pos (by omega)]
    · rw [if_neg hlt, if_neg (by omega)]

set_option maxHeartbeats 1000000 in
set_option maxRecDepth 100000 in
theorem low_walk (s : ByteArray) (w : World) (hs : s.size < 4611686018427387904) :
    Calls Tryd.prog 53 #[.string s] w fun e w' => e = .returned (.string ⟨(s.data.toList.map lowB).toArray⟩) ∧ Below w.heap.size w w' := by
  go_enter Tryd.func53, Tryd.ntmps53
  go_wp2
  rw [run_bytes_of_string _ 9 49 5 s (by exact Tryd.underlying9) (by exact Tryd.underlying49) (by exact Tryd.underlying5)]
  simp only [Result.andThen]
  rw [Oper.upon_value]
  have h0 : LowInv w s 5 w.heap.size (grownCap w s.size 0 5) (w.drew.alloc (.cells (bytesRow s (grownCap w s.size 0 5)) 5 ((bytesRow s (grownCap w s.size 0 5)).size, (bytesRow s (grownCap w s.size 0 5)).size + 1))) 0 := by
    refine ⟨(Below.drew (Below.refl _ _)).alloc (Nat.le_refl _) _, _, _, heap_alloc_new w.drew _, rfl, ?_, fun j b hj => ?_⟩
    · show s.data.size ≤ _
      unfold bytesRow; rw [Array.size_append]; simp
    · unfold bytesRow
      have hlt := (List.getElem?_eq_some_iff.1 hj).1
      rw [Array.getElem?_append_left (by simpa using hlt)]
      simp at hj
      simp [hj]
  revert h0
  generalize w.drew.alloc (.cells (bytesRow s (grownCap w s.size 0 5)) 5 ((bytesRow s (grownCap w s.size 0 5)).size, (bytesRow s (grownCap w s.size 0 5)).size + 1)) = w1
  generalize grownCap w s.size 0 5 = cap
  intro h0
  have H0 : Hid (LowInv w s 5 w.heap.size cap w1 0) := h0
  clear h0
  have hsn : s.data.toList.length = s.size := by show _ = s.data.size; simp
  go_wp2
  go_loopw [4] (fun vi wr => ∃ k : Nat, k ≤ s.size ∧ vi = .int .i64 k ∧ Hid (LowInv w s 5 w.heap.size cap wr k)) (fun vi _ => s.size - (RowKit.intOf vi).toNat)
  case atStart => exact ⟨0, Nat.zero_le _, rfl, H0⟩
  case round =>
    obtain ⟨k, hk, rfl, HI⟩ := hrel
    obtain ⟨b, hb⟩ : ∃ b : UInt8, k < s.size → s.data.toList[k]? = some b := by
      by_cases hlt : k < s.size
      · exact ⟨s.data.toList[k]'(by omega), fun _ => by simp⟩
      · exact ⟨0, fun h => absurd h hlt⟩
    have hc : k < s.size → wr.cell? ⟨w.heap.size, k, none⟩ = some (.int .u8 (b.toNat : Int)) := fun h => by
      obtain ⟨cur, N, h1, h2, h3, h4⟩ := HI.out.row
      rw [cell_of_heap h1, h4 k b (hb h), if_neg (by omega)]
    have hf : k < s.size → wr.frozen? ⟨w.heap.size, k, none⟩ = false := fun h => by
      obtain ⟨cur, N, h1, h2, h3, h4⟩ := HI.out.row
      simp [World.frozen?, h1]; omega
    have HB : Hid (k < s.size → s.data.toList[k]? = some b) := hb
    clear hb
    go_wp2
    · have hlt : k < s.size := by assumption
      go_roundw
      case rel => exact ⟨k + 1, by omega, by go_num, HI.out.step (HB.out hlt) (by omega) (by omega)⟩
      case measure => simp [RowKit.intOf]; omega
    · have hlt : k < s.size := by assumption
      go_roundw
      case rel => exact ⟨k + 1, by omega, by go_num, HI.out.skip (HB.out hlt) (by omega)⟩
      case measure => simp [RowKit.intOf]; omega
    · have hlt : k < s.size := by assumption
      go_roundw
      case rel => exact ⟨k + 1, by omega, by go_num, HI.out.skip (HB.out hlt) (by omega)⟩
      case measure => simp [RowKit.intOf]; omega
    · have hkn : k = s.size := by omega
      obtain ⟨hbel, cur, N, h3, h4, h5, h6⟩ := HI.out
      rw [run_convert_bytes_string wr 49 9 5 _ _ _ (by exact Tryd.underlying49) (by exact Tryd.underlying5) (by exact Tryd.underlying9)]
      have hload : (loadCells ⟨w.heap.size, 0, none⟩ s.size).run Tryd.prog wr = .ok ((s.data.toList.map fun b => ((lowB b).toNat : Int)).map (Value.int .u8)).toArray wr := by
        have := run_loadCells_list (P := Tryd.prog) wr ⟨w.heap.size, 0, none⟩ ((s.data.toList.map fun b => ((lowB b).toNat : Int)).map (Value.int .u8)) (fun j y hy => by
          have hadd : (⟨w.heap.size, 0, none⟩ : Addr).add j = ⟨w.heap.size, 0 + j, none⟩ := by simp only [Addr.add]; split <;> simp_all
          rw [hadd]
          rw [List.getElem?_map, List.getElem?_map, Option.map_eq_some_iff] at hy
          obtain ⟨n, hn, rfl⟩ := hy
          rw [Option.map_eq_some_iff] at hn
          obtain ⟨c, hc', rfl⟩ := hn
          have hjl := (List.getElem?_eq_some_iff.1 hc').1
          rw [cell_of_heap h3, Nat.zero_add, h6 j c hc', if_pos (by omega)])
        rw [← this]; congr 2; simp
      rw [run_bytesToString wr _ _ _ _ hload]
      have hpush := fold_push (s.data.toList.map fun b => ((lowB b).toNat : Int)) []
      have hmap : ([] ++ (s.data.toList.map fun b => ((lowB b).toNat : Int)).map fun n => UInt8.ofNat n.toNat) = s.data.toList.map lowB := by
        rw [List.nil_append, List.map_map]
        exact List.map_congr_left fun b _ => by simp
      rw [hmap] at hpush
      rw [show ByteArray.empty = ByteArray.mk [].toArray from rfl, hpush]
      simp only [Result.andThen]
      rw [Oper.upon_value]
      go_wp2
      go_ret
      exact ⟨rfl, hbel⟩
def pLow : Prim
  | [.c (.pv (.str s))], [] => if s.length < strLim then some (.c (.pv (.str (s.map lowB))), []) else none
  | _, _ => none

theorem pLow_ok {args : List AV} {bxs : List (List CV)} {x : AV × List (List CV)} (h : pLow args bxs = some x) : Contract Tryd.prog 53 args bxs (.ret x.1 x.2) := by
  unfold pLow at h
  split at h
  case h_2 => cases h
  rename_i s
  split at h
  case isFalse => cases h
  rename_i hs
  cases h
  refine contract_data fun G w cargs hw hargs => ?_
  obtain ⟨x, rfl, hx⟩ := args_one hargs
  cases hx.strv
  refine (low_walk ⟨s.toArray⟩ w (by show s.toArray.size < _; simpa [strLim] using hs)).mono ?_
  rintro e w' ⟨rfl, hb⟩
  exact ⟨_, rfl, .str _, hb⟩
end Go.Abs
