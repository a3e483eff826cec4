/-
  THE ABSTRACT INTERPRETER: Low of winnowingref04: it writes into a row that it has made; walked by hand.
-/
import Derived.Test.YtcnodcgdceoijaaDoorPrim
set_option linter.unusedSimpArgs false
set_option linter.unusedVariables false
namespace Go.Abs
open Go Go.Proofs Go.RowKit

def lowB (b : UInt8) : UInt8 := if 65 ≤ b ∧ b ≤ 90 then b + 32 else b

structure LowInv (w : World) (s : ByteArray) (e : TypeId) (B cap : Nat) (wr : World) (k : Nat) : Prop where
  bel : Below w.heap.size w wr
  row : ∃ cur N, wr.heap[B]? = some (.cells cur e (N, N + 1)) ∧ cur.size = N ∧ s.size ≤ N ∧ ∀ (j : Nat) (b : UInt8), s.data.toList[j]? = some b → cur[j]? = some (.int .u8 ((if j < k then lowB b else b).toNat : Int))

theorem lowB_in {b : UInt8} (h1 : 65 ≤ (b.toNat : Int)) (h2 : (b.toNat : Int) ≤ 90) : ((lowB b).toNat : Int) = b.toNat + 32 := by
  unfold lowB
  have e1 : (65 : UInt8) ≤ b := by rw [UInt8.le_iff_toNat_le]; show 65 ≤ _; omega
  have e2 : b ≤ (90 : UInt8) := by rw [UInt8.le_iff_toNat_le]; show _ ≤ 90; omega
  rw [if_pos ⟨e1, e2⟩, UInt8.toNat_add]
  show (((b.toNat + 32) % 256 : Nat) : Int) = _
  omega

theorem lowB_out {b : UInt8} (h : ¬ (65 ≤ (b.toNat : Int) ∧ (b.toNat : Int) ≤ 90)) : lowB b = b := by
  unfold lowB
  rw [if_neg]
  rintro ⟨e1, e2⟩
  rw [UInt8.le_iff_toNat_le] at e1 e2
  have e1 : 65 ≤ b.toNat := e1
  have e2 : b.toNat ≤ 90 := e2
  omega

theorem LowInv.step {w wr : World} {s : ByteArray} {e : TypeId} {cap k : Nat} {b : UInt8} (h : LowInv w s e w.heap.size cap wr k) (hb : s.data.toList[k]? = some b) (h1 : 65 ≤ (b.toNat : Int)) (h2 : (b.toNat : Int) ≤ 90) :
    LowInv w s e w.heap.size cap (wr.setCell ⟨w.heap.size, k, none⟩ (.int .u8 (b.toNat + 32))) (k + 1) := by
  obtain ⟨hbel, cur, N, h3, h4, h5, h6⟩ := h
  refine ⟨hbel.setCell (p := ⟨w.heap.size, k, none⟩) (Nat.le_refl _) _, cur.setIfInBounds k (.int .u8 (b.toNat + 32)), N, ?_, by simpa using h4, h5, fun j c hj => ?_⟩
  · rw [setCell_row h3]; exact setRow_heap wr _ cur _ e _ h3
  · by_cases hjk : j = k
    · subst hjk
      rw [hb] at hj; cases hj
      rw [if_pos (by omega), lowB_in h1 h2]
      have := h6 j b hb
      have hlt := (Array.getElem?_eq_some_iff.1 this).1
      simp [hlt]
    · have := h6 j c hj
      rw [Array.getElem?_setIfInBounds_ne (Ne.symm hjk), this]
      by_cases hlt : j < k
      · rw [if_pos hlt, if_pos (by omega)]
      · rw [if_neg hlt, if_neg (by omega)]

theorem LowInv.skip {w wr : World} {s : ByteArray} {e : TypeId} {cap k : Nat} {b : UInt8} (h : LowInv w s e w.heap.size cap wr k) (hb : s.data.toList[k]? = some b) (h1 : ¬ (65 ≤ (b.toNat : Int) ∧ (b.toNat : Int) ≤ 90)) :
    LowInv w s e w.heap.size cap wr (k + 1) := by
  obtain ⟨hbel, cur, N, h3, h4, h5, h6⟩ := h
  refine ⟨hbel, cur, N, h3, h4, h5, fun j c hj => ?_⟩
  by_cases hjk : j = k
  · subst hjk
    rw [hb] at hj; cases hj
    rw [if_pos (by omega), h6 j b hb, if_neg (by omega), lowB_out h1]
  · rw [h6 j c hj]
    by_cases hlt : j < k
    · rw [if_pos hlt, if_pos (by omega)]
    · rw [if_neg hlt, if_neg (by omega)]

set_option maxHeartbeats 1000000 in
set_option maxRecDepth 100000 in
theorem low_walk (s : ByteArray) (w : World) (hs : s.size < 4611686018427387904) :
    Calls Tryd.prog 106 #[.string s] w fun e w' => e = .returned (.string ⟨(s.data.toList.map lowB).toArray⟩) ∧ Below w.heap.size w w' := by
  go_enter Tryd.func106, Tryd.ntmps106
  go_wp2
  rw [run_bytes_of_string _ 9 60 5 s (by exact Tryd.underlying9) (by exact Tryd.underlying60) (by exact Tryd.underlying5)]
  simp only [Result.andThen]
  rw [Oper.upon_value]
  have h0 : LowInv w s 5 w.heap.size (grownCap w s.size 0 5) (w.drew.alloc (.cells (bytesRow s (grownCap w s.size 0 5)) 5 ((bytesRow s (grownCap w s.size 0 5)).size, (bytesRow s (grownCap w s.size 0 5)).size + 1))) 0 := by
    refine ⟨(Below.drew (Below.refl _ _)).alloc (Nat.le_refl _) _, _, _, heap_alloc_new w.drew _, rfl, ?_, fun j b hj => ?_⟩
    · show s.data.size ≤ _
      unfold bytesRow; rw [Array.size_append]; simp
    · unfold bytesRow
      have hlt := (List.getElem?_eq_some_iff.1 hj).1
      rw [Array.getElem?_append_left (by simpa using hlt)]
      simp at hj
      simp [hj]
  revert h0
  generalize w.drew.alloc (.cells (bytesRow s (grownCap w s.size 0 5)) 5 ((bytesRow s (grownCap w s.size 0 5)).size, (bytesRow s (grownCap w s.size 0 5)).size + 1)) = w1
  generalize grownCap w s.size 0 5 = cap
  intro h0
  have H0 : Hid (LowInv w s 5 w.heap.size cap w1 0) := h0
  clear h0
  have hsn : s.data.toList.length = s.size := by show _ = s.data.size; simp
  go_wp2
  go_loopw [4] (fun vi wr => ∃ k : Nat, k ≤ s.size ∧ vi = .int .i64 k ∧ Hid (LowInv w s 5 w.heap.size cap wr k)) (fun vi _ => s.size - (RowKit.intOf vi).toNat)
  case atStart => exact ⟨0, Nat.zero_le _, rfl, H0⟩
  case round =>
    obtain ⟨k, hk, rfl, HI⟩ := hrel
    obtain ⟨b, hb⟩ : ∃ b : UInt8, k < s.size → s.data.toList[k]? = some b := by
      by_cases hlt : k < s.size
      · exact ⟨s.data.toList[k]'(by omega), fun _ => by simp⟩
      · exact ⟨0, fun h => absurd h hlt⟩
    have hc : k < s.size → wr.cell? ⟨w.heap.size, k, none⟩ = some (.int .u8 (b.toNat : Int)) := fun h => by
      obtain ⟨cur, N, h1, h2, h3, h4⟩ := HI.out.row
      rw [cell_of_heap h1, h4 k b (hb h), if_neg (by omega)]
    have hf : k < s.size → wr.frozen? ⟨w.heap.size, k, none⟩ = false := fun h => by
      obtain ⟨cur, N, h1, h2, h3, h4⟩ := HI.out.row
      simp [World.frozen?, h1]; omega
    have HB : Hid (k < s.size → s.data.toList[k]? = some b) := hb
    clear hb
    go_wp2
    · have hlt : k < s.size := by assumption
      go_roundw
      case rel => exact ⟨k + 1, by omega, by go_num, HI.out.step (HB.out hlt) (by omega) (by omega)⟩
      case measure => simp [RowKit.intOf]; omega
    · have hlt : k < s.size := by assumption
      go_roundw
      case rel => exact ⟨k + 1, by omega, by go_num, HI.out.skip (HB.out hlt) (by omega)⟩
      case measure => simp [RowKit.intOf]; omega
    · have hlt : k < s.size := by assumption
      go_roundw
      case rel => exact ⟨k + 1, by omega, by go_num, HI.out.skip (HB.out hlt) (by omega)⟩
      case measure => simp [RowKit.intOf]; omega
    · have hkn : k = s.size := by omega
      obtain ⟨hbel, cur, N, h3, h4, h5, h6⟩ := HI.out
      rw [run_convert_bytes_string wr 60 9 5 _ _ _ (by exact Tryd.underlying60) (by exact Tryd.underlying5) (by exact Tryd.underlying9)]
      have hload : (loadCells ⟨w.heap.size, 0, none⟩ s.size).run Tryd.prog wr = .ok ((s.data.toList.map fun b => ((lowB b).toNat : Int)).map (Value.int .u8)).toArray wr := by
        have := run_loadCells_list (P := Tryd.prog) wr ⟨w.heap.size, 0, none⟩ ((s.data.toList.map fun b => ((lowB b).toNat : Int)).map (Value.int .u8)) (fun j y hy => by
          have hadd : (⟨w.heap.size, 0, none⟩ : Addr).add j = ⟨w.heap.size, 0 + j, none⟩ := by simp only [Addr.add]; split <;> simp_all
          rw [hadd]
          rw [List.getElem?_map, List.getElem?_map, Option.map_eq_some_iff] at hy
          obtain ⟨n, hn, rfl⟩ := hy
          rw [Option.map_eq_some_iff] at hn
          obtain ⟨c, hc', rfl⟩ := hn
          have hjl := (List.getElem?_eq_some_iff.1 hc').1
          rw [cell_of_heap h3, Nat.zero_add, h6 j c hc', if_pos (by omega)])
        rw [← this]; congr 2; simp
      rw [run_bytesToString wr _ _ _ _ hload]
      have hpush := fold_push (s.data.toList.map fun b => ((lowB b).toNat : Int)) []
      have hmap : ([] ++ (s.data.toList.map fun b => ((lowB b).toNat : Int)).map fun n => UInt8.ofNat n.toNat) = s.data.toList.map lowB := by
        rw [List.nil_append, List.map_map]
        exact List.map_congr_left fun b _ => by simp
      rw [hmap] at hpush
      rw [show ByteArray.empty = ByteArray.mk [].toArray from rfl, hpush]
      simp only [Result.andThen]
      rw [Oper.upon_value]
      go_wp2
      go_ret
      exact ⟨rfl, hbel⟩
def pLow : Prim
  | [.c (.pv (.str s))], [] => if s.length < strLim then some (.c (.pv (.str (s.map lowB))), []) else none
  | _, _ => none

theorem pLow_ok {args : List AV} {bxs : List (List CV)} {x : AV × List (List CV)} (h : pLow args bxs = some x) : Contract Tryd.prog 106 args bxs (.ret x.1 x.2) := by
  unfold pLow at h
  split at h
  case h_2 => cases h
  rename_i s
  split at h
  case isFalse => cases h
  rename_i hs
  cases h
  refine contract_data fun G w cargs hw hargs => ?_
  obtain ⟨x, rfl, hx⟩ := args_one hargs
  cases hx.strv
  refine (low_walk ⟨s.toArray⟩ w (by show s.toArray.size < _; simpa [strLim] using hs)).mono ?_
  rintro e w' ⟨rfl, hb⟩
  exact ⟨_, rfl, .str _, hb⟩
end Go.Abs
