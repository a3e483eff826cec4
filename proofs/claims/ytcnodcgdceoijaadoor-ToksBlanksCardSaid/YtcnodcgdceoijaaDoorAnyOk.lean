/-
  strings.IndexAny, asked for the three bytes that end a line, of a text of whatever bytes: what it answers, and that it does.
-/
import Derived.Test.YtcnodcgdceoijaaDoorAnyRun2
set_option linter.unusedSimpArgs false
set_option linter.unusedVariables false
namespace Go.Abs
open Go Go.Proofs Go.RowKit

def pIndexAny : Prim
  | [.c (.pv (.str s)), .c (.pv (.str p))], [] => if p = [10, 12, 13] ∧ s.length < 4294967281 then some (.c (.pv (.int .i64 (Lib.indexAny s p))), []) else none
  | _, _ => none

def goodB0 (P : Program) (f : Nat) : Bool :=
  match P.funcs[f]? with
  | some fn => fn.name != "runtime.NumGoroutine" && (match fn.body with | some c => codeOK (fun _ => false) c | none => false)
  | none => false
theorem goods0_ok : [114, 125, 124, 136, 67].all (goodB0 Tryd.prog) = true := by kernel_rfl

theorem K0_prog : Prog K0 := by
  refine ⟨by kernel_rfl, fun g hg => ?_, fun f F args bxs x _ hF hx => ?_⟩
  · have h1 : g ∈ [114, 125, 124, 136, 67] := by simpa [K0] using hg
    have h2 := List.all_eq_true.1 goods0_ok g h1
    unfold goodB0 at h2
    split at h2
    · rename_i fn hfn
      simp only [Bool.and_eq_true] at h2
      obtain ⟨h3, h4⟩ := h2
      split at h4
      · rename_i c hc
        exact ⟨fn, c, hfn, by simpa using h3, hc, h4⟩
      · cases h4
    · cases h2
  · have h2 : pr0 f = some F := hF
    unfold pr0 at h2
    split at h2
    · rename_i hf
      cases h2
      have : f = 67 := by simpa using hf
      subst this
      exact pIndexByte_ok hx
    · cases h2

theorem h116 : (Tryd.prog.info? 150).map (fun i => (i.zero, i.size)) = some (some (.agg (Array.replicate 256 (.bool false))), 256) := by kernel_rfl

theorem pIndexAny_ok {args : List AV} {bxs : List (List CV)} {x : AV × List (List CV)} (h : pIndexAny args bxs = some x) : Contract Tryd.prog 114 args bxs (.ret x.1 x.2) := by
  unfold pIndexAny at h
  split at h
  case h_2 => cases h
  rename_i s p
  split at h
  case isFalse => cases h
  rename_i hs
  cases h
  obtain ⟨rfl, hs⟩ := hs
  by_cases h8 : s.length ≤ 8
  · exact den_ok K0_prog (by rfl) (any0_den s h8)
  · refine contract_data fun G w cargs hw hargs => ?_
    obtain ⟨x, y, rfl, hx, hy⟩ := args_two hargs
    cases hx.strv
    cases hy.strv
    have hsz : (⟨s.toArray⟩ : ByteArray).size = s.length := by simp [ByteArray.size]
    refine (Tryd.strings_IndexAny_long (zero_of_info h116).1 ⟨s.toArray⟩ ⟨([10, 12, 13] : List UInt8).toArray⟩ w (by decide) (by rw [hsz]; omega) (by rw [hsz]; exact hs) (by decide) ?_).mono ?_
    · intro j b hb
      have : b ∈ ([10, 12, 13] : List UInt8) := List.mem_of_getElem? hb
      have : b = 10 ∨ b = 12 ∨ b = 13 := by simpa using this
      rcases this with rfl | rfl | rfl <;> decide
    · rintro e w' ⟨rfl, rfl⟩
      exact ⟨_, rfl, .int _ _, ((Below.refl _ _).alloc (Nat.le_refl _) _).alloc (by simp) _⟩
end Go.Abs
