/-
  winnowinglaw07.DeclsApart returns true for every input without a ring, and each argument reads behind the call as it read before: the tied card.
  
-/
import Derived.Test.YtjjeloinclmopaaGreatDoorCards
import Derived.Test.YtjjeloinclmopaaGreatDoorTie
import Derived.ProofKit
import Derived.Deep.DeepHandedRow
import Derived.Test.YtjjeloinclmopaaGreatDoorDA6
set_option linter.unusedSimpArgs false
set_option linter.unusedVariables false
namespace Go.Proofs.YtjjeloinclmopaaGreatDoor.DeclsApart
open Go.ChangeShapes Go.WideShapes Go.ChangeAt Go.RowKit
theorem own : ownKnob Tryz.prog.godebug = none := by kernel_rfl
def layInto (cs : List Value) : Obj → Obj
  | .cells _ t frozen => .cells cs.toArray t frozen
  | o => o
noncomputable def laidWorld (os : Os) : World :=
  { World.holding Tryz.prog os ⟨#[], #[], []⟩ with
    heap := (((World.holding Tryz.prog os ⟨#[], #[], []⟩).heap.modify 6
      (layInto (([0, 1, 28, 2, 29, 14, 24, 3, 30, 22, 20, 15, 25, 17, 4, 8, 31, 27, 13, 23, 21, 19, 16, 7, 26, 12, 18, 6, 11, 5, 10, 9] : List Int).map fun n => Value.int .u8 n))).modify 7
      (layInto (([0, 1, 56, 2, 57, 49, 28, 3, 61, 58, 42, 50, 38, 29, 17, 4, 62, 47, 59, 36, 45, 43, 51, 22, 53, 39, 33, 30, 24, 18, 12, 5, 63, 55, 48, 27, 60, 41, 37, 16, 46, 35, 44, 21, 52, 32, 23, 11, 54, 26, 40, 15, 34, 20, 31, 10, 25, 14, 19, 9, 13, 8, 7, 6] : List Int).map fun n => Value.int .u8 n))).modify 3
      (layInto ((List.range 20).map fun i => Value.int .u64 ((10 ^ i : Nat) : Int))) }
noncomputable def wArgs : Array Value := #[.slice none 0 0, .slice none 0 0]
theorem laid_met (os : Os) : laidMet Tryz.prog Rows.declsApartRow.laid ((laidWorld os).forCall (fun _ _ => 0) ⟨#[], wArgs, []⟩).memory :=
  laidMet_of_run' 8 (by kernel_rfl) (by kernel_rfl)
theorem reads (os : Os) {H : Type} (enc : TypeId × Value → H) : ∃ places, DataW.whole enc Tryz.prog ((laidWorld os).forCall (fun _ _ => 0) ⟨#[], wArgs, []⟩).memory Tryz.f5.params.toList Rows.declsApartSpec.vars false wArgs.toList 8 = some ([.nil, .nil], [], places) :=
  ⟨[], by kernel_rfl⟩
set_option maxRecDepth 100000 in
theorem lifted (os : Os) (started : os.Started) (H : Type) (enc : TypeId × Value → H) (F : Stop.Interp) :
    ReturnsInHanded {} Tryz.checked os 5 .any ((OpenSpec.ofChange Rows.declsApartSpec).preRow enc Tryz.prog Tryz.f5 Rows.declsApartRow.domain false Rows.declsApartRow.laid) (((OpenSpec.ofChange Rows.declsApartSpec).at F).post enc Tryz.prog Tryz.f5 false true false false) := by
  obtain ⟨places, hx⟩ := reads os enc
  refine returnsInHanded_of_row (C := Tryz.checked) (s := OpenSpec.ofChange Rows.declsApartSpec) own started (by kernel_rfl) Tryz.func5
    (witness_row_at (enc := enc) (C := Tryz.checked) false (laidWorld os) wArgs rfl (by kernel_rfl) (by kernel_rfl) (by kernel_rfl)
      (OpenSpec.preRow_of_cond 8 hx (by kernel_rfl) (fun k hk => by cases hk) (by kernel_rfl) (laid_met os))) ?_
  intro W base args ds gs before hval hW _ _ hwt hL hsh _
  have hgs : gs = [] := by
    obtain ⟨_, _, _, hV, _⟩ := hW
    cases gs with
    | nil => rfl
    | cons g gs => exact hV.elim
  subst hgs
  have hwt' : (DataW.weightsEach Tryz.prog Tryz.f5.params.toList ds).all (· ≤ reachBytes) = true := by
    have e : Tryz.f5.params.toList ++ (OpenSpec.ofChange Rows.declsApartSpec).bare.plain.varTypes Tryz.prog = Tryz.f5.params.toList := List.append_nil _
    rw [List.append_nil] at hwt
    exact hwt
  exact Go.Abs.law_ok (base := base) (L := Go.Abs.flatD) (laid := Rows.declsApartRow.laid) (spec := Rows.declsApartSpec) (by kernel_rfl) Go.Abs.flatD_ok (by decide) rfl rfl (fun ds hd => by
      match ds, hd with
      | [a, b], _ => rfl) (by simp [Rows.declsApartRow]) (by kernel_rfl) Go.Abs.DeclsApart_args hval hW hwt' hL hsh
theorem j_inPlace : (Rows.declsApartRow.inPlace == Tryz.prog.inPlace 5) = true := by kernel_rfl
theorem j_unfollowed : (Rows.declsApartRow.unfollowed == Tryz.prog.unfollowed 5) = true := by kernel_rfl
theorem j_recurses : (Rows.declsApartRow.recurses == Tryz.prog.recurses 5) = true := by kernel_rfl
theorem j_named : (Rows.declsApartRow.named == Tryz.prog.varsNamed 5) = true := by kernel_rfl
theorem j_lifts : (Rows.declsApartRow.lifted == Tryz.prog.liftsFinal) = true := by rw [J.lifts]; rfl
theorem j_plain : (Rows.declsApartRow.plainKeys == Tryz.prog.plainKeys) = true := by rw [J.plain]; rfl
theorem closed : joinedFacts Tryz.prog 5 Tryz.f5 (OpenSpec.ofChange Rows.declsApartSpec).bare Rows.declsApartRow = true := by
  unfold joinedFacts
  simp only [Bool.and_eq_true]
  repeat' apply And.intro
  all_goals first
    | with_reducible exact j_inPlace
    | with_reducible exact j_unfollowed
    | with_reducible exact j_recurses
    | with_reducible exact j_named
    | with_reducible exact j_lifts
    | with_reducible exact j_plain
    | with_reducible exact J.enter
    | with_reducible exact J.heard
    | with_reducible exact J.laid
    | with_reducible exact J.maps
    | kernel_rfl
theorem named_f : Tryz.prog.funcNamed "winnowing/winnowinglaw07.DeclsApart" = some 5 := by kernel_rfl
theorem said : Rows.DeclsApartSaid :=
  OpenClaim.holds_of_cond 5 Tryz.f5 rfl rfl rfl rfl rfl rfl rfl ⟨rfl, rfl, rfl, rfl, rfl⟩ rfl rfl rfl rfl rfl named_f Tryz.func5 closed
    (of_decide_eq_true (by kernel_rfl)) (by unfold Func.isWrapper; first | (rw [if_pos (by decide +kernel)]; kernel_rfl) | (rw [if_neg (by decide +kernel)]; exact ⟨rfl, rfl⟩))
    (fun os started H enc _ F => by rw [OpenClaim.pre_eq_preRow]; exact lifted os started H enc F)
theorem plain (f : FuncId) (fn : Func) (hf : Tryz.pinned.checked.prog.funcNamed "winnowing/winnowinglaw07.DeclsApart" = some f) (hfn : Tryz.pinned.checked.prog.funcs[f]? = some fn) :
    true = Tryz.pinned.checked.prog.looks [] ∧ ∀ (j : Nat) t, fn.params[j]? = some t → Tryz.pinned.checked.prog.wantsStandIn t = false := by
  obtain rfl : f = 5 := Option.some.inj ((show Tryz.prog.funcNamed "winnowing/winnowinglaw07.DeclsApart" = some 5 by kernel_rfl).symm.trans hf) |>.symm
  obtain rfl : fn = Tryz.f5 := (Option.some.inj (Tryz.func5.symm.trans hfn)).symm
  refine ⟨by kernel_rfl, fun j t ht => ?_⟩
  have hm := Array.mem_toList_iff.2 (Array.mem_of_getElem? ht)
  have h1 : ∀ t ∈ Tryz.f5.params.toList, t ∈ Go.Abs.flatD := by decide
  have h2 : Go.Abs.flatD.all (fun t => !Tryz.prog.wantsStandIn t) = true := by kernel_rfl
  have h3 := List.all_eq_true.1 h2 t (h1 t hm)
  have h4 : Tryz.prog.wantsStandIn t = false := by simpa using h3
  exact h4
theorem card : Rows.DeclsApartCardSaid :=
  Claim7.holds_tied_plain_at .later [] _ _ _ _ said (fun _ h => by cases h) (by kernel_rfl) (fun _ h => by cases h) declsApart_row_tie rfl ⟨rfl, rfl⟩ (by kernel_rfl) rfl plain (by kernel_rfl)
end Go.Proofs.YtjjeloinclmopaaGreatDoor.DeclsApart
