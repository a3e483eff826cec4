/-
  CLOSED FACTS ON THIS PROGRAM that all cards want, each by the kernel.
-/
import Derived.Test.YtjjeloinclmopaaGreatDoorRows
import Derived.Test.YtjjeloinclmopaaGreatDoorProg
import Derived.ProofKit
import Derived.Deep.DeepHandedRow
import Derived.Test.YtjjeloinclmopaaGreatDoorDA5
set_option linter.unusedSimpArgs false
set_option linter.unusedVariables false
namespace Go.Proofs.YtjjeloinclmopaaGreatDoor.J
open Go
theorem enter : Tryz.prog.mayEnter = true := by kernel_rfl
theorem heard : Tryz.prog.stopsHeard = true := by kernel_rfl
theorem laid : laidOutB Tryz.prog = true := by kernel_rfl
theorem maps : mapsRowed Tryz.prog = true := by kernel_rfl
theorem lifts : Tryz.prog.liftsFinal = Rows.declsApartRow.lifted := by kernel_rfl
theorem plain : Tryz.prog.plainKeys = Rows.declsApartRow.plainKeys := by kernel_rfl
end Go.Proofs.YtjjeloinclmopaaGreatDoor.J
