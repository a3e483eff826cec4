/-
  CLOSED FACTS ON THIS PROGRAM that all cards want, each by the kernel.
-/
import Derived.Test.YtcfklbkkdipjhaaGreatDoorRows
import Derived.Test.YtcfklbkkdipjhaaGreatDoorProg
import Derived.ProofKit
import Derived.Deep.DeepHandedRow
set_option linter.unusedSimpArgs false
set_option linter.unusedVariables false
namespace Go.Proofs.YtcfklbkkdipjhaaGreatDoor.J
open Go
theorem enter:Tryz.prog.mayEnter=true:=by kernel_rfl
theorem heard:Tryz.prog.stopsHeard=true:=by kernel_rfl
theorem laid:laidOutB Tryz.prog=true:=by kernel_rfl
theorem maps:mapsRowed Tryz.prog=true:=by kernel_rfl
theorem lifts:Tryz.prog.liftsFinal=Rows.sheetMediaRow.lifted:=by kernel_rfl
theorem plain:Tryz.prog.plainKeys=Rows.sheetMediaRow.plainKeys:=by kernel_rfl
end Go.Proofs.YtcfklbkkdipjhaaGreatDoor.J
