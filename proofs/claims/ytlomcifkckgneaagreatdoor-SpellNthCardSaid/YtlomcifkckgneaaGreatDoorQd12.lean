/-
  THE FIXED CALLS OF LAYER 5 answer as the document says: the interpreter's run, by the kernel.
-/
import Derived.Test.YtlomcifkckgneaaGreatDoorQd6
set_option linter.unusedSimpArgs false
set_option linter.unusedVariables false
namespace Go.Abs
open Go Go.Proofs
theorem fixed5_run : callN K 200 10 [] [] = some (.ret (B true) []) := by kernel_rfl
theorem fixed5_den : den K 10 [] [] = some (.ret (B true) []) := den_iff.2 ⟨200, fixed5_run⟩
end Go.Abs
