/-
  THE FIXED CALLS OF LAYER 4 answer as the document says: the interpreter's run, by the kernel.
-/
import Derived.Test.YtlomcifkckgneaaGreatDoorQa6
set_option linter.unusedSimpArgs false
set_option linter.unusedVariables false
namespace Go.Abs
open Go Go.Proofs
set_option maxRecDepth 100000
theorem fixed4_run : callN K 400 16 [] [] = some (.ret (B true) []) := by kernel_rfl
theorem fixed4_den : den K 16 [] [] = some (.ret (B true) []) := den_iff.2 ⟨400, fixed4_run⟩
end Go.Abs
