/-
  THE FIXED CALLS OF LAYER 1 answer as the document says: the interpreter's run, by the kernel.
-/
import Derived.Test.YtcnodcgdceoijaaDoorSpecA
set_option linter.unusedSimpArgs false
set_option linter.unusedVariables false
namespace Go.Abs
open Go Go.Proofs
theorem fixed1_run : callN K 400 25 [] [] = some (.ret (B true) []) := by kernel_rfl
theorem fixed1_den : den K 25 [] [] = some (.ret (B true) []) := den_iff.2 ⟨400, fixed1_run⟩
end Go.Abs
