/-
  THE FIXED CALLS OF LAYER 4 answer as the document says: the interpreter's run, by the kernel.
-/
import Derived.Test.YtlomcifkckgneaaGreatDoorRt6
set_option linter.unusedSimpArgs false
set_option linter.unusedVariables false
namespace Go.Abs
open Go Go.Proofs
set_option maxRecDepth 100000
theorem B1:eC K 400 16 [] []=some (.ret (B true) []):=by kernel_rfl
theorem km:den K 16 [] []=some (.ret (B true) []):=nu.2 ⟨400,B1⟩
end Go.Abs
