/-
  THE FIXED CALLS OF LAYER 4 answer as the document says: the interpreter's run, by the kernel.
-/
import Derived.Test.YtlomcifkckgneaaGreatDoorRh6
set_option linter.unusedSimpArgs false
set_option linter.unusedVariables false
set_option linter.unusedSimpArgs true
namespace Go.Abs
open Go Go.Proofs
set_option maxRecDepth 100000
theorem sW:ce K 400 16 [] []=some (.ret (B true) []):=by kernel_rfl
theorem bG:den K 16 [] []=some (.ret (B true) []):=ke.2 ⟨400,sW⟩
end Go.Abs
