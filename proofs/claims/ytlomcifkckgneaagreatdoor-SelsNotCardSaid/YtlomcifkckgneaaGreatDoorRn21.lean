/-
  THE FIXED CALLS OF LAYER 4 answer as the document says: the interpreter's run, by the kernel.
-/
import Derived.Test.YtlomcifkckgneaaGreatDoorRn6
set_option linter.unusedSimpArgs false
set_option linter.unusedVariables false
set_option linter.unusedSimpArgs true
namespace Go.Abs
open Go Go.Proofs
set_option maxRecDepth 100000
theorem x9:dr K 400 16 [] []=some (.ret (B true) []):=by kernel_rfl
theorem yC:den K 16 [] []=some (.ret (B true) []):=mJ.2 ⟨400,x9⟩
end Go.Abs
