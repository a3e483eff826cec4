/-
  THE FIXED CALLS OF LAYER 4 answer as the document says: the interpreter's run, by the kernel.
-/
import Derived.Test.YtlomcifkckgneaaGreatDoorRa6
set_option linter.unusedSimpArgs false
set_option linter.unusedVariables false
set_option linter.unusedSimpArgs true
namespace Go.Abs
open Go Go.Proofs
set_option maxRecDepth 100000
theorem wl:cY K 400 16 [] []=some (.ret (B true) []):=by kernel_rfl
theorem ei:den K 16 [] []=some (.ret (B true) []):=oa.2 ⟨400,wl⟩
end Go.Abs
