/-
  THE FIXED CALLS OF LAYER 4 answer as the document says: the interpreter's run, by the kernel.
-/
import Derived.Test.YtlomcifkckgneaaGreatDoorRc6
set_option linter.unusedSimpArgs false
set_option linter.unusedVariables false
set_option linter.unusedSimpArgs true
namespace Go.Abs
open Go Go.Proofs
set_option maxRecDepth 100000
theorem Ag:dW K 400 16 [] []=some (.ret (B true) []):=by kernel_rfl
theorem zo:den K 16 [] []=some (.ret (B true) []):=nH.2 ⟨400,Ag⟩
end Go.Abs
