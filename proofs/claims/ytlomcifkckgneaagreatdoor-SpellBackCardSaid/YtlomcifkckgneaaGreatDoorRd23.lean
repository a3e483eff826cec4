/-
  THE FIXED CALLS OF LAYER 5 answer as the document says: the interpreter's run, by the kernel.
-/
import Derived.Test.YtlomcifkckgneaaGreatDoorRd5
set_option linter.unusedSimpArgs false
set_option linter.unusedVariables false
namespace Go.Abs
open Go Go.Proofs
theorem Gu:eU K 200 10 [] []=some (.ret (B true) []):=by kernel_rfl
theorem Ga:den K 10 [] []=some (.ret (B true) []):=rZ.2 ⟨200,Gu⟩
end Go.Abs
