/- Layer 07: the live question is answered. -/
import Derived.Test.YtgolpihhlfgjbaaDoorPvL07
namespace Go.Pv.L07
open Go Go.Pv Go.Proofs
set_option linter.all false
set_option linter.constructorNameAsVariable false
set_option linter.unusedSectionVars false
set_option linter.unusedVariables false
set_option linter.unusedSimpArgs false
theorem head_ok (n : Nat) : F6 (n + 100) () = some ((true, ()), ()) := by kernel_rfl
end Go.Pv.L07
