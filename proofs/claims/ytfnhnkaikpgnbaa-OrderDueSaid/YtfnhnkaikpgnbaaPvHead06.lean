/- Layer 06: the live question is answered. -/
import Derived.Test.YtfnhnkaikpgnbaaPvQ06
import Derived.Test.YtfnhnkaikpgnbaaPvP0
namespace Go.Pv.L06
open Go Go.Pv Go.Proofs
set_option linter.all false
set_option linter.constructorNameAsVariable false
set_option linter.unusedSectionVars false
set_option linter.unusedVariables false
set_option linter.unusedSimpArgs false
theorem head_ok (n : Nat) : F8 (n + 100) () = some ((true, ()), ()) := by kernel_rfl
end Go.Pv.L06
