/- Layer 16: the live question is answered. -/
import Derived.Test.YtfmcfigoendjiaaGreatPvHead16
namespace Go.Pv.L16
open Go Go.Pv Go.Proofs
set_option linter.all false
set_option linter.constructorNameAsVariable false
set_option linter.unusedSectionVars false
set_option linter.unusedVariables false
set_option linter.unusedSimpArgs false
theorem h_12 (n : Nat) : F12 (n + 100) ([eP, eQ, eR], ()) = some ((true, ()), ()) := by kernel_rfl
theorem h_10a (n : Nat) : F10 (n + 100) ([eP, eQ, eR], ()) = some (([(2 : Int), 3, 1], (0 : Int), ()), ()) := by kernel_rfl
theorem h_10b (n : Nat) : F10 (n + 100) ([fP, fQ], ()) = some (([], (161 : Int), ()), ()) := by kernel_rfl
theorem h_10c (n : Nat) : F10 (n + 100) ([({ data := #[112] : ByteArray }, [])], ()) = some (([], (1 : Int), ()), ()) := by kernel_rfl
theorem h_17 (n : Nat) : F17 (n + 100) ([eP, eQ, eR], 1, ()) = some (([(0 : Int)], ()), ()) := by kernel_rfl
theorem h_14a (n : Nat) : F14 (n + 100) ([(2 : Int), 3, 1], [2, 3, 1], ()) = some ((true, ()), ()) := by kernel_rfl
theorem h_14b (n : Nat) : F14 (n + 100) ([(2 : Int), 0, 1], [2, 0, 1], ()) = some ((true, ()), ()) := by kernel_rfl
theorem h_14c (n : Nat) : F14 (n + 100) ([(0 : Int)], [0], ()) = some ((true, ()), ()) := by kernel_rfl
theorem h_14d (n : Nat) : F14 (n + 100) ([(0 : Int), 1], [0, 1], ()) = some ((true, ()), ()) := by kernel_rfl
theorem h_15 (n : Nat) : F15 (n + 100) ([eP, eQ, eR], ()) = some (([(2 : Int), 0, 1], ()), ()) := by kernel_rfl
theorem h_19 (n : Nat) : F19 (n + 100) ([eP, eQ, eR], 2, ()) = some (([(0 : Int), 1], ()), ()) := by kernel_rfl
end Go.Pv.L16
