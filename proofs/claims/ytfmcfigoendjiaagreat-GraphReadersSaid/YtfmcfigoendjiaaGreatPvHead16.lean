/- Layer 16: the live question is answered. -/
import Derived.Test.YtfmcfigoendjiaaGreatPvQ16
namespace Go.Pv.L16
open Go Go.Pv Go.Proofs
set_option linter.all false
set_option linter.constructorNameAsVariable false
set_option linter.unusedSectionVars false
set_option linter.unusedVariables false
set_option linter.unusedSimpArgs false
def it1 (a b : UInt8) : Ty.den T66 := (false, [(⟨#[a]⟩ : ByteArray)], (⟨#[b]⟩ : ByteArray), (1 : Int))
def en1 (nm : UInt8) (l : List (Ty.den T66)) : Ty.den T36 := ((⟨#[nm]⟩ : ByteArray), [((0 : Int), false, l, [], (5 : Int), (⟨#[]⟩ : ByteArray), (1 : Int))])
def eP : Ty.den T36 := en1 112 [it1 114 120]
def eQ : Ty.den T36 := en1 113 [it1 97 120, it1 112 121]
def eR : Ty.den T36 := en1 114 [it1 97 120]
def fP : Ty.den T36 := en1 112 [it1 113 120]
def fQ : Ty.den T36 := en1 113 [it1 112 120]
theorem e_1 (n : Nat) : F22 (n + 100) ({ data := #[112] : ByteArray }, { data := #[115, 101, 113, 32, 114, 32, 120, 32, 119, 105, 116, 104, 105, 110, 32, 53] : ByteArray }, ()) = some ((eP, ()), ()) := by kernel_rfl
theorem e_2 (n : Nat) : F22 (n + 100) ({ data := #[113] : ByteArray }, { data := #[115, 101, 113, 32, 97, 32, 120, 32, 116, 104, 101, 110, 32, 112, 32, 121, 32, 119, 105, 116, 104, 105, 110, 32, 53] : ByteArray }, ()) = some ((eQ, ()), ()) := by kernel_rfl
theorem e_3 (n : Nat) : F22 (n + 100) ({ data := #[114] : ByteArray }, { data := #[115, 101, 113, 32, 97, 32, 120, 32, 119, 105, 116, 104, 105, 110, 32, 53] : ByteArray }, ()) = some ((eR, ()), ()) := by kernel_rfl
theorem e_4 (n : Nat) : F22 (n + 100) ({ data := #[112] : ByteArray }, { data := #[115, 101, 113, 32, 113, 32, 120, 32, 119, 105, 116, 104, 105, 110, 32, 53] : ByteArray }, ()) = some ((fP, ()), ()) := by kernel_rfl
theorem e_5 (n : Nat) : F22 (n + 100) ({ data := #[113] : ByteArray }, { data := #[115, 101, 113, 32, 112, 32, 120, 32, 119, 105, 116, 104, 105, 110, 32, 53] : ByteArray }, ()) = some ((fQ, ()), ()) := by kernel_rfl
end Go.Pv.L16
