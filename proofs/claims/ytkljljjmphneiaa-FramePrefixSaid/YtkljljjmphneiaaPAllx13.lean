/- Written by this session's own program (wip/xprint): functions of the Go program as Lean functions, and proofs that the Go code computes them. -/
import Derived.Test.YtkljljjmphneiaaPAllx0
namespace Go.Proofs.Ytkljljjmphneiaa.PAll
open Go.RowKit Go.Proofs.YtkljljjmphneiaaW.PrintWords Go.Proofs.YtkljljjmphneiaaW.PrintLast Go.Proofs.YtkljljjmphneiaaW.PrintMore
attribute [local go_sem] max2_int min2_int max_two min_two max_three min_three max_four min_four   -- for this text's walks alone
set_option linter.unusedVariables false
set_option linter.unusedSimpArgs false

/-! ### math_Copysign: function 36 -/
def math_Copysign.f (a0 : Nat) (a1 : Nat) : Option (Nat) := some ((Go.bits .or .u64 (Go.bits .andNot .u64 ((a0 : Nat) : Int) 9223372036854775808) (Go.bits .and .u64 ((a1 : Nat) : Int) 9223372036854775808)).toNat)
set_option maxHeartbeats 8000000 in
set_option maxRecDepth 100000 in
theorem math_Copysign.calls (a0 : Nat) (a1 : Nat) (r : Nat) (w : World) (h : math_Copysign.f a0 a1 = some r) :
    Calls Try.prog 36 #[.float .f64 a0, .float .f64 a1] w fun e w' => e = .returned (.float .f64 r) ∧ Drawn0 w w' := by
  have hxf30 : ∀ (a_ : Nat) (W : World), (callFunc 30 #[.float .f64 a_]).run Try.prog W = .ok (.value (.int .u64 (a_ : Int))) W := fun a_ W => by rw [run_callFunc_extern Try.func30 (by kernel_rfl) (by kernel_rfl) (by kernel_rfl) (e := Extern.MathFloatBits.float64bits) (by kernel_rfl)]; rfl
  have hxf29 : ∀ (a_ : Int) (W : World), (callFunc 29 #[.int .u64 a_]).run Try.prog W = .ok (.value (.float .f64 a_.toNat)) W := fun a_ W => by rw [run_callFunc_extern Try.func29 (by kernel_rfl) (by kernel_rfl) (by kernel_rfl) (e := Extern.MathFloatBits.float64frombits) (by kernel_rfl)]; rfl
  have H : (some ((Go.bits .or .u64 (Go.bits .andNot .u64 ((a0 : Nat) : Int) 9223372036854775808) (Go.bits .and .u64 ((a1 : Nat) : Int) 9223372036854775808)).toNat)) = some r := h
  clear h
  obtain rfl := Option.some.inj H
  go_enter Try.func36, Try.ntmps36
  go_wp2
  go_ret
  exact ⟨by first | rfl | (simp; done) | (simp [*]; done), by repeat (first | exact Drawn0.refl _ | apply Drawn0.step)⟩

end Go.Proofs.Ytkljljjmphneiaa.PAll
