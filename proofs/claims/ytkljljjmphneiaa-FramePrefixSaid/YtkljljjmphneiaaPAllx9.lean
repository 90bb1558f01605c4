/- Written by this session's own program (wip/xprint): functions of the Go program as Lean functions, and proofs that the Go code computes them. -/
import Derived.Test.YtkljljjmphneiaaPAllx0
import Derived.Test.YtkljljjmphneiaaPAllx4
namespace Go.Proofs.Ytkljljjmphneiaa.PAll
open Go.RowKit Go.Proofs.YtkljljjmphneiaaW.PrintWords Go.Proofs.YtkljljjmphneiaaW.PrintLast Go.Proofs.YtkljljjmphneiaaW.PrintMore
attribute [local go_sem] max2_int min2_int max_two min_two max_three min_three max_four min_four   -- for this text's walks alone
set_option linter.unusedVariables false
set_option linter.unusedSimpArgs false

/-! ### math_normalize: function 35 -/
def math_normalize.f (a0 : Nat) : Option (Nat × Int) := (math_Abs.f a0).bind fun t102 => (if (flLt t102 4503599627370496) = true then (if (floOk .mul a0 4841369599423283200) = true then (some (flo .mul a0 4841369599423283200, (-52))) else (none)) else (some (a0, 0)))
set_option maxHeartbeats 8000000 in
set_option maxRecDepth 100000 in
theorem math_normalize.calls (a0 : Nat) (r1 : Nat) (r2 : Int) (w : World) (h : math_normalize.f a0 = some (r1, r2)) :
    Calls Try.prog 35 #[.float .f64 a0] w fun e w' => e = .returned (.tuple #[.float .f64 r1, .int .i64 r2]) ∧ Drawn0 w w' := by
  have H : ((math_Abs.f a0).bind fun t102 => (if (flLt t102 4503599627370496) = true then (if (floOk .mul a0 4841369599423283200) = true then (some (flo .mul a0 4841369599423283200, (-52))) else (none)) else (some (a0, 0)))) = some (r1, r2) := h
  clear h
  replace H := Option.bind_eq_some_iff.mp H
  obtain ⟨t102, A20, H⟩ := H
  replace H : (if (flLt t102 4503599627370496) = true then (if (floOk .mul a0 4841369599423283200) = true then (some (flo .mul a0 4841369599423283200, (-52))) else (none)) else (some (a0, 0))) = some (r1, r2) := H
  have A2 := Aside0.mk A20
  clear A20
  by_cases c3 : (flLt t102 4503599627370496) = true
  · rw [if_pos c3] at H
    have c3b0 : (flLt t102 4503599627370496) = true := c3
    clear c3
    by_cases c4 : (floOk .mul a0 4841369599423283200) = true
    · rw [if_pos c4] at H
      have hflc4 : ∀ (T_ : TypeId) (W : World), (binOp .mul T_ (.float .f64 a0) (.float .f64 4841369599423283200)).run Try.prog W = .ok (.float .f64 (flo .mul a0 4841369599423283200)) W := fun T_ W => run_flo W .mul T_ a0 4841369599423283200 c4
      clear c4
      simp only [Option.some.injEq, Prod.mk.injEq] at H
      obtain ⟨rfl, rfl⟩ := H
      go_enter Try.func35, Try.ntmps35
      go_wp2_with (first | ((with_reducible refine gate_callee (f := 26) rfl ?_); refine goesL_ (some 5) rfl rfl Try.func26 (by kernel_rfl) rfl #[.float .f64 a0] rfl (by (try simp only [List.map_toArray, List.map_cons, List.map_nil]); first | done | rfl | (simp only [List.length_drop, List.length_take]; rfl)) ?_; (with_reducible refine (math_Abs.calls a0 t102 _ A2.out).mono ?_); rintro e w' ⟨rfl, ⟨nd, rfl⟩⟩; refine ⟨_, rfl, ?_⟩))
      go_ret2
      exact ⟨by first | rfl | (simp; done) | (simp [*]; done), by repeat (first | exact Drawn0.refl _ | apply Drawn0.step)⟩
    · rw [if_neg c4] at H
      exact absurd H (by simp)
  · rw [if_neg c3] at H
    have c3b0 : (flLt t102 4503599627370496) = false := by simpa using c3
    clear c3
    simp only [Option.some.injEq, Prod.mk.injEq] at H
    obtain ⟨rfl, rfl⟩ := H
    go_enter Try.func35, Try.ntmps35
    go_wp2_with (first | ((with_reducible refine gate_callee (f := 26) rfl ?_); refine goesL_ (some 5) rfl rfl Try.func26 (by kernel_rfl) rfl #[.float .f64 a0] rfl (by (try simp only [List.map_toArray, List.map_cons, List.map_nil]); first | done | rfl | (simp only [List.length_drop, List.length_take]; rfl)) ?_; (with_reducible refine (math_Abs.calls a0 t102 _ A2.out).mono ?_); rintro e w' ⟨rfl, ⟨nd, rfl⟩⟩; refine ⟨_, rfl, ?_⟩))
    go_ret2
    exact ⟨by first | rfl | (simp; done) | (simp [*]; done), by repeat (first | exact Drawn0.refl _ | apply Drawn0.step)⟩

end Go.Proofs.Ytkljljjmphneiaa.PAll
