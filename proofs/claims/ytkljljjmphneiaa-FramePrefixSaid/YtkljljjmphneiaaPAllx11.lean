/- Written by this session's own program (wip/xprint): functions of the Go program as Lean functions, and proofs that the Go code computes them. -/
import Derived.Test.YtkljljjmphneiaaPAllx0
import Derived.Test.YtkljljjmphneiaaPAllx10
namespace Go.Proofs.Ytkljljjmphneiaa.PAll
open Go.RowKit Go.Proofs.YtkljljjmphneiaaW.PrintWords Go.Proofs.YtkljljjmphneiaaW.PrintLast Go.Proofs.YtkljljjmphneiaaW.PrintMore
attribute [local go_sem] max2_int min2_int max_two min_two max_three min_three max_four min_four   -- for this text's walks alone
set_option linter.unusedVariables false
set_option linter.unusedSimpArgs false

/-! ### math_Frexp: function 27 -/
def math_Frexp.f (k : Nat) (a0 : Nat) : Option (Nat × Int) := (math_frexp.f k a0).bind fun bt107 => (some (bt107.1, bt107.2))
theorem math_Frexp.mono : ∀ a0 k, LeO (math_Frexp.f k a0) (math_Frexp.f (k + 1) a0) := by
  intro a0 k
  unfold math_Frexp.f
  repeat' first
      | (with_reducible exact math_frexp.mono _ _)
      | (with_reducible exact LeO.refl _)
      | (with_reducible exact LeO.none _)
      | (with_reducible refine LeO.ite ?_ ?_)
      | (with_reducible refine LeO.bind ?_ (fun _ => ?_))
      | exact math_frexp.mono _ _
      | exact LeO.none _
      | refine LeO.ite ?_ ?_
      | refine LeO.bind ?_ (fun _ => ?_)
set_option maxHeartbeats 8000000 in
set_option maxRecDepth 100000 in
theorem math_Frexp.calls (k : Nat) (a0 : Nat) (r1 : Nat) (r2 : Int) (w : World) (h : math_Frexp.f k a0 = some (r1, r2)) :
    Calls Try.prog 27 #[.float .f64 a0] w fun e w' => e = .returned (.tuple #[.float .f64 r1, .int .i64 r2]) ∧ Drawn0 w w' := by
  have H : ((math_frexp.f k a0).bind fun bt107 => (some (bt107.1, bt107.2))) = some (r1, r2) := h
  clear h
  replace H := Option.bind_eq_some_iff.mp H
  obtain ⟨⟨t107, t108⟩, A20, H⟩ := H
  replace H : (some (t107, t108)) = some (r1, r2) := H
  have A2 := Aside0.mk A20
  clear A20
  simp only [Option.some.injEq, Prod.mk.injEq] at H
  obtain ⟨rfl, rfl⟩ := H
  go_enter Try.func27, Try.ntmps27
  go_wp2_with (first | ((with_reducible refine gate_callee (f := 32) rfl ?_); refine goesL_ (some 9) rfl rfl Try.func32 (by kernel_rfl) rfl #[.float .f64 a0] rfl (by (try simp only [List.map_toArray, List.map_cons, List.map_nil]); first | done | rfl | (simp only [List.length_drop, List.length_take]; rfl)) ?_; (with_reducible refine (math_frexp.calls k a0 t107 t108 _ A2.out).mono ?_); rintro e w' ⟨rfl, ⟨nd, rfl⟩⟩; refine ⟨_, rfl, ?_⟩))
  go_ret2
  exact ⟨by first | rfl | (simp; done) | (simp [*]; done), by repeat (first | exact Drawn0.refl _ | apply Drawn0.step)⟩

end Go.Proofs.Ytkljljjmphneiaa.PAll
