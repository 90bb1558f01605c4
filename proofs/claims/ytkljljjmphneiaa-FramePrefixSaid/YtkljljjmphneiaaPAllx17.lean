/- Written by this session's own program (wip/xprint): functions of the Go program as Lean functions, and proofs that the Go code computes them. -/
import Derived.Test.YtkljljjmphneiaaPAllx0
import Derived.Test.YtkljljjmphneiaaPAllx4
import Derived.Test.YtkljljjmphneiaaPAllx5
import Derived.Test.YtkljljjmphneiaaPAllx6
import Derived.Test.YtkljljjmphneiaaPAllx7
import Derived.Test.YtkljljjmphneiaaPAllx11
import Derived.Test.YtkljljjmphneiaaPAllx16
namespace Go.Proofs.Ytkljljjmphneiaa.PAll
open Go.RowKit Go.Proofs.YtkljljjmphneiaaW.PrintWords Go.Proofs.YtkljljjmphneiaaW.PrintLast Go.Proofs.YtkljljjmphneiaaW.PrintMore
attribute [local go_sem] max2_int min2_int max_two min_two max_three min_three max_four min_four   -- for this text's walks alone
set_option linter.unusedVariables false
set_option linter.unusedSimpArgs false

/-! ### math_mod: function 22 -/
mutual
def math_mod.j0 : Nat → Nat → Nat → Bool → Option (Nat)
  | 0, _, _, _ => none
  | k + 1, x0, x1, x23 => if x23 = true then ((math_NaN.f).bind fun t120 => (some t120)) else ((math_Abs.f x1).bind fun t121 => ((math_Frexp.f k t121).bind fun bt122 => (if (flLt x0 0) = true then (math_mod.j1 k x0 t121 bt122.1 bt122.2 (Op.negFloat .f64 x0)) else (math_mod.j1 k x0 t121 bt122.1 bt122.2 x0))))
def math_mod.j1 : Nat → Nat → Nat → Nat → Int → Nat → Option (Nat)
  | 0, _, _, _, _, _ => none
  | k + 1, x0, x1, x5, x6, x7 => math_mod.l0 k x0 x1 x5 x6 x7
def math_mod.l0 : Nat → Nat → Nat → Nat → Int → Nat → Option (Nat)
  | 0, _, _, _, _, _ => none
  | k + 1, x0, x1, x5, x6, x7 => if (flGe x7 x1) = true then ((math_Frexp.f k x7).bind fun bt124 => (if (flLt bt124.1 x5) = true then ((math_Ldexp.f x1 (wrap64 ((wrap64 (bt124.2 - 1)) - x6))).bind fun t126 => (if (floOk .sub x7 t126) = true then (math_mod.l0 k x0 x1 x5 x6 (flo .sub x7 t126)) else (none))) else ((math_Ldexp.f x1 (wrap64 (bt124.2 - x6))).bind fun t127 => (if (floOk .sub x7 t127) = true then (math_mod.l0 k x0 x1 x5 x6 (flo .sub x7 t127)) else (none))))) else (if (flLt x0 0) = true then (some (Op.negFloat .f64 x7)) else (some x7))
end
def math_mod.f (k : Nat) (a0 : Nat) (a1 : Nat) : Option (Nat) := if (flEq a1 0) = true then (math_mod.j0 k a0 a1 true) else ((math_IsInf.f a0 0).bind fun t117 => (if t117 = true then (math_mod.j0 k a0 a1 true) else ((math_IsNaN.f a0).bind fun t118 => (if t118 = true then (math_mod.j0 k a0 a1 true) else ((math_IsNaN.f a1).bind fun t119 => (math_mod.j0 k a0 a1 t119))))))
theorem math_mod.mono_l : ∀ k, (∀ y0 y1 y2, LeO (math_mod.j0 k y0 y1 y2) (math_mod.j0 (k + 1) y0 y1 y2)) ∧ (∀ y0 y1 y2 y3 y4, LeO (math_mod.j1 k y0 y1 y2 y3 y4) (math_mod.j1 (k + 1) y0 y1 y2 y3 y4)) ∧ (∀ y0 y1 y2 y3 y4, LeO (math_mod.l0 k y0 y1 y2 y3 y4) (math_mod.l0 (k + 1) y0 y1 y2 y3 y4))
  | 0 => ⟨fun _ _ _ r h => by simp [math_mod.j0] at h, fun _ _ _ _ _ r h => by simp [math_mod.j1] at h, fun _ _ _ _ _ r h => by simp [math_mod.l0] at h⟩
  | k + 1 => by
    obtain ⟨ih0, ih1, ih2⟩ := math_mod.mono_l k
    refine ⟨?_, ?_, ?_⟩
    · intro y0 y1 y2
      unfold math_mod.j0
      repeat' first
      | (with_reducible exact ih0 _ _ _)
      | (with_reducible exact ih1 _ _ _ _ _)
      | (with_reducible exact ih2 _ _ _ _ _)
      | (with_reducible exact math_Frexp.mono _ _)
      | (with_reducible exact LeO.refl _)
      | (with_reducible exact LeO.none _)
      | (with_reducible refine LeO.ite ?_ ?_)
      | (with_reducible refine LeO.bind ?_ (fun _ => ?_))
      | exact ih0 _ _ _
      | exact ih1 _ _ _ _ _
      | exact ih2 _ _ _ _ _
      | exact math_Frexp.mono _ _
      | exact LeO.none _
      | refine LeO.ite ?_ ?_
      | refine LeO.bind ?_ (fun _ => ?_)
    · intro y0 y1 y2 y3 y4
      unfold math_mod.j1
      repeat' first
      | (with_reducible exact ih0 _ _ _)
      | (with_reducible exact ih1 _ _ _ _ _)
      | (with_reducible exact ih2 _ _ _ _ _)
      | (with_reducible exact math_Frexp.mono _ _)
      | (with_reducible exact LeO.refl _)
      | (with_reducible exact LeO.none _)
      | (with_reducible refine LeO.ite ?_ ?_)
      | (with_reducible refine LeO.bind ?_ (fun _ => ?_))
      | exact ih0 _ _ _
      | exact ih1 _ _ _ _ _
      | exact ih2 _ _ _ _ _
      | exact math_Frexp.mono _ _
      | exact LeO.none _
      | refine LeO.ite ?_ ?_
      | refine LeO.bind ?_ (fun _ => ?_)
    · intro y0 y1 y2 y3 y4
      unfold math_mod.l0
      repeat' first
      | (with_reducible exact ih0 _ _ _)
      | (with_reducible exact ih1 _ _ _ _ _)
      | (with_reducible exact ih2 _ _ _ _ _)
      | (with_reducible exact math_Frexp.mono _ _)
      | (with_reducible exact LeO.refl _)
      | (with_reducible exact LeO.none _)
      | (with_reducible refine LeO.ite ?_ ?_)
      | (with_reducible refine LeO.bind ?_ (fun _ => ?_))
      | exact ih0 _ _ _
      | exact ih1 _ _ _ _ _
      | exact ih2 _ _ _ _ _
      | exact math_Frexp.mono _ _
      | exact LeO.none _
      | refine LeO.ite ?_ ?_
      | refine LeO.bind ?_ (fun _ => ?_)
theorem math_mod.mono : ∀ a0 a1 k, LeO (math_mod.f k a0 a1) (math_mod.f (k + 1) a0 a1) := by
  intro a0 a1 k
  obtain ⟨ih0, ih1, ih2⟩ := math_mod.mono_l k
  unfold math_mod.f
  repeat' first
      | (with_reducible exact ih0 _ _ _)
      | (with_reducible exact ih1 _ _ _ _ _)
      | (with_reducible exact ih2 _ _ _ _ _)
      | (with_reducible exact math_Frexp.mono _ _)
      | (with_reducible exact LeO.refl _)
      | (with_reducible exact LeO.none _)
      | (with_reducible refine LeO.ite ?_ ?_)
      | (with_reducible refine LeO.bind ?_ (fun _ => ?_))
      | exact ih0 _ _ _
      | exact ih1 _ _ _ _ _
      | exact ih2 _ _ _ _ _
      | exact math_Frexp.mono _ _
      | exact LeO.none _
      | refine LeO.ite ?_ ?_
      | refine LeO.bind ?_ (fun _ => ?_)
set_option maxHeartbeats 8000000 in
set_option maxRecDepth 100000 in
theorem math_mod.calls (k : Nat) (a0 : Nat) (a1 : Nat) (r : Nat) (w : World) (h : math_mod.f k a0 a1 = some r) :
    Calls Try.prog 22 #[.float .f64 a0, .float .f64 a1] w fun e w' => e = .returned (.float .f64 r) ∧ Drawn0 w w' := by
  have H : (if (flEq a1 0) = true then (math_mod.j0 k a0 a1 true) else ((math_IsInf.f a0 0).bind fun t117 => (if t117 = true then (math_mod.j0 k a0 a1 true) else ((math_IsNaN.f a0).bind fun t118 => (if t118 = true then (math_mod.j0 k a0 a1 true) else ((math_IsNaN.f a1).bind fun t119 => (math_mod.j0 k a0 a1 t119))))))) = some r := h
  clear h
  have HC3 := Aside0.mk H
  clear H
  go_enter Try.func22, Try.ntmps22
  go_upto_region 1 with (fail)
  go_cut [23] (fun v23 wc => ∃ (kq : Nat) (x23_2 : Bool), v23 = .bool x23_2 ∧ Aside0 (math_mod.j0 kq a0 a1 x23_2 = some r) ∧ Aside0 (kq ≤ k) ∧ Drawn0 w wc)
  case first =>
    have H := HC3.out
    clear HC3
    by_cases c4 : (flEq a1 0) = true
    · rw [if_pos c4] at H
      have c4b0 : (flEq a1 0) = true := c4
      clear c4
      (first | rw [c4b0] | (simp only [i64_w, i32_w]; rw [c4b0]) | skip)
      have H' := Aside0.mk H
      clear H
      go_wp2
      go_meet
      case rel => exact ⟨_, (true), (by first | rfl | (simp; done) | (simp [*]; done) | grind), H', ⟨by first | omega | exact Nat.le_refl _⟩, by repeat (first | exact Drawn0.refl _ | apply Drawn0.step)⟩
    · rw [if_neg c4] at H
      have c4b0 : (flEq a1 0) = false := by simpa using c4
      clear c4
      (first | rw [c4b0] | (simp only [i64_w, i32_w]; rw [c4b0]) | skip)
      replace H := Option.bind_eq_some_iff.mp H
      obtain ⟨t117, A50, H⟩ := H
      replace H : (if t117 = true then (math_mod.j0 k a0 a1 true) else ((math_IsNaN.f a0).bind fun t118 => (if t118 = true then (math_mod.j0 k a0 a1 true) else ((math_IsNaN.f a1).bind fun t119 => (math_mod.j0 k a0 a1 t119))))) = some r := H
      have A5 := Aside0.mk A50
      clear A50
      by_cases c6 : t117 = true
      · subst c6
        have H1 : (math_mod.j0 k a0 a1 true) = some r := by rw [if_pos rfl] at H; exact H
        clear H
        have H := H1
        clear H1
        have H' := Aside0.mk H
        clear H
        go_wp2_with (first | (go_at_call 23; (with_reducible refine (math_IsInf.calls a0 0 true _ A5.out).mono ?_); rintro e w' ⟨rfl, ⟨nd, rfl⟩⟩))
        go_meet
        case rel => exact ⟨_, (true), (by first | rfl | (simp; done) | (simp [*]; done) | grind), H', ⟨by first | omega | exact Nat.le_refl _⟩, by repeat (first | exact Drawn0.refl _ | apply Drawn0.step)⟩
      · replace c6 := Bool.eq_false_iff.mpr c6
        subst c6
        have H1 : ((math_IsNaN.f a0).bind fun t118 => (if t118 = true then (math_mod.j0 k a0 a1 true) else ((math_IsNaN.f a1).bind fun t119 => (math_mod.j0 k a0 a1 t119)))) = some r := by rw [if_neg (show ¬ (false = true) by decide)] at H; exact H
        clear H
        have H := H1
        clear H1
        replace H := Option.bind_eq_some_iff.mp H
        obtain ⟨t118, A70, H⟩ := H
        replace H : (if t118 = true then (math_mod.j0 k a0 a1 true) else ((math_IsNaN.f a1).bind fun t119 => (math_mod.j0 k a0 a1 t119))) = some r := H
        have A7 := Aside0.mk A70
        clear A70
        by_cases c8 : t118 = true
        · subst c8
          have H1 : (math_mod.j0 k a0 a1 true) = some r := by rw [if_pos rfl] at H; exact H
          clear H
          have H := H1
          clear H1
          have H' := Aside0.mk H
          clear H
          go_wp2_with (first | (go_at_call 23; (with_reducible refine (math_IsInf.calls a0 0 false _ A5.out).mono ?_); rintro e w' ⟨rfl, ⟨nd, rfl⟩⟩) | (go_at_call 24; (with_reducible refine (math_IsNaN.calls a0 true _ A7.out).mono ?_); rintro e w' ⟨rfl, ⟨nd, rfl⟩⟩))
          go_meet
          case rel => exact ⟨_, (true), (by first | rfl | (simp; done) | (simp [*]; done) | grind), H', ⟨by first | omega | exact Nat.le_refl _⟩, by repeat (first | exact Drawn0.refl _ | apply Drawn0.step)⟩
        · replace c8 := Bool.eq_false_iff.mpr c8
          subst c8
          have H1 : ((math_IsNaN.f a1).bind fun t119 => (math_mod.j0 k a0 a1 t119)) = some r := by rw [if_neg (show ¬ (false = true) by decide)] at H; exact H
          clear H
          have H := H1
          clear H1
          replace H := Option.bind_eq_some_iff.mp H
          obtain ⟨t119, A90, H⟩ := H
          replace H : (math_mod.j0 k a0 a1 t119) = some r := H
          have A9 := Aside0.mk A90
          clear A90
          have H' := Aside0.mk H
          clear H
          go_wp2_with (first | (go_at_call 23; (with_reducible refine (math_IsInf.calls a0 0 false _ A5.out).mono ?_); rintro e w' ⟨rfl, ⟨nd, rfl⟩⟩) | (go_at_call 24; (with_reducible refine (math_IsNaN.calls a0 false _ A7.out).mono ?_); rintro e w' ⟨rfl, ⟨nd, rfl⟩⟩) | (go_at_call 24; (with_reducible refine (math_IsNaN.calls a1 t119 _ A9.out).mono ?_); rintro e w' ⟨rfl, ⟨nd, rfl⟩⟩))
          go_meet
          case rel => exact ⟨_, (t119), (by first | rfl | (simp; done) | (simp [*]; done) | grind), H', ⟨by first | omega | exact Nat.le_refl _⟩, by repeat (first | exact Drawn0.refl _ | apply Drawn0.step)⟩
  case rest =>
    clear HC3
    try clear c2
    try clear p2
    try clear c4
    try clear c4b0
    try clear c6
    try clear c8
    obtain ⟨kq, x23_2, rfl, HA, HJ2, ⟨mc2, rfl⟩⟩ := hcut
    cases kq with
    | zero => exact absurd HA.out (by simp [math_mod.j0])
    | succ kj2 =>
      have H := HA.out
      clear HA
      simp only [math_mod.j0] at H
      by_cases c10 : x23_2 = true
      · subst c10
        have H1 : ((math_NaN.f).bind fun t120 => (some t120)) = some r := by rw [if_pos rfl] at H; exact H
        clear H
        have H := H1
        clear H1
        replace H := Option.bind_eq_some_iff.mp H
        obtain ⟨t120, A110, H⟩ := H
        replace H : (some t120) = some r := H
        have A11 := Aside0.mk A110
        clear A110
        obtain rfl := Option.some.inj H
        go_wp2_with (first | ((with_reducible refine gate_callee (f := 25) rfl ?_); refine goesL_ (some 24) rfl rfl Try.func25 (by kernel_rfl) rfl #[] rfl (by (try simp only [List.map_toArray, List.map_cons, List.map_nil]); first | done | rfl | (simp only [List.length_drop, List.length_take]; rfl)) ?_; (with_reducible refine (math_NaN.calls  t120 _ A11.out).mono ?_); rintro e w' ⟨rfl, ⟨nd, rfl⟩⟩; refine ⟨_, rfl, ?_⟩))
        go_ret
        exact ⟨by first | rfl | (simp; done) | (simp [*]; done), by repeat (first | exact Drawn0.refl _ | apply Drawn0.step)⟩
      · replace c10 := Bool.eq_false_iff.mpr c10
        subst c10
        have H1 : ((math_Abs.f a1).bind fun t121 => ((math_Frexp.f kj2 t121).bind fun bt122 => (if (flLt a0 0) = true then (math_mod.j1 kj2 a0 t121 bt122.1 bt122.2 (Op.negFloat .f64 a0)) else (math_mod.j1 kj2 a0 t121 bt122.1 bt122.2 a0)))) = some r := by rw [if_neg (show ¬ (false = true) by decide)] at H; exact H
        clear H
        have H := H1
        clear H1
        replace H := Option.bind_eq_some_iff.mp H
        obtain ⟨t121, A120, H⟩ := H
        replace H : ((math_Frexp.f kj2 t121).bind fun bt122 => (if (flLt a0 0) = true then (math_mod.j1 kj2 a0 t121 bt122.1 bt122.2 (Op.negFloat .f64 a0)) else (math_mod.j1 kj2 a0 t121 bt122.1 bt122.2 a0))) = some r := H
        have A12 := Aside0.mk A120
        clear A120
        replace H := Option.bind_eq_some_iff.mp H
        obtain ⟨⟨t122, t123⟩, A130, H⟩ := H
        replace H : (if (flLt a0 0) = true then (math_mod.j1 kj2 a0 t121 t122 t123 (Op.negFloat .f64 a0)) else (math_mod.j1 kj2 a0 t121 t122 t123 a0)) = some r := H
        have A13 := Aside0.mk A130
        clear A130
        have HC14 := Aside0.mk H
        clear H
        go_upto_if 34 with (first | ((with_reducible refine gate_callee (f := 26) rfl ?_); refine goesL_ (some 26) rfl rfl Try.func26 (by kernel_rfl) rfl #[.float .f64 a1] rfl (by (try simp only [List.map_toArray, List.map_cons, List.map_nil]); first | done | rfl | (simp only [List.length_drop, List.length_take]; rfl)) ?_; (with_reducible refine (math_Abs.calls a1 t121 _ A12.out).mono ?_); rintro e w' ⟨rfl, ⟨nd, rfl⟩⟩; refine ⟨_, rfl, ?_⟩) | ((with_reducible refine gate_callee (f := 27) rfl ?_); refine goesL_ (some 29) rfl rfl Try.func27 (by kernel_rfl) rfl #[.float .f64 t121] rfl (by (try simp only [List.map_toArray, List.map_cons, List.map_nil]); first | done | rfl | (simp only [List.length_drop, List.length_take]; rfl)) ?_; (with_reducible refine (math_Frexp.calls kj2 t121 t122 t123 _ A13.out).mono ?_); rintro e w' ⟨rfl, ⟨nd, rfl⟩⟩; refine ⟨_, rfl, ?_⟩))
        (try simp only [Act.put, List.setIfInBounds_toArray, List.set_cons_zero, List.set_cons_succ])
        go_cut [7] (fun v7 wc => ∃ (kq : Nat) (x7_13 : Nat), v7 = .float .f64 x7_13 ∧ Aside0 (math_mod.j1 kq a0 t121 t122 t123 x7_13 = some r) ∧ Aside0 (kq ≤ kj2) ∧ Drawn0 w wc)
        case first =>
          have H := HC14.out
          clear HC14
          by_cases c15 : (flLt a0 0) = true
          · rw [if_pos c15] at H
            have c15b0 : (flLt a0 0) = true := c15
            clear c15
            (first | rw [c15b0] | (simp only [i64_w, i32_w]; rw [c15b0]) | skip)
            have H' := Aside0.mk H
            clear H
            go_wp2
            go_meet
            case rel => exact ⟨_, (Op.negFloat .f64 a0), (by first | rfl | (simp; done) | (simp [*]; done) | grind), H', ⟨by have := HJ2.out; first | omega | exact Nat.le_refl _⟩, by repeat (first | exact Drawn0.refl _ | apply Drawn0.step)⟩
          · rw [if_neg c15] at H
            have c15b0 : (flLt a0 0) = false := by simpa using c15
            clear c15
            (first | rw [c15b0] | (simp only [i64_w, i32_w]; rw [c15b0]) | skip)
            have H' := Aside0.mk H
            clear H
            go_wp2
            go_meet
            case rel => exact ⟨_, (a0), (by first | rfl | (simp; done) | (simp [*]; done) | grind), H', ⟨by have := HJ2.out; first | omega | exact Nat.le_refl _⟩, by repeat (first | exact Drawn0.refl _ | apply Drawn0.step)⟩
        case rest =>
          clear HC14
          try clear c1
          try clear c2
          try clear p2
          try clear c4
          try clear c4b0
          try clear c6
          try clear c8
          try clear c10
          try clear c15
          try clear c15b0
          try clear p2
          obtain ⟨kq, x7_13, rfl, HA, HJ13, ⟨mc13, rfl⟩⟩ := hcut
          cases kq with
          | zero => exact absurd HA.out (by simp [math_mod.j1])
          | succ kj13 =>
            have H := HA.out
            clear HA
            simp only [math_mod.j1] at H
            have H' := Aside0.mk H
            clear H
            go_wp2
            go_loopg [7] kj13 (fun kq v7 w' => ∃ (x7_3 : Nat), v7 = .float .f64 x7_3 ∧ Aside0 (math_mod.l0 kq a0 t121 t122 t123 x7_3 = some r) ∧ Aside0 (kq ≤ kj13) ∧ Drawn0 w w')
            case atStart => exact ⟨(x7_13), (by first | rfl | (simp; done) | (simp [*]; done) | grind), H', ⟨Nat.le_refl _⟩, by repeat (first | exact Drawn0.refl _ | apply Drawn0.step)⟩
            case round =>
              clear H'
              try clear c1
              try clear c2
              try clear p2
              try clear c4
              try clear c4b0
              try clear c6
              try clear c8
              try clear c10
              try clear c13
              try clear c15
              try clear c15b0
              try clear p2
              obtain ⟨x7_3, rfl, HA, HK3, ⟨m3, rfl⟩⟩ := hrel
              cases gk with
              | zero => exact absurd HA.out (by simp [math_mod.l0])
              | succ k3 =>
                have H := HA.out
                clear HA
                simp only [math_mod.l0] at H
                by_cases c16 : (flGe x7_3 t121) = true
                · rw [if_pos c16] at H
                  have c16b0 : (flGe x7_3 t121) = true := c16
                  clear c16
                  replace H := Option.bind_eq_some_iff.mp H
                  obtain ⟨⟨t124, t125⟩, A170, H⟩ := H
                  replace H : (if (flLt t124 t122) = true then ((math_Ldexp.f t121 (wrap64 ((wrap64 (t125 - 1)) - t123))).bind fun t126 => (if (floOk .sub x7_3 t126) = true then (math_mod.l0 k3 a0 t121 t122 t123 (flo .sub x7_3 t126)) else (none))) else ((math_Ldexp.f t121 (wrap64 (t125 - t123))).bind fun t127 => (if (floOk .sub x7_3 t127) = true then (math_mod.l0 k3 a0 t121 t122 t123 (flo .sub x7_3 t127)) else (none)))) = some r := H
                  have A17 := Aside0.mk A170
                  clear A170
                  by_cases c18 : (flLt t124 t122) = true
                  · rw [if_pos c18] at H
                    have c18b0 : (flLt t124 t122) = true := c18
                    clear c18
                    replace H := Option.bind_eq_some_iff.mp H
                    obtain ⟨t126, A190, H⟩ := H
                    replace H : (if (floOk .sub x7_3 t126) = true then (math_mod.l0 k3 a0 t121 t122 t123 (flo .sub x7_3 t126)) else (none)) = some r := H
                    have A19 := Aside0.mk A190
                    clear A190
                    by_cases c20 : (floOk .sub x7_3 t126) = true
                    · rw [if_pos c20] at H
                      have hflc20 : ∀ (T_ : TypeId) (W : World), (binOp .sub T_ (.float .f64 x7_3) (.float .f64 t126)).run Try.prog W = .ok (.float .f64 (flo .sub x7_3 t126)) W := fun T_ W => run_flo W .sub T_ x7_3 t126 c20
                      clear c20
                      have H' := Aside0.mk H
                      clear H
                      go_wp2_with (first | ((with_reducible refine gate_callee (f := 27) rfl ?_); refine goesL_ (some 42) rfl rfl Try.func27 (by kernel_rfl) rfl #[.float .f64 x7_3] rfl (by (try simp only [List.map_toArray, List.map_cons, List.map_nil]); first | done | rfl | (simp only [List.length_drop, List.length_take]; rfl)) ?_; (with_reducible refine (math_Frexp.calls k3 x7_3 t124 t125 _ A17.out).mono ?_); rintro e w' ⟨rfl, ⟨nd, rfl⟩⟩; refine ⟨_, rfl, ?_⟩) | ((with_reducible refine gate_callee (f := 28) rfl ?_); refine goesL_ (some 55) rfl rfl Try.func28 (by kernel_rfl) rfl #[.float .f64 t121, .int .i64 (wrap64 ((wrap64 (t125 - 1)) - t123))] rfl (by (try simp only [List.map_toArray, List.map_cons, List.map_nil]); first | done | rfl | (simp only [List.length_drop, List.length_take]; rfl)) ?_; (with_reducible refine (math_Ldexp.calls t121 (wrap64 ((wrap64 (t125 - 1)) - t123)) t126 _ A19.out).mono ?_); rintro e w' ⟨rfl, ⟨nd, rfl⟩⟩; refine ⟨_, rfl, ?_⟩))
                      go_roundg k3
                      case measure => have := HJ2.out; have := HJ13.out; have := HK3.out; omega
                      case rel => exact ⟨(flo .sub x7_3 t126), (by first | rfl | (simp; done) | (simp [*]; done) | grind), H', ⟨by have := HJ2.out; have := HJ13.out; have := HK3.out; omega⟩, by repeat (first | exact Drawn0.refl _ | apply Drawn0.step)⟩
                    · rw [if_neg c20] at H
                      exact absurd H (by simp)
                  · rw [if_neg c18] at H
                    have c18b0 : (flLt t124 t122) = false := by simpa using c18
                    clear c18
                    replace H := Option.bind_eq_some_iff.mp H
                    obtain ⟨t127, A210, H⟩ := H
                    replace H : (if (floOk .sub x7_3 t127) = true then (math_mod.l0 k3 a0 t121 t122 t123 (flo .sub x7_3 t127)) else (none)) = some r := H
                    have A21 := Aside0.mk A210
                    clear A210
                    by_cases c22 : (floOk .sub x7_3 t127) = true
                    · rw [if_pos c22] at H
                      have hflc22 : ∀ (T_ : TypeId) (W : World), (binOp .sub T_ (.float .f64 x7_3) (.float .f64 t127)).run Try.prog W = .ok (.float .f64 (flo .sub x7_3 t127)) W := fun T_ W => run_flo W .sub T_ x7_3 t127 c22
                      clear c22
                      have H' := Aside0.mk H
                      clear H
                      go_wp2_with (first | ((with_reducible refine gate_callee (f := 27) rfl ?_); refine goesL_ (some 42) rfl rfl Try.func27 (by kernel_rfl) rfl #[.float .f64 x7_3] rfl (by (try simp only [List.map_toArray, List.map_cons, List.map_nil]); first | done | rfl | (simp only [List.length_drop, List.length_take]; rfl)) ?_; (with_reducible refine (math_Frexp.calls k3 x7_3 t124 t125 _ A17.out).mono ?_); rintro e w' ⟨rfl, ⟨nd, rfl⟩⟩; refine ⟨_, rfl, ?_⟩) | ((with_reducible refine gate_callee (f := 28) rfl ?_); refine goesL_ (some 55) rfl rfl Try.func28 (by kernel_rfl) rfl #[.float .f64 t121, .int .i64 (wrap64 (t125 - t123))] rfl (by (try simp only [List.map_toArray, List.map_cons, List.map_nil]); first | done | rfl | (simp only [List.length_drop, List.length_take]; rfl)) ?_; (with_reducible refine (math_Ldexp.calls t121 (wrap64 (t125 - t123)) t127 _ A21.out).mono ?_); rintro e w' ⟨rfl, ⟨nd, rfl⟩⟩; refine ⟨_, rfl, ?_⟩))
                      go_roundg k3
                      case measure => have := HJ2.out; have := HJ13.out; have := HK3.out; omega
                      case rel => exact ⟨(flo .sub x7_3 t127), (by first | rfl | (simp; done) | (simp [*]; done) | grind), H', ⟨by have := HJ2.out; have := HJ13.out; have := HK3.out; omega⟩, by repeat (first | exact Drawn0.refl _ | apply Drawn0.step)⟩
                    · rw [if_neg c22] at H
                      exact absurd H (by simp)
                · rw [if_neg c16] at H
                  have c16b0 : (flGe x7_3 t121) = false := by simpa using c16
                  clear c16
                  by_cases c23 : (flLt a0 0) = true
                  · rw [if_pos c23] at H
                    have c23b0 : (flLt a0 0) = true := c23
                    clear c23
                    obtain rfl := Option.some.inj H
                    go_wp2
                    go_ret
                    exact ⟨by first | rfl | (simp; done) | (simp [*]; done), by repeat (first | exact Drawn0.refl _ | apply Drawn0.step)⟩
                  · rw [if_neg c23] at H
                    have c23b0 : (flLt a0 0) = false := by simpa using c23
                    clear c23
                    obtain rfl := Option.some.inj H
                    go_wp2
                    go_ret
                    exact ⟨by first | rfl | (simp; done) | (simp [*]; done), by repeat (first | exact Drawn0.refl _ | apply Drawn0.step)⟩

end Go.Proofs.Ytkljljjmphneiaa.PAll
