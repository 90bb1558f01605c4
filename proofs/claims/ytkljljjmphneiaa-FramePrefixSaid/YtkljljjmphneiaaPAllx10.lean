/- Written by this session's own program (wip/xprint): functions of the Go program as Lean functions, and proofs that the Go code computes them. -/
import Derived.Test.YtkljljjmphneiaaPAllx0
import Derived.Test.YtkljljjmphneiaaPAllx5
import Derived.Test.YtkljljjmphneiaaPAllx6
import Derived.Test.YtkljljjmphneiaaPAllx9
namespace Go.Proofs.Ytkljljjmphneiaa.PAll
open Go.RowKit Go.Proofs.YtkljljjmphneiaaW.PrintWords Go.Proofs.YtkljljjmphneiaaW.PrintLast Go.Proofs.YtkljljjmphneiaaW.PrintMore
attribute [local go_sem] max2_int min2_int max_two min_two max_three min_three max_four min_four   -- for this text's walks alone
set_option linter.unusedVariables false
set_option linter.unusedSimpArgs false

/-! ### math_frexp: function 32 -/
def math_frexp.j0 : Nat → Nat → Bool → Option (Nat × Int)
  | 0, _, _ => none
  | k + 1, x0, x9 => if x9 = true then (some (x0, 0)) else ((math_normalize.f x0).bind fun bt105 => (some ((Go.bits .or .u64 (Go.bits .andNot .u64 ((bt105.1 : Nat) : Int) 9218868437227405312) 4602678819172646912).toNat, wrap64 (bt105.2 + (wrap64 ((wrap64 ((wrap64 (Go.bits .and .u64 (((bt105.1 : Nat) : Int) / 4503599627370496) 2047)) - 1023)) + 1))))))
def math_frexp.f (k : Nat) (a0 : Nat) : Option (Nat × Int) := if (flEq a0 0) = true then (some (a0, 0)) else ((math_IsInf.f a0 0).bind fun t103 => (if t103 = true then (math_frexp.j0 k a0 true) else ((math_IsNaN.f a0).bind fun t104 => (math_frexp.j0 k a0 t104))))
theorem math_frexp.mono_l : ∀ k, (∀ y0 y1, LeO (math_frexp.j0 k y0 y1) (math_frexp.j0 (k + 1) y0 y1))
  | 0 => fun _ _ r h => by simp [math_frexp.j0] at h
  | k + 1 => by
    have ih0 := math_frexp.mono_l k
    · intro y0 y1
      unfold math_frexp.j0
      repeat' first
      | (with_reducible exact ih0 _ _)
      | (with_reducible exact LeO.refl _)
      | (with_reducible exact LeO.none _)
      | (with_reducible refine LeO.ite ?_ ?_)
      | (with_reducible refine LeO.bind ?_ (fun _ => ?_))
      | exact ih0 _ _
      | exact LeO.none _
      | refine LeO.ite ?_ ?_
      | refine LeO.bind ?_ (fun _ => ?_)
theorem math_frexp.mono : ∀ a0 k, LeO (math_frexp.f k a0) (math_frexp.f (k + 1) a0) := by
  intro a0 k
  have ih0 := math_frexp.mono_l k
  unfold math_frexp.f
  repeat' first
      | (with_reducible exact ih0 _ _)
      | (with_reducible exact LeO.refl _)
      | (with_reducible exact LeO.none _)
      | (with_reducible refine LeO.ite ?_ ?_)
      | (with_reducible refine LeO.bind ?_ (fun _ => ?_))
      | exact ih0 _ _
      | exact LeO.none _
      | refine LeO.ite ?_ ?_
      | refine LeO.bind ?_ (fun _ => ?_)
set_option maxHeartbeats 8000000 in
set_option maxRecDepth 100000 in
theorem math_frexp.calls (k : Nat) (a0 : Nat) (r1 : Nat) (r2 : Int) (w : World) (h : math_frexp.f k a0 = some (r1, r2)) :
    Calls Try.prog 32 #[.float .f64 a0] w fun e w' => e = .returned (.tuple #[.float .f64 r1, .int .i64 r2]) ∧ Drawn0 w w' := by
  have hxf30 : ∀ (a_ : Nat) (W : World), (callFunc 30 #[.float .f64 a_]).run Try.prog W = .ok (.value (.int .u64 (a_ : Int))) W := fun a_ W => by rw [run_callFunc_extern Try.func30 (by kernel_rfl) (by kernel_rfl) (by kernel_rfl) (e := Extern.MathFloatBits.float64bits) (by kernel_rfl)]; rfl
  have hxf29 : ∀ (a_ : Int) (W : World), (callFunc 29 #[.int .u64 a_]).run Try.prog W = .ok (.value (.float .f64 a_.toNat)) W := fun a_ W => by rw [run_callFunc_extern Try.func29 (by kernel_rfl) (by kernel_rfl) (by kernel_rfl) (e := Extern.MathFloatBits.float64frombits) (by kernel_rfl)]; rfl
  have H : (if (flEq a0 0) = true then (some (a0, 0)) else ((math_IsInf.f a0 0).bind fun t103 => (if t103 = true then (math_frexp.j0 k a0 true) else ((math_IsNaN.f a0).bind fun t104 => (math_frexp.j0 k a0 t104))))) = some (r1, r2) := h
  clear h
  by_cases c2 : (flEq a0 0) = true
  · rw [if_pos c2] at H
    have c2b0 : (flEq a0 0) = true := c2
    clear c2
    simp only [Option.some.injEq, Prod.mk.injEq] at H
    obtain ⟨rfl, rfl⟩ := H
    go_enter Try.func32, Try.ntmps32
    go_wp2
    go_ret2
    exact ⟨by first | rfl | (simp; done) | (simp [*]; done), by repeat (first | exact Drawn0.refl _ | apply Drawn0.step)⟩
  · rw [if_neg c2] at H
    have c2b0 : (flEq a0 0) = false := by simpa using c2
    clear c2
    have HC3 := Aside0.mk H
    clear H
    go_enter Try.func32, Try.ntmps32
    go_upto_region 3 with (fail)
    go_cut [9] (fun v9 wc => ∃ (kq : Nat) (x9_2 : Bool), v9 = .bool x9_2 ∧ Aside0 (math_frexp.j0 kq a0 x9_2 = some (r1, r2)) ∧ Aside0 (kq ≤ k) ∧ Drawn0 w wc)
    case first =>
      have H := HC3.out
      clear HC3
      replace H := Option.bind_eq_some_iff.mp H
      obtain ⟨t103, A40, H⟩ := H
      replace H : (if t103 = true then (math_frexp.j0 k a0 true) else ((math_IsNaN.f a0).bind fun t104 => (math_frexp.j0 k a0 t104))) = some (r1, r2) := H
      have A4 := Aside0.mk A40
      clear A40
      by_cases c5 : t103 = true
      · subst c5
        have H1 : (math_frexp.j0 k a0 true) = some (r1, r2) := by rw [if_pos rfl] at H; exact H
        clear H
        have H := H1
        clear H1
        have H' := Aside0.mk H
        clear H
        go_wp2_with (first | ((with_reducible refine gate_callee (f := 23) rfl ?_); refine goesL_ (some 11) rfl rfl Try.func23 (by kernel_rfl) rfl #[.float .f64 a0, .int .i64 0] rfl (by (try simp only [List.map_toArray, List.map_cons, List.map_nil]); first | done | rfl | (simp only [List.length_drop, List.length_take]; rfl)) ?_; (with_reducible refine (math_IsInf.calls a0 0 true _ A4.out).mono ?_); rintro e w' ⟨rfl, ⟨nd, rfl⟩⟩; refine ⟨_, rfl, ?_⟩))
        go_meet
        case rel => exact ⟨_, (true), (by first | rfl | (simp; done) | (simp [*]; done) | grind), H', ⟨by first | omega | exact Nat.le_refl _⟩, by repeat (first | exact Drawn0.refl _ | apply Drawn0.step)⟩
      · replace c5 := Bool.eq_false_iff.mpr c5
        subst c5
        have H1 : ((math_IsNaN.f a0).bind fun t104 => (math_frexp.j0 k a0 t104)) = some (r1, r2) := by rw [if_neg (show ¬ (false = true) by decide)] at H; exact H
        clear H
        have H := H1
        clear H1
        replace H := Option.bind_eq_some_iff.mp H
        obtain ⟨t104, A60, H⟩ := H
        replace H : (math_frexp.j0 k a0 t104) = some (r1, r2) := H
        have A6 := Aside0.mk A60
        clear A60
        have H' := Aside0.mk H
        clear H
        go_wp2_with (first | ((with_reducible refine gate_callee (f := 23) rfl ?_); refine goesL_ (some 11) rfl rfl Try.func23 (by kernel_rfl) rfl #[.float .f64 a0, .int .i64 0] rfl (by (try simp only [List.map_toArray, List.map_cons, List.map_nil]); first | done | rfl | (simp only [List.length_drop, List.length_take]; rfl)) ?_; (with_reducible refine (math_IsInf.calls a0 0 false _ A4.out).mono ?_); rintro e w' ⟨rfl, ⟨nd, rfl⟩⟩; refine ⟨_, rfl, ?_⟩) | (go_at_call 24; (with_reducible refine (math_IsNaN.calls a0 t104 _ A6.out).mono ?_); rintro e w' ⟨rfl, ⟨nd, rfl⟩⟩))
        go_meet
        case rel => exact ⟨_, (t104), (by first | rfl | (simp; done) | (simp [*]; done) | grind), H', ⟨by first | omega | exact Nat.le_refl _⟩, by repeat (first | exact Drawn0.refl _ | apply Drawn0.step)⟩
    case rest =>
      clear HC3
      try clear c2
      try clear c2b0
      try clear p2
      try clear c3
      try clear c5
      obtain ⟨kq, x9_2, rfl, HA, HJ2, ⟨mc2, rfl⟩⟩ := hcut
      cases kq with
      | zero => exact absurd HA.out (by simp [math_frexp.j0])
      | succ kj2 =>
        have H := HA.out
        clear HA
        simp only [math_frexp.j0] at H
        by_cases c7 : x9_2 = true
        · subst c7
          have H1 : (some (a0, 0)) = some (r1, r2) := by rw [if_pos rfl] at H; exact H
          clear H
          have H := H1
          clear H1
          simp only [Option.some.injEq, Prod.mk.injEq] at H
          obtain ⟨rfl, rfl⟩ := H
          go_wp2
          go_ret2
          exact ⟨by first | rfl | (simp; done) | (simp [*]; done), by repeat (first | exact Drawn0.refl _ | apply Drawn0.step)⟩
        · replace c7 := Bool.eq_false_iff.mpr c7
          subst c7
          have H1 : ((math_normalize.f a0).bind fun bt105 => (some ((Go.bits .or .u64 (Go.bits .andNot .u64 ((bt105.1 : Nat) : Int) 9218868437227405312) 4602678819172646912).toNat, wrap64 (bt105.2 + (wrap64 ((wrap64 ((wrap64 (Go.bits .and .u64 (((bt105.1 : Nat) : Int) / 4503599627370496) 2047)) - 1023)) + 1)))))) = some (r1, r2) := by rw [if_neg (show ¬ (false = true) by decide)] at H; exact H
          clear H
          have H := H1
          clear H1
          replace H := Option.bind_eq_some_iff.mp H
          obtain ⟨⟨t105, t106⟩, A80, H⟩ := H
          replace H : (some ((Go.bits .or .u64 (Go.bits .andNot .u64 ((t105 : Nat) : Int) 9218868437227405312) 4602678819172646912).toNat, wrap64 (t106 + (wrap64 ((wrap64 ((wrap64 (Go.bits .and .u64 (((t105 : Nat) : Int) / 4503599627370496) 2047)) - 1023)) + 1))))) = some (r1, r2) := H
          have A8 := Aside0.mk A80
          clear A80
          simp only [Option.some.injEq, Prod.mk.injEq] at H
          obtain ⟨rfl, rfl⟩ := H
          go_wp2_with (first | ((with_reducible refine gate_callee (f := 35) rfl ?_); refine goesL_ (some 19) rfl rfl Try.func35 (by kernel_rfl) rfl #[.float .f64 a0] rfl (by (try simp only [List.map_toArray, List.map_cons, List.map_nil]); first | done | rfl | (simp only [List.length_drop, List.length_take]; rfl)) ?_; (with_reducible refine (math_normalize.calls a0 t105 t106 _ A8.out).mono ?_); rintro e w' ⟨rfl, ⟨nd, rfl⟩⟩; refine ⟨_, rfl, ?_⟩))
          go_ret2
          exact ⟨by first | rfl | (simp; done) | (simp [*]; done), by repeat (first | exact Drawn0.refl _ | apply Drawn0.step)⟩

end Go.Proofs.Ytkljljjmphneiaa.PAll
