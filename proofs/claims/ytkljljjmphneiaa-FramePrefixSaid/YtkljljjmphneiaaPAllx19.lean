/- Written by this session's own program (wip/xprint): functions of the Go program as Lean functions, and proofs that the Go code computes them. -/
import Derived.Test.YtkljljjmphneiaaPAllx0
import Derived.Test.YtkljljjmphneiaaPAllx18
namespace Go.Proofs.Ytkljljjmphneiaa.PAll
open Go.RowKit Go.Proofs.YtkljljjmphneiaaW.PrintWords Go.Proofs.YtkljljjmphneiaaW.PrintLast Go.Proofs.YtkljljjmphneiaaW.PrintMore
attribute [local go_sem] max2_int min2_int max_two min_two max_three min_three max_four min_four   -- for this text's walks alone
set_option linter.unusedVariables false
set_option linter.unusedSimpArgs false

/-! ### frame_Sum: function 12 -/
def frame_Sum.l0 : Nat → ByteArray → (Nat × Nat) → Int → Int → Option (Int)
  | 0, _, _, _, _ => none
  | k + 1, x0, x3, x7, x8 => if x8 < x7 then (if 0 ≤ x8 then (if x8 < (x0.size : Int) then (if (floOk .add x3.1 (floatOfInt .f64 (bt x0 x8))) = true then (if (floOk .add (flo .add x3.1 (floatOfInt .f64 (bt x0 x8))) 4607182418800017408) = true then ((math_Mod.f k (flo .add (flo .add x3.1 (floatOfInt .f64 (bt x0 x8))) 4607182418800017408) 4643035293958537216).bind fun t129 => (if (floOk .add x3.2 t129) = true then ((math_Mod.f k (flo .add x3.2 t129) 4642683450237648896).bind fun t130 => (frame_Sum.l0 k x0 ((t129, t130) : Nat × Nat) x7 (wrap64 (x8 + 1)))) else (none))) else (none)) else (none)) else (none)) else (none)) else (if (ftiOk x3.1) = true then (if (ftiOk x3.2) = true then (some (Go.bits .or .i64 (fti x3.1) (wrap64 ((fti x3.2) * 256)))) else (none)) else (none))
def frame_Sum.f (k : Nat) (a0 : ByteArray) : Option (Int) := frame_Sum.l0 k a0 ((4607182418800017408, 4607182418800017408) : Nat × Nat) (a0.size : Int) 0
theorem frame_Sum.mono_l : ∀ k, (∀ y0 y1 y2 y3, LeO (frame_Sum.l0 k y0 y1 y2 y3) (frame_Sum.l0 (k + 1) y0 y1 y2 y3))
  | 0 => fun _ _ _ _ r h => by simp [frame_Sum.l0] at h
  | k + 1 => by
    have ih0 := frame_Sum.mono_l k
    · intro y0 y1 y2 y3
      unfold frame_Sum.l0
      repeat' first
      | (with_reducible exact ih0 _ _ _ _)
      | (with_reducible exact math_Mod.mono _ _ _)
      | (with_reducible exact LeO.refl _)
      | (with_reducible exact LeO.none _)
      | (with_reducible refine LeO.ite ?_ ?_)
      | (with_reducible refine LeO.bind ?_ (fun _ => ?_))
      | exact ih0 _ _ _ _
      | exact math_Mod.mono _ _ _
      | exact LeO.none _
      | refine LeO.ite ?_ ?_
      | refine LeO.bind ?_ (fun _ => ?_)
theorem frame_Sum.mono : ∀ a0 k, LeO (frame_Sum.f k a0) (frame_Sum.f (k + 1) a0) := by
  intro a0 k
  have ih0 := frame_Sum.mono_l k
  unfold frame_Sum.f
  repeat' first
      | (with_reducible exact ih0 _ _ _ _)
      | (with_reducible exact math_Mod.mono _ _ _)
      | (with_reducible exact LeO.refl _)
      | (with_reducible exact LeO.none _)
      | (with_reducible refine LeO.ite ?_ ?_)
      | (with_reducible refine LeO.bind ?_ (fun _ => ?_))
      | exact ih0 _ _ _ _
      | exact math_Mod.mono _ _ _
      | exact LeO.none _
      | refine LeO.ite ?_ ?_
      | refine LeO.bind ?_ (fun _ => ?_)
set_option maxHeartbeats 8000000 in
set_option maxRecDepth 100000 in
theorem frame_Sum.calls (k : Nat) (a0 : ByteArray) (r : Int) (w : World) (h : frame_Sum.f k a0 = some r) :
    Calls Try.prog 12 #[.string a0] w fun e w' => e = .returned (.int .i64 r) ∧ Below w.heap.size w w' := by
  have HB := Aside0.mk (Below.refl w.heap.size w)
  have H : (frame_Sum.l0 k a0 ((4607182418800017408, 4607182418800017408) : Nat × Nat) (a0.size : Int) 0) = some r := h
  clear h
  have H' := Aside0.mk H
  clear H
  go_enter Try.func12, Try.ntmps12
  go_wp2
  go_loopg [3, 8] k (fun kq v3 v8 w' => ∃ (x3_1 : (Nat × Nat)) (x8_1 : Int), v3 = .complex .f64 x3_1.1 x3_1.2 ∧ v8 = .int .i64 x8_1 ∧ Aside0 (frame_Sum.l0 kq a0 x3_1 (a0.size : Int) x8_1 = some r) ∧ Aside0 (kq ≤ k) ∧ Aside0 (Below w.heap.size w w'))
  case atStart => exact ⟨(((4607182418800017408, 4607182418800017408) : Nat × Nat)), (0), (by first | rfl | (simp; done) | (simp [*]; done) | grind), (by first | rfl | (simp; done) | (simp [*]; done) | grind), H', ⟨Nat.le_refl _⟩, ⟨by repeat (first | (with_reducible first | exact HB.out | apply below_alloc | apply pw_below_drewN | apply below_drew1) | exact HB.out)⟩⟩
  case round =>
    clear H'
    try clear c1
    obtain ⟨x3_1, x8_1, rfl, rfl, HA, HK1, HB⟩ := hrel
    cases gk with
    | zero => exact absurd HA.out (by simp [frame_Sum.l0])
    | succ k1 =>
      have H := HA.out
      clear HA
      simp only [frame_Sum.l0] at H
      by_cases c2 : x8_1 < (a0.size : Int)
      · rw [if_pos c2] at H
        have c2b0 : decide (x8_1 < (a0.size : Int)) = true := decide_eq_true c2
        clear c2
        by_cases c3 : 0 ≤ x8_1
        · rw [if_pos c3] at H
          have c3b0 : decide (0 ≤ x8_1) = true := decide_eq_true c3
          clear c3
          by_cases c4 : x8_1 < (a0.size : Int)
          · rw [if_pos c4] at H
            have c4b0 : decide (x8_1 < (a0.size : Int)) = true := decide_eq_true c4
            clear c4
            by_cases c6 : (floOk .add x3_1.1 (floatOfInt .f64 (bt a0 x8_1))) = true
            · rw [if_pos c6] at H
              have hflc6 : ∀ (T_ : TypeId) (W : World), (binOp .add T_ (.float .f64 x3_1.1) (.float .f64 (floatOfInt .f64 (bt a0 x8_1)))).run Try.prog W = .ok (.float .f64 (flo .add x3_1.1 (floatOfInt .f64 (bt a0 x8_1)))) W := fun T_ W => run_flo W .add T_ x3_1.1 (floatOfInt .f64 (bt a0 x8_1)) c6
              clear c6
              by_cases c7 : (floOk .add (flo .add x3_1.1 (floatOfInt .f64 (bt a0 x8_1))) 4607182418800017408) = true
              · rw [if_pos c7] at H
                have hflc7 : ∀ (T_ : TypeId) (W : World), (binOp .add T_ (.float .f64 (flo .add x3_1.1 (floatOfInt .f64 (bt a0 x8_1)))) (.float .f64 4607182418800017408)).run Try.prog W = .ok (.float .f64 (flo .add (flo .add x3_1.1 (floatOfInt .f64 (bt a0 x8_1))) 4607182418800017408)) W := fun T_ W => run_flo W .add T_ (flo .add x3_1.1 (floatOfInt .f64 (bt a0 x8_1))) 4607182418800017408 c7
                clear c7
                replace H := Option.bind_eq_some_iff.mp H
                obtain ⟨t129, A80, H⟩ := H
                replace H : (if (floOk .add x3_1.2 t129) = true then ((math_Mod.f k1 (flo .add x3_1.2 t129) 4642683450237648896).bind fun t130 => (frame_Sum.l0 k1 a0 ((t129, t130) : Nat × Nat) (a0.size : Int) (wrap64 (x8_1 + 1)))) else (none)) = some r := H
                have A8 := Aside0.mk A80
                clear A80
                by_cases c9 : (floOk .add x3_1.2 t129) = true
                · rw [if_pos c9] at H
                  have hflc9 : ∀ (T_ : TypeId) (W : World), (binOp .add T_ (.float .f64 x3_1.2) (.float .f64 t129)).run Try.prog W = .ok (.float .f64 (flo .add x3_1.2 t129)) W := fun T_ W => run_flo W .add T_ x3_1.2 t129 c9
                  clear c9
                  replace H := Option.bind_eq_some_iff.mp H
                  obtain ⟨t130, A100, H⟩ := H
                  replace H : (frame_Sum.l0 k1 a0 ((t129, t130) : Nat × Nat) (a0.size : Int) (wrap64 (x8_1 + 1))) = some r := H
                  have A10 := Aside0.mk A100
                  clear A100
                  have H' := Aside0.mk H
                  clear H
                  have p5 : 0 ≤ (x8_1 : Int) := of_decide_eq_true (by first | (with_reducible assumption) | assumption)
                  have q5 : x8_1 < (a0.size : Int) := of_decide_eq_true (by first | (with_reducible assumption) | assumption)
                  have hx5 := bt_at a0 x8_1
                  replace p5 := eq_true p5
                  replace q5 := eq_true q5
                  go_wp2_with (first | ((with_reducible refine gate_callee (f := 19) rfl ?_); refine goesL_ (some 19) rfl rfl Try.func19 (by kernel_rfl) rfl #[.float .f64 (flo .add (flo .add x3_1.1 (floatOfInt .f64 (bt a0 x8_1))) 4607182418800017408), .float .f64 4643035293958537216] rfl (by (try simp only [List.map_toArray, List.map_cons, List.map_nil]); first | done | rfl | (simp only [List.length_drop, List.length_take]; rfl)) ?_; (with_reducible refine (math_Mod.calls k1 (flo .add (flo .add x3_1.1 (floatOfInt .f64 (bt a0 x8_1))) 4607182418800017408) 4643035293958537216 t129 _ A8.out).mono ?_); rintro e w' ⟨rfl, ⟨nd, rfl⟩⟩; refine ⟨_, rfl, ?_⟩) | ((with_reducible refine gate_callee (f := 19) rfl ?_); refine goesL_ (some 25) rfl rfl Try.func19 (by kernel_rfl) rfl #[.float .f64 (flo .add x3_1.2 t129), .float .f64 4642683450237648896] rfl (by (try simp only [List.map_toArray, List.map_cons, List.map_nil]); first | done | rfl | (simp only [List.length_drop, List.length_take]; rfl)) ?_; (with_reducible refine (math_Mod.calls k1 (flo .add x3_1.2 t129) 4642683450237648896 t130 _ A10.out).mono ?_); rintro e w' ⟨rfl, ⟨nd, rfl⟩⟩; refine ⟨_, rfl, ?_⟩))
                  go_roundg k1
                  case measure => have := HK1.out; omega
                  case rel => exact ⟨(((t129, t130) : Nat × Nat)), (wrap64 (x8_1 + 1)), (by first | rfl | (simp; done) | (simp [*]; done) | grind), (by first | rfl | (simp; done) | (simp [*]; done) | grind), H', ⟨by have := HK1.out; omega⟩, ⟨by repeat (first | (with_reducible first | exact HB.out | apply below_alloc | apply pw_below_drewN | apply below_drew1) | exact HB.out)⟩⟩
                · rw [if_neg c9] at H
                  exact absurd H (by simp)
              · rw [if_neg c7] at H
                exact absurd H (by simp)
            · rw [if_neg c6] at H
              exact absurd H (by simp)
          · rw [if_neg c4] at H
            exact absurd H (by simp)
        · rw [if_neg c3] at H
          exact absurd H (by simp)
      · rw [if_neg c2] at H
        have c2b0 : decide (x8_1 < (a0.size : Int)) = false := decide_eq_false c2
        clear c2
        by_cases c11 : (ftiOk x3_1.1) = true
        · rw [if_pos c11] at H
          have hflc11 : ∀ (W : World), (convert 40 3 (.float .f64 x3_1.1)).run Try.prog W = .ok (.int .i64 (fti x3_1.1)) W := fun W => run_fti W 40 3 x3_1.1 (by kernel_rfl) (by kernel_rfl) c11
          clear c11
          by_cases c12 : (ftiOk x3_1.2) = true
          · rw [if_pos c12] at H
            have hflc12 : ∀ (W : World), (convert 40 3 (.float .f64 x3_1.2)).run Try.prog W = .ok (.int .i64 (fti x3_1.2)) W := fun W => run_fti W 40 3 x3_1.2 (by kernel_rfl) (by kernel_rfl) c12
            clear c12
            obtain rfl := Option.some.inj H
            go_wp2
            go_ret
            exact ⟨by first | rfl | (simp [errW_none, errW_some] <;> rfl) | (simp [*, errW_none, errW_some] <;> rfl), by repeat (first | (with_reducible first | exact HB.out | apply below_alloc | apply pw_below_drewN | apply below_drew1) | exact HB.out)⟩
          · rw [if_neg c12] at H
            exact absurd H (by simp)
        · rw [if_neg c11] at H
          exact absurd H (by simp)

end Go.Proofs.Ytkljljjmphneiaa.PAll
