/- Written by this session's own program (wip/xprint): functions of the Go program as Lean functions, and proofs that the Go code computes them. -/
import Derived.Test.YtbnjhmcbkocdjaaPAllx0
namespace Go.Proofs.Ytbnjhmcbkocdjaa.PAll
open Go.RowKit Go.Proofs.YtbnjhmcbkocdjaaW.PrintWords Go.Proofs.YtbnjhmcbkocdjaaW.PrintLast Go.Proofs.YtbnjhmcbkocdjaaW.PrintMore
attribute [local go_sem] max2_int min2_int max_two min_two max_three min_three max_four min_four   -- for this text's walks alone
set_option linter.unusedVariables false
set_option linter.unusedSimpArgs false

/-! ### value_number: function 54 -/
def value_number.l0 : Nat → List Int → Int → Int → Int → Option (Int × Int × Bool)
  | 0, _, _, _, _ => none
  | k + 1, x0, x5, x9, x10 => if x10 < x9 then (if 0 ≤ x10 then (if x10 < (x0.length : Int) then (if 0 ≤ (wrap64 (7 * x10)) then (if (rd x0 x10) < 128 then (if x10 = 0 then (some (Go.bits .or .u64 x5 (shl .u64 (IntKind.u64.wrap (Go.bits .and .u8 (rd x0 x10) 127)) (wrap64 (7 * x10))), wrap64 (x10 + 1), true)) else (some (Go.bits .or .u64 x5 (shl .u64 (IntKind.u64.wrap (Go.bits .and .u8 (rd x0 x10) 127)) (wrap64 (7 * x10))), wrap64 (x10 + 1), decide ((rd x0 x10) > 0)))) else (value_number.l0 k x0 (Go.bits .or .u64 x5 (shl .u64 (IntKind.u64.wrap (Go.bits .and .u8 (rd x0 x10) 127)) (wrap64 (7 * x10)))) x9 (wrap64 (x10 + 1)))) else (none)) else (none)) else (none)) else (some (0, 0, false))
def value_number.f (k : Nat) (l0 : List Int) : Option (Int × Int × Bool) := value_number.l0 k l0 0 (mn (l0.length : Int) 7) 0
theorem value_number.mono_l : ∀ k, (∀ y0 y1 y2 y3, LeO (value_number.l0 k y0 y1 y2 y3) (value_number.l0 (k + 1) y0 y1 y2 y3))
  | 0 => fun _ _ _ _ r h => by simp [value_number.l0] at h
  | k + 1 => by
    have ih0 := value_number.mono_l k
    · intro y0 y1 y2 y3
      unfold value_number.l0
      repeat' first
      | (with_reducible exact ih0 _ _ _ _)
      | (with_reducible exact LeO.refl _)
      | (with_reducible exact LeO.none _)
      | (with_reducible refine LeO.ite ?_ ?_)
      | (with_reducible refine LeO.bind ?_ (fun _ => ?_))
      | exact LeO.none _
      | refine LeO.ite ?_ ?_
      | refine LeO.bind ?_ (fun _ => ?_)
theorem value_number.mono : ∀ a0 k, LeO (value_number.f k a0) (value_number.f (k + 1) a0) := by
  intro a0 k
  have ih0 := value_number.mono_l k
  unfold value_number.f
  repeat' first
      | (with_reducible exact ih0 _ _ _ _)
      | (with_reducible exact LeO.refl _)
      | (with_reducible exact LeO.none _)
      | (with_reducible refine LeO.ite ?_ ?_)
      | (with_reducible refine LeO.bind ?_ (fun _ => ?_))
      | exact LeO.none _
      | refine LeO.ite ?_ ?_
      | refine LeO.bind ?_ (fun _ => ?_)
set_option maxHeartbeats 8000000 in
set_option maxRecDepth 100000 in
theorem value_number.calls (k : Nat) (A0 : Option Addr) (c0 : Nat) (l0 : List Int) (r1 : Int) (r2 : Int) (r3 : Bool) (w : World) (hr0 : Kd.C (Kd.int .u8) w A0 l0.length l0) (hc0 : l0.length ≤ c0) (h : value_number.f k l0 = some (r1, r2, r3)) :
    Calls Try.prog 54 #[.slice A0 l0.length c0] w fun e w' => e = .returned (.tuple #[.int .u64 r1, .int .i64 r2, .bool r3]) ∧ Below w.heap.size w w' := by
  have HR0 := Aside0.mk hr0
  have HC0 := Aside0.mk hc0
  clear hr0 hc0
  have HB := Aside0.mk (Below.refl w.heap.size w)
  have H : (value_number.l0 k l0 0 (mn (l0.length : Int) 7) 0) = some (r1, r2, r3) := h
  clear h
  obtain ⟨ji2, hji2⟩ : ∃ j_ : Int, (mn (l0.length : Int) 7) = j_ := ⟨_, rfl⟩
  first | rw [hji2] at H | simp only [hji2] at H
  (try (have hji2h : ji2 ≤ 7 := by (rw [← hji2]; unfold mn; (repeat' split) <;> omega)))
  (try (have hji2g : ji2 ≤ 64 := by omega))
  (try (have hji2l : 0 ≤ ji2 := by (rw [← hji2]; unfold mn; (repeat' split) <;> omega)))
  (try (have hji2m : 0 ≤ ji2 := by omega))
  have hji2_ : (if 7 < (l0.length : Int) then 7 else (l0.length : Int)) = ji2 := hji2
  have H' := Aside0.mk H
  clear H
  go_enter Try.func54, Try.ntmps54
  go_wp2
  repeat (go_quiet (fail); try go_wp2)
  go_loopg [5, 10] k (fun kq v5 v10 w' => ∃ (x5_1 : Int) (x10_1 : Int), v5 = .int .u64 x5_1 ∧ v10 = .int .i64 x10_1 ∧ Aside0 (value_number.l0 kq l0 x5_1 ji2 x10_1 = some (r1, r2, r3)) ∧ Aside0 (kq ≤ k) ∧ Aside0 (Below w.heap.size w w'))
  case atStart => exact ⟨(0), (0), (by first | rfl | (simp; done) | (simp [*]; done) | grind), (by first | rfl | (simp; done) | (simp [*]; done) | grind), H', ⟨Nat.le_refl _⟩, ⟨pl_below HB.out⟩⟩
  case round =>
   clear H'
   (try clear p2)
   obtain ⟨x5_1, x10_1, rfl, rfl, HA, HK1, HB⟩ := hrel
   cases gk with
   | zero => exact absurd HA.out (by simp [value_number.l0])
   | succ k1 =>
    have H := HA.out
    clear HA
    simp only [value_number.l0] at H
    by_cases c3 : x10_1 < ji2
    ·rw [if_pos c3] at H
     have c3b0 : decide (x10_1 < ji2) = true := decide_eq_true c3
     clear c3
     by_cases c4 : 0 ≤ x10_1; rotate_left
     ·rw [if_neg c4] at H; cases H
     rw [if_pos c4] at H
     have c4b0 : decide (0 ≤ x10_1) = true := decide_eq_true c4
     clear c4
     by_cases c5 : x10_1 < (l0.length : Int); rotate_left
     ·rw [if_neg c5] at H; cases H
     rw [if_pos c5] at H
     have c5b0 : decide (x10_1 < (l0.length : Int)) = true := decide_eq_true c5
     clear c5
     obtain ⟨ji6, hji6⟩ : ∃ j_ : Int, (wrap64 (7 * x10_1)) = j_ := ⟨_, rfl⟩
     first | rw [hji6] at H | simp only [hji6] at H
     have hji6w : (IntKind.i64.wrap (7 * x10_1)) = ji6 := (i64_w _).trans hji6
     by_cases c7 : 0 ≤ (ji6); rotate_left
     ·rw [if_neg c7] at H; cases H
     rw [if_pos c7] at H
     have c7b0 := eq_true c7
     have c7b1 : decide (0 ≤ (ji6)) = true := decide_eq_true c7
     clear c7
     obtain ⟨ji8, hji8⟩ : ∃ j_ : Int, (shl .u64 (IntKind.u64.wrap (Go.bits .and .u8 (rd l0 x10_1) 127)) (ji6)) = j_ := ⟨_, rfl⟩
     first | rw [hji8] at H | simp only [hji8] at H
     have hji8_ : (IntKind.u64.wrap ((IntKind.u64.wrap (Go.bits .and .u8 (rd l0 x10_1) 127)) * 2 ^ min (ji6).toNat 64)) = ji8 := hji8
     have hji8z : (ji6) ≤ 64 → (IntKind.u64.wrap ((IntKind.u64.wrap (Go.bits .and .u8 (rd l0 x10_1) 127)) * 2 ^ (ji6).toNat)) = ji8 := shl_small hji8
     by_cases c9 : (rd l0 x10_1) < 128
     ·rw [if_pos c9] at H
      have c9b0 : decide ((rd l0 x10_1) < 128) = true := decide_eq_true c9
      clear c9
      by_cases c10 : x10_1 = 0
      ·rw [if_pos c10] at H
       have c10b0 : (x10_1 == 0) = true := beq_iff_eq.mpr c10
       have c10b1 : (x10_1 != 0) = false := bne_eq_false_iff_eq.mpr c10
       clear c10
       simp only [Option.some.injEq, Prod.mk.injEq] at H
       obtain ⟨rfl, rfl, rfl⟩ := H
       have p204 : 0 ≤ (x10_1 : Int) := of_decide_eq_true (by first | (with_reducible assumption) | assumption)
       have q204 : x10_1 < (l0.length : Int) := of_decide_eq_true (by first | (with_reducible assumption) | assumption)
       obtain ⟨ad204, e204, hx204_0⟩ := Kd.at_int HR0.out x10_1 p204 q204
       cases e204
       replace hx204_0 := (HB.out.cell (World.block_lt_of_cell? w _ hx204_0)).trans hx204_0
       replace p204 := eq_true p204
       replace q204 := eq_true q204
       have p205 : 0 ≤ (x10_1 : Int) := of_decide_eq_true (by first | (with_reducible assumption) | assumption)
       have q205 : x10_1 < (l0.length : Int) := of_decide_eq_true (by first | (with_reducible assumption) | assumption)
       obtain ⟨ad205, e205, hx205_0⟩ := Kd.at_int HR0.out x10_1 p205 q205
       obtain rfl : ad204 = ad205 := (by injection e205)
       replace hx205_0 := (HB.out.cell (World.block_lt_of_cell? w _ hx205_0)).trans hx205_0
       replace p205 := eq_true p205
       replace q205 := eq_true q205
       go_wp2
       repeat (go_quiet (fail); try go_wp2)
       go_ret3
       exact ⟨by first | rfl | (simp [errW_none, errW_some] <;> rfl) | (simp only [← hji2, ← hji6, ← hji8]; first | rfl | (simp [errW_none, errW_some] <;> rfl)) | (simp [*, errW_none, errW_some] <;> rfl), pl_below HB.out⟩
      ·rw [if_neg c10] at H
       have c10b0 : (x10_1 == 0) = false := beq_eq_false_iff_ne.mpr c10
       have c10b1 : (x10_1 != 0) = true := bne_iff_ne.mpr c10
       simp only [Option.some.injEq, Prod.mk.injEq] at H
       obtain ⟨rfl, rfl, rfl⟩ := H
       have p204 : 0 ≤ (x10_1 : Int) := of_decide_eq_true (by first | (with_reducible assumption) | assumption)
       have q204 : x10_1 < (l0.length : Int) := of_decide_eq_true (by first | (with_reducible assumption) | assumption)
       obtain ⟨ad204, e204, hx204_0⟩ := Kd.at_int HR0.out x10_1 p204 q204
       cases e204
       replace hx204_0 := (HB.out.cell (World.block_lt_of_cell? w _ hx204_0)).trans hx204_0
       replace p204 := eq_true p204
       replace q204 := eq_true q204
       have p205 : 0 ≤ (x10_1 : Int) := of_decide_eq_true (by first | (with_reducible assumption) | assumption)
       have q205 : x10_1 < (l0.length : Int) := of_decide_eq_true (by first | (with_reducible assumption) | assumption)
       obtain ⟨ad205, e205, hx205_0⟩ := Kd.at_int HR0.out x10_1 p205 q205
       obtain rfl : ad204 = ad205 := (by injection e205)
       replace hx205_0 := (HB.out.cell (World.block_lt_of_cell? w _ hx205_0)).trans hx205_0
       replace p205 := eq_true p205
       replace q205 := eq_true q205
       have p206 : 0 ≤ (x10_1 : Int) := of_decide_eq_true (by first | (with_reducible assumption) | assumption)
       have q206 : x10_1 < (l0.length : Int) := of_decide_eq_true (by first | (with_reducible assumption) | assumption)
       obtain ⟨ad206, e206, hx206_0⟩ := Kd.at_int HR0.out x10_1 p206 q206
       obtain rfl : ad204 = ad206 := (by injection e206)
       replace hx206_0 := (HB.out.cell (World.block_lt_of_cell? w _ hx206_0)).trans hx206_0
       replace p206 := eq_true p206
       replace q206 := eq_true q206
       go_wp2
       repeat (go_quiet (fail); try go_wp2)
       go_ret3
       exact ⟨by first | rfl | (simp [errW_none, errW_some] <;> rfl) | (simp only [← hji2, ← hji6, ← hji8]; first | rfl | (simp [errW_none, errW_some] <;> rfl)) | (simp [*, errW_none, errW_some] <;> rfl), pl_below HB.out⟩
     ·rw [if_neg c9] at H
      have c9b0 : decide ((rd l0 x10_1) < 128) = false := decide_eq_false c9
      clear c9
      have H' := Aside0.mk H
      clear H
      have p204 : 0 ≤ (x10_1 : Int) := of_decide_eq_true (by first | (with_reducible assumption) | assumption)
      have q204 : x10_1 < (l0.length : Int) := of_decide_eq_true (by first | (with_reducible assumption) | assumption)
      obtain ⟨ad204, e204, hx204_0⟩ := Kd.at_int HR0.out x10_1 p204 q204
      cases e204
      replace hx204_0 := (HB.out.cell (World.block_lt_of_cell? w _ hx204_0)).trans hx204_0
      replace p204 := eq_true p204
      replace q204 := eq_true q204
      have p205 : 0 ≤ (x10_1 : Int) := of_decide_eq_true (by first | (with_reducible assumption) | assumption)
      have q205 : x10_1 < (l0.length : Int) := of_decide_eq_true (by first | (with_reducible assumption) | assumption)
      obtain ⟨ad205, e205, hx205_0⟩ := Kd.at_int HR0.out x10_1 p205 q205
      obtain rfl : ad204 = ad205 := (by injection e205)
      replace hx205_0 := (HB.out.cell (World.block_lt_of_cell? w _ hx205_0)).trans hx205_0
      replace p205 := eq_true p205
      replace q205 := eq_true q205
      go_wp2
      repeat (go_quiet (fail); try go_wp2)
      go_roundg k1
      case measure => have := HK1.out; omega
      case rel => exact ⟨(Go.bits .or .u64 x5_1 (ji8)), (wrap64 (x10_1 + 1)), (by first | rfl | (simp; done) | (simp only [← hji8] <;> (first | rfl | simp)) | (simp [*]; done)), (by first | rfl | (simp; done) | (simp [*]; done) | grind), H', ⟨by have := HK1.out; omega⟩, ⟨pl_below HB.out⟩⟩
    ·rw [if_neg c3] at H
     have c3b0 : decide (x10_1 < ji2) = false := decide_eq_false c3
     clear c3
     simp only [Option.some.injEq, Prod.mk.injEq] at H
     obtain ⟨rfl, rfl, rfl⟩ := H
     go_wp2
     repeat (go_quiet (fail); try go_wp2)
     go_ret3
     exact ⟨by first | rfl | (simp [errW_none, errW_some] <;> rfl) | (simp only [← hji2]; first | rfl | (simp [errW_none, errW_some] <;> rfl)) | (simp [*, errW_none, errW_some] <;> rfl), pl_below HB.out⟩

end Go.Proofs.Ytbnjhmcbkocdjaa.PAll
