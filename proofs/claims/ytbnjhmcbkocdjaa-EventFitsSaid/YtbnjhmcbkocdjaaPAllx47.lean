/- Written by this session's own program (wip/xprint): functions of the Go program as Lean functions, and proofs that the Go code computes them. -/
import Derived.Test.YtbnjhmcbkocdjaaPAllx0
namespace Go.Proofs.Ytbnjhmcbkocdjaa.PAll
open Go.RowKit Go.Proofs.YtbnjhmcbkocdjaaW.PrintWords Go.Proofs.YtbnjhmcbkocdjaaW.PrintLast Go.Proofs.YtbnjhmcbkocdjaaW.PrintMore
attribute [local go_sem] max2_int min2_int max_two min_two max_three min_three max_four min_four   -- for this text's walks alone
set_option linter.unusedVariables false
set_option linter.unusedSimpArgs false

/-! ### auguryref04_Number: function 46 -/
mutual
def auguryref04_Number.l0 : Nat → List Int → Int → Int → Int → Int → Option (Int × Int × Bool)
  | 0, _, _, _, _, _ => none
  | k + 1, x0, x1, x7, x8, x9 => if x9 < (x0.length : Int) then (auguryref04_Number.j1 k x0 x1 x7 x8 x9 (decide (x9 < 7))) else (auguryref04_Number.j1 k x0 x1 x7 x8 x9 false)
def auguryref04_Number.j1 : Nat → List Int → Int → Int → Int → Int → Bool → Option (Int × Int × Bool)
  | 0, _, _, _, _, _, _ => none
  | k + 1, x0, x1, x7, x8, x9, x17 => if x17 = true then (if 0 ≤ x9 then (if x9 < (x0.length : Int) then (if (rd x0 x9) < 128 then (if (wrap64 (x7 + (wrap64 ((wrap64 (Int.tmod (rd x0 x9) 128)) * x8)))) > x1 then (some (0, 0, false)) else (if x9 > 0 then (if (rd x0 x9) = 0 then (some (0, 0, false)) else (some (wrap64 (x7 + (wrap64 ((wrap64 (Int.tmod (rd x0 x9) 128)) * x8))), wrap64 (x9 + 1), true))) else (some (wrap64 (x7 + (wrap64 ((wrap64 (Int.tmod (rd x0 x9) 128)) * x8))), wrap64 (x9 + 1), true)))) else (auguryref04_Number.l0 k x0 x1 (wrap64 (x7 + (wrap64 ((wrap64 (Int.tmod (rd x0 x9) 128)) * x8)))) (wrap64 (x8 * 128)) (wrap64 (x9 + 1)))) else (none)) else (none)) else (some (0, 0, false))
end
def auguryref04_Number.f (k : Nat) (l0 : List Int) (a1 : Int) : Option (Int × Int × Bool) := auguryref04_Number.l0 k l0 a1 0 1 0
theorem auguryref04_Number.mono_l : ∀ k, (∀ y0 y1 y2 y3 y4, LeO (auguryref04_Number.l0 k y0 y1 y2 y3 y4) (auguryref04_Number.l0 (k + 1) y0 y1 y2 y3 y4)) ∧ (∀ y0 y1 y2 y3 y4 y5, LeO (auguryref04_Number.j1 k y0 y1 y2 y3 y4 y5) (auguryref04_Number.j1 (k + 1) y0 y1 y2 y3 y4 y5))
  | 0 => ⟨fun _ _ _ _ _ r h => by simp [auguryref04_Number.l0] at h, fun _ _ _ _ _ _ r h => by simp [auguryref04_Number.j1] at h⟩
  | k + 1 => by
    obtain ⟨ih0, ih1⟩ := auguryref04_Number.mono_l k
    refine ⟨?_, ?_⟩
    · intro y0 y1 y2 y3 y4
      unfold auguryref04_Number.l0
      repeat' first
      | (with_reducible exact ih0 _ _ _ _ _)
      | (with_reducible exact ih1 _ _ _ _ _ _)
      | (with_reducible exact LeO.refl _)
      | (with_reducible exact LeO.none _)
      | (with_reducible refine LeO.ite ?_ ?_)
      | (with_reducible refine LeO.bind ?_ (fun _ => ?_))
      | exact LeO.none _
      | refine LeO.ite ?_ ?_
      | refine LeO.bind ?_ (fun _ => ?_)
    · intro y0 y1 y2 y3 y4 y5
      unfold auguryref04_Number.j1
      repeat' first
      | (with_reducible exact ih0 _ _ _ _ _)
      | (with_reducible exact ih1 _ _ _ _ _ _)
      | (with_reducible exact LeO.refl _)
      | (with_reducible exact LeO.none _)
      | (with_reducible refine LeO.ite ?_ ?_)
      | (with_reducible refine LeO.bind ?_ (fun _ => ?_))
      | exact LeO.none _
      | refine LeO.ite ?_ ?_
      | refine LeO.bind ?_ (fun _ => ?_)
theorem auguryref04_Number.mono : ∀ a0 a1 k, LeO (auguryref04_Number.f k a0 a1) (auguryref04_Number.f (k + 1) a0 a1) := by
  intro a0 a1 k
  obtain ⟨ih0, ih1⟩ := auguryref04_Number.mono_l k
  unfold auguryref04_Number.f
  repeat' first
      | (with_reducible exact ih0 _ _ _ _ _)
      | (with_reducible exact ih1 _ _ _ _ _ _)
      | (with_reducible exact LeO.refl _)
      | (with_reducible exact LeO.none _)
      | (with_reducible refine LeO.ite ?_ ?_)
      | (with_reducible refine LeO.bind ?_ (fun _ => ?_))
      | exact LeO.none _
      | refine LeO.ite ?_ ?_
      | refine LeO.bind ?_ (fun _ => ?_)
set_option maxHeartbeats 8000000 in
set_option maxRecDepth 100000 in
theorem auguryref04_Number.calls (k : Nat) (A0 : Option Addr) (c0 : Nat) (l0 : List Int) (a1 : Int) (r1 : Int) (r2 : Int) (r3 : Bool) (w : World) (hr0 : Kd.C (Kd.int .u8) w A0 l0.length l0) (hc0 : l0.length ≤ c0) (h : auguryref04_Number.f k l0 a1 = some (r1, r2, r3)) :
    Calls Try.prog 46 #[.slice A0 l0.length c0, .int .i64 a1] w fun e w' => e = .returned (.tuple #[.int .i64 r1, .int .i64 r2, .bool r3]) ∧ Drawn0 w w' := by
  have HR0 := Aside0.mk hr0
  have HC0 := Aside0.mk hc0
  clear hr0 hc0
  have H : (auguryref04_Number.l0 k l0 a1 0 1 0) = some (r1, r2, r3) := h
  clear h
  have H' := Aside0.mk H
  clear H
  go_enter Try.func46, Try.ntmps46
  go_wp2
  go_loopg [7, 8, 9] k (fun kq v7 v8 v9 w' => ∃ (x7_1 : Int) (x8_1 : Int) (x9_1 : Int), v7 = .int .i64 x7_1 ∧ v8 = .int .i64 x8_1 ∧ v9 = .int .i64 x9_1 ∧ Aside0 (auguryref04_Number.l0 kq l0 a1 x7_1 x8_1 x9_1 = some (r1, r2, r3)) ∧ Aside0 (kq ≤ k) ∧ Drawn0 w w')
  case atStart => exact ⟨(0), (1), (0), (by first | rfl | (simp; done) | (simp [*]; done) | grind), (by first | rfl | (simp; done) | (simp [*]; done) | grind), (by first | rfl | (simp; done) | (simp [*]; done) | grind), H', ⟨Nat.le_refl _⟩, by repeat (first | exact Drawn0.refl _ | apply Drawn0.step)⟩
  case round =>
   clear H'
   (try clear p2)
   obtain ⟨x7_1, x8_1, x9_1, rfl, rfl, rfl, HA, HK1, ⟨m1, rfl⟩⟩ := hrel
   cases gk with
   | zero => exact absurd HA.out (by simp [auguryref04_Number.l0])
   | succ k1 =>
    have H := HA.out
    clear HA
    simp only [auguryref04_Number.l0] at H
    have HC3 := Aside0.mk H
    clear H
    go_upto_region 4 with (fail)
    go_cut [17] (fun v17 wc => ∃ (kq : Nat) (x17_2 : Bool), v17 = .bool x17_2 ∧ Aside0 (auguryref04_Number.j1 kq l0 a1 x7_1 x8_1 x9_1 x17_2 = some (r1, r2, r3)) ∧ Aside0 (kq ≤ k1) ∧ Drawn0 w wc)
    case first =>
     have H := HC3.out
     clear HC3
     by_cases c4 : x9_1 < (l0.length : Int)
     ·rw [if_pos c4] at H
      have c4b0 : decide (x9_1 < (l0.length : Int)) = true := decide_eq_true c4
      clear c4
      (first | rw [c4b0] | (simp only [i64_w, i32_w]; rw [c4b0]) | rw [c4b1] | skip)
      have H' := Aside0.mk H
      clear H
      go_wp2
      go_meet
      case rel => exact ⟨_, (decide (x9_1 < 7)), (by first | rfl | (simp; done) | (simp [*]; done) | grind), H', ⟨by have := HK1.out; first | omega | exact Nat.le_refl _⟩, by repeat (first | exact Drawn0.refl _ | apply Drawn0.step)⟩
     ·rw [if_neg c4] at H
      have c4b0 : decide (x9_1 < (l0.length : Int)) = false := decide_eq_false c4
      clear c4
      (first | rw [c4b0] | (simp only [i64_w, i32_w]; rw [c4b0]) | rw [c4b1] | skip)
      have H' := Aside0.mk H
      clear H
      go_wp2
      go_meet
      case rel => exact ⟨_, (false), (by first | rfl | (simp; done) | (simp [*]; done) | grind), H', ⟨by have := HK1.out; first | omega | exact Nat.le_refl _⟩, by repeat (first | exact Drawn0.refl _ | apply Drawn0.step)⟩
    case rest =>
     clear HC3
     (try clear p2); (try clear c4); (try clear c4b0); (try clear c4b1)
     obtain ⟨kq, x17_2, rfl, HA, HJ2, ⟨mc2, rfl⟩⟩ := hcut
     cases kq with
     | zero => exact absurd HA.out (by simp [auguryref04_Number.j1])
     | succ kj2 =>
      have H := HA.out
      clear HA
      simp only [auguryref04_Number.j1] at H
      by_cases c5 : x17_2 = true
      ·subst c5
       rw [if_pos rfl] at H
       by_cases c6 : 0 ≤ x9_1; rotate_left
       ·rw [if_neg c6] at H; cases H
       rw [if_pos c6] at H
       have c6b0 : decide (0 ≤ x9_1) = true := decide_eq_true c6
       clear c6
       by_cases c7 : x9_1 < (l0.length : Int); rotate_left
       ·rw [if_neg c7] at H; cases H
       rw [if_pos c7] at H
       have c7b0 : decide (x9_1 < (l0.length : Int)) = true := decide_eq_true c7
       clear c7
       by_cases c8 : (rd l0 x9_1) < 128
       ·rw [if_pos c8] at H
        have c8b0 : decide ((rd l0 x9_1) < 128) = true := decide_eq_true c8
        clear c8
        by_cases c9 : (wrap64 (x7_1 + (wrap64 ((wrap64 (Int.tmod (rd l0 x9_1) 128)) * x8_1)))) > a1
        ·rw [if_pos c9] at H
         have c9b0 : decide (a1 < (wrap64 (x7_1 + (wrap64 ((wrap64 (Int.tmod (rd l0 x9_1) 128)) * x8_1))))) = true := decide_eq_true c9
         clear c9
         simp only [Option.some.injEq, Prod.mk.injEq] at H
         obtain ⟨rfl, rfl, rfl⟩ := H
         have p470 : 0 ≤ (x9_1 : Int) := of_decide_eq_true (by first | (with_reducible assumption) | assumption)
         have q470 : x9_1 < (l0.length : Int) := of_decide_eq_true (by first | (with_reducible assumption) | assumption)
         obtain ⟨ad470, e470, hx470_0⟩ := Kd.at_int HR0.out x9_1 p470 q470
         cases e470
         replace p470 := eq_true p470
         replace q470 := eq_true q470
         have p471 : 0 ≤ (x9_1 : Int) := of_decide_eq_true (by first | (with_reducible assumption) | assumption)
         have q471 : x9_1 < (l0.length : Int) := of_decide_eq_true (by first | (with_reducible assumption) | assumption)
         obtain ⟨ad471, e471, hx471_0⟩ := Kd.at_int HR0.out x9_1 p471 q471
         obtain rfl : ad470 = ad471 := (by injection e471)
         replace p471 := eq_true p471
         replace q471 := eq_true q471
         go_wp2
         go_ret3
         exact ⟨by first | rfl | (simp; done) | (simp [*]; done), by repeat (first | exact Drawn0.refl _ | apply Drawn0.step)⟩
        ·rw [if_neg c9] at H
         have c9b0 : decide (a1 < (wrap64 (x7_1 + (wrap64 ((wrap64 (Int.tmod (rd l0 x9_1) 128)) * x8_1))))) = false := decide_eq_false c9
         clear c9
         by_cases c10 : x9_1 > 0
         ·rw [if_pos c10] at H
          have c10b0 : decide (0 < x9_1) = true := decide_eq_true c10
          clear c10
          by_cases c11 : (rd l0 x9_1) = 0
          ·rw [if_pos c11] at H
           have c11b0 : ((rd l0 x9_1) == 0) = true := beq_iff_eq.mpr c11
           have c11b1 : ((rd l0 x9_1) != 0) = false := bne_eq_false_iff_eq.mpr c11
           clear c11
           simp only [Option.some.injEq, Prod.mk.injEq] at H
           obtain ⟨rfl, rfl, rfl⟩ := H
           have p470 : 0 ≤ (x9_1 : Int) := of_decide_eq_true (by first | (with_reducible assumption) | assumption)
           have q470 : x9_1 < (l0.length : Int) := of_decide_eq_true (by first | (with_reducible assumption) | assumption)
           obtain ⟨ad470, e470, hx470_0⟩ := Kd.at_int HR0.out x9_1 p470 q470
           cases e470
           replace p470 := eq_true p470
           replace q470 := eq_true q470
           have p471 : 0 ≤ (x9_1 : Int) := of_decide_eq_true (by first | (with_reducible assumption) | assumption)
           have q471 : x9_1 < (l0.length : Int) := of_decide_eq_true (by first | (with_reducible assumption) | assumption)
           obtain ⟨ad471, e471, hx471_0⟩ := Kd.at_int HR0.out x9_1 p471 q471
           obtain rfl : ad470 = ad471 := (by injection e471)
           replace p471 := eq_true p471
           replace q471 := eq_true q471
           have p472 : 0 ≤ (x9_1 : Int) := of_decide_eq_true (by first | (with_reducible assumption) | assumption)
           have q472 : x9_1 < (l0.length : Int) := of_decide_eq_true (by first | (with_reducible assumption) | assumption)
           obtain ⟨ad472, e472, hx472_0⟩ := Kd.at_int HR0.out x9_1 p472 q472
           obtain rfl : ad470 = ad472 := (by injection e472)
           replace p472 := eq_true p472
           replace q472 := eq_true q472
           go_wp2
           go_ret3
           exact ⟨by first | rfl | (simp; done) | (simp [*]; done), by repeat (first | exact Drawn0.refl _ | apply Drawn0.step)⟩
          ·rw [if_neg c11] at H
           have c11b0 : ((rd l0 x9_1) == 0) = false := beq_eq_false_iff_ne.mpr c11
           have c11b1 : ((rd l0 x9_1) != 0) = true := bne_iff_ne.mpr c11
           simp only [Option.some.injEq, Prod.mk.injEq] at H
           obtain ⟨rfl, rfl, rfl⟩ := H
           have p470 : 0 ≤ (x9_1 : Int) := of_decide_eq_true (by first | (with_reducible assumption) | assumption)
           have q470 : x9_1 < (l0.length : Int) := of_decide_eq_true (by first | (with_reducible assumption) | assumption)
           obtain ⟨ad470, e470, hx470_0⟩ := Kd.at_int HR0.out x9_1 p470 q470
           cases e470
           replace p470 := eq_true p470
           replace q470 := eq_true q470
           have p471 : 0 ≤ (x9_1 : Int) := of_decide_eq_true (by first | (with_reducible assumption) | assumption)
           have q471 : x9_1 < (l0.length : Int) := of_decide_eq_true (by first | (with_reducible assumption) | assumption)
           obtain ⟨ad471, e471, hx471_0⟩ := Kd.at_int HR0.out x9_1 p471 q471
           obtain rfl : ad470 = ad471 := (by injection e471)
           replace p471 := eq_true p471
           replace q471 := eq_true q471
           have p472 : 0 ≤ (x9_1 : Int) := of_decide_eq_true (by first | (with_reducible assumption) | assumption)
           have q472 : x9_1 < (l0.length : Int) := of_decide_eq_true (by first | (with_reducible assumption) | assumption)
           obtain ⟨ad472, e472, hx472_0⟩ := Kd.at_int HR0.out x9_1 p472 q472
           obtain rfl : ad470 = ad472 := (by injection e472)
           replace p472 := eq_true p472
           replace q472 := eq_true q472
           go_wp2
           go_ret3
           exact ⟨by first | rfl | (simp; done) | (simp [*]; done), by repeat (first | exact Drawn0.refl _ | apply Drawn0.step)⟩
         ·rw [if_neg c10] at H
          have c10b0 : decide (0 < x9_1) = false := decide_eq_false c10
          clear c10
          simp only [Option.some.injEq, Prod.mk.injEq] at H
          obtain ⟨rfl, rfl, rfl⟩ := H
          have p470 : 0 ≤ (x9_1 : Int) := of_decide_eq_true (by first | (with_reducible assumption) | assumption)
          have q470 : x9_1 < (l0.length : Int) := of_decide_eq_true (by first | (with_reducible assumption) | assumption)
          obtain ⟨ad470, e470, hx470_0⟩ := Kd.at_int HR0.out x9_1 p470 q470
          cases e470
          replace p470 := eq_true p470
          replace q470 := eq_true q470
          have p471 : 0 ≤ (x9_1 : Int) := of_decide_eq_true (by first | (with_reducible assumption) | assumption)
          have q471 : x9_1 < (l0.length : Int) := of_decide_eq_true (by first | (with_reducible assumption) | assumption)
          obtain ⟨ad471, e471, hx471_0⟩ := Kd.at_int HR0.out x9_1 p471 q471
          obtain rfl : ad470 = ad471 := (by injection e471)
          replace p471 := eq_true p471
          replace q471 := eq_true q471
          go_wp2
          go_ret3
          exact ⟨by first | rfl | (simp; done) | (simp [*]; done), by repeat (first | exact Drawn0.refl _ | apply Drawn0.step)⟩
       ·rw [if_neg c8] at H
        have c8b0 : decide ((rd l0 x9_1) < 128) = false := decide_eq_false c8
        clear c8
        have H' := Aside0.mk H
        clear H
        have p470 : 0 ≤ (x9_1 : Int) := of_decide_eq_true (by first | (with_reducible assumption) | assumption)
        have q470 : x9_1 < (l0.length : Int) := of_decide_eq_true (by first | (with_reducible assumption) | assumption)
        obtain ⟨ad470, e470, hx470_0⟩ := Kd.at_int HR0.out x9_1 p470 q470
        cases e470
        replace p470 := eq_true p470
        replace q470 := eq_true q470
        have p471 : 0 ≤ (x9_1 : Int) := of_decide_eq_true (by first | (with_reducible assumption) | assumption)
        have q471 : x9_1 < (l0.length : Int) := of_decide_eq_true (by first | (with_reducible assumption) | assumption)
        obtain ⟨ad471, e471, hx471_0⟩ := Kd.at_int HR0.out x9_1 p471 q471
        obtain rfl : ad470 = ad471 := (by injection e471)
        replace p471 := eq_true p471
        replace q471 := eq_true q471
        go_wp2
        go_roundg kj2
        case measure => have := HK1.out; have := HJ2.out; omega
        case rel => exact ⟨(wrap64 (x7_1 + (wrap64 ((wrap64 (Int.tmod (rd l0 x9_1) 128)) * x8_1)))), (wrap64 (x8_1 * 128)), (wrap64 (x9_1 + 1)), (by first | rfl | (simp; done) | (simp [*]; done) | grind), (by first | rfl | (simp; done) | (simp [*]; done) | grind), (by first | rfl | (simp; done) | (simp [*]; done) | grind), H', ⟨by have := HK1.out; have := HJ2.out; omega⟩, by repeat (first | exact Drawn0.refl _ | apply Drawn0.step)⟩
      ·replace c5 := Bool.eq_false_iff.mpr c5
       subst c5
       rw [if_neg (show ¬ (false = true) by decide)] at H
       simp only [Option.some.injEq, Prod.mk.injEq] at H
       obtain ⟨rfl, rfl, rfl⟩ := H
       go_wp2
       go_ret3
       exact ⟨by first | rfl | (simp; done) | (simp [*]; done), by repeat (first | exact Drawn0.refl _ | apply Drawn0.step)⟩

end Go.Proofs.Ytbnjhmcbkocdjaa.PAll
