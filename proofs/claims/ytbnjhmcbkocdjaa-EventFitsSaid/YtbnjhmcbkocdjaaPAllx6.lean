/- Written by this session's own program (wip/xprint): functions of the Go program as Lean functions, and proofs that the Go code computes them. -/
import Derived.Test.YtbnjhmcbkocdjaaPAllx0
namespace Go.Proofs.Ytbnjhmcbkocdjaa.PAll
open Go.RowKit Go.Proofs.YtbnjhmcbkocdjaaW.PrintWords Go.Proofs.YtbnjhmcbkocdjaaW.PrintLast Go.Proofs.YtbnjhmcbkocdjaaW.PrintMore
attribute [local go_sem] max2_int min2_int max_two min_two max_three min_three max_four min_four   -- for this text's walks alone
set_option linter.unusedVariables false
set_option linter.unusedSimpArgs false

/-! ### event_Word: function 23 -/
mutual
def event_Word.l0 : Nat → ByteArray → Int → Int → Option (Bool)
  | 0, _, _, _ => none
  | k + 1, x0, x6, x7 => if x7 < x6 then (if 0 ≤ x7 then (if x7 < (x0.size : Int) then (if (bt x0 x7) ≥ 97 then (event_Word.j1 k x0 x7 (bt x0 x7) x6 x7 (decide ((bt x0 x7) ≤ 122))) else (event_Word.j1 k x0 x7 (bt x0 x7) x6 x7 false)) else (none)) else (none)) else (if x0.toList = ([] : List UInt8) then (some false) else (some (decide ((x0.size : Int) ≤ 16))))
def event_Word.j1 : Nat → ByteArray → Int → Int → Int → Int → Bool → Option (Bool)
  | 0, _, _, _, _, _, _ => none
  | k + 1, x0, x3, x4, x6, x7, x13 => if x13 = true then (event_Word.l0 k x0 x6 (wrap64 (x7 + 1))) else (if x3 > 0 then (if x4 = 95 then (event_Word.l0 k x0 x6 (wrap64 (x7 + 1))) else (if x4 ≥ 48 then (if x4 ≤ 57 then (event_Word.l0 k x0 x6 (wrap64 (x7 + 1))) else (some false)) else (some false))) else (some false))
end
def event_Word.f (k : Nat) (a0 : ByteArray) : Option (Bool) := event_Word.l0 k a0 (a0.size : Int) 0
theorem event_Word.mono_l : ∀ k, (∀ y0 y1 y2, LeO (event_Word.l0 k y0 y1 y2) (event_Word.l0 (k + 1) y0 y1 y2)) ∧ (∀ y0 y1 y2 y3 y4 y5, LeO (event_Word.j1 k y0 y1 y2 y3 y4 y5) (event_Word.j1 (k + 1) y0 y1 y2 y3 y4 y5))
  | 0 => ⟨fun _ _ _ r h => by simp [event_Word.l0] at h, fun _ _ _ _ _ _ r h => by simp [event_Word.j1] at h⟩
  | k + 1 => by
    obtain ⟨ih0, ih1⟩ := event_Word.mono_l k
    refine ⟨?_, ?_⟩
    · intro y0 y1 y2
      unfold event_Word.l0
      repeat' first
      | (with_reducible exact ih0 _ _ _)
      | (with_reducible exact ih1 _ _ _ _ _ _)
      | (with_reducible exact LeO.refl _)
      | (with_reducible exact LeO.none _)
      | (with_reducible refine LeO.ite ?_ ?_)
      | (with_reducible refine LeO.bind ?_ (fun _ => ?_))
      | exact LeO.none _
      | refine LeO.ite ?_ ?_
      | refine LeO.bind ?_ (fun _ => ?_)
    · intro y0 y1 y2 y3 y4 y5
      unfold event_Word.j1
      repeat' first
      | (with_reducible exact ih0 _ _ _)
      | (with_reducible exact ih1 _ _ _ _ _ _)
      | (with_reducible exact LeO.refl _)
      | (with_reducible exact LeO.none _)
      | (with_reducible refine LeO.ite ?_ ?_)
      | (with_reducible refine LeO.bind ?_ (fun _ => ?_))
      | exact LeO.none _
      | refine LeO.ite ?_ ?_
      | refine LeO.bind ?_ (fun _ => ?_)
theorem event_Word.mono : ∀ a0 k, LeO (event_Word.f k a0) (event_Word.f (k + 1) a0) := by
  intro a0 k
  obtain ⟨ih0, ih1⟩ := event_Word.mono_l k
  unfold event_Word.f
  repeat' first
      | (with_reducible exact ih0 _ _ _)
      | (with_reducible exact ih1 _ _ _ _ _ _)
      | (with_reducible exact LeO.refl _)
      | (with_reducible exact LeO.none _)
      | (with_reducible refine LeO.ite ?_ ?_)
      | (with_reducible refine LeO.bind ?_ (fun _ => ?_))
      | exact LeO.none _
      | refine LeO.ite ?_ ?_
      | refine LeO.bind ?_ (fun _ => ?_)
set_option maxHeartbeats 8000000 in
set_option maxRecDepth 100000 in
theorem event_Word.calls (k : Nat) (a0 : ByteArray) (r : Bool) (w : World) (h : event_Word.f k a0 = some r) :
    Calls Try.prog 23 #[.string a0] w fun e w' => e = .returned (.bool r) ∧ Drawn0 w w' := by
  have H : (event_Word.l0 k a0 (a0.size : Int) 0) = some r := h
  clear h
  have H' := Aside0.mk H
  clear H
  go_enter Try.func23, Try.ntmps23
  go_wp2
  go_loopg [7] k (fun kq v7 w' => ∃ (x7_1 : Int), v7 = .int .i64 x7_1 ∧ Aside0 (event_Word.l0 kq a0 (a0.size : Int) x7_1 = some r) ∧ Aside0 (kq ≤ k) ∧ Drawn0 w w')
  case atStart => exact ⟨(0), (by first | rfl | (simp; done) | (simp [*]; done) | grind), H', ⟨Nat.le_refl _⟩, by repeat (first | exact Drawn0.refl _ | apply Drawn0.step)⟩
  case round =>
   clear H'
   obtain ⟨x7_1, rfl, HA, HK1, ⟨m1, rfl⟩⟩ := hrel
   cases gk with
   | zero => exact absurd HA.out (by simp [event_Word.l0])
   | succ k1 =>
    have H := HA.out
    clear HA
    simp only [event_Word.l0] at H
    by_cases c2 : x7_1 < (a0.size : Int)
    ·rw [if_pos c2] at H
     have c2b0 : decide (x7_1 < (a0.size : Int)) = true := decide_eq_true c2
     clear c2
     by_cases c3 : 0 ≤ x7_1; rotate_left
     ·rw [if_neg c3] at H; cases H
     rw [if_pos c3] at H
     have c3b0 : decide (0 ≤ x7_1) = true := decide_eq_true c3
     clear c3
     by_cases c4 : x7_1 < (a0.size : Int); rotate_left
     ·rw [if_neg c4] at H; cases H
     rw [if_pos c4] at H
     have c4b0 : decide (x7_1 < (a0.size : Int)) = true := decide_eq_true c4
     clear c4
     have HC6 := Aside0.mk H
     clear H
     have p5 : 0 ≤ (x7_1 : Int) := of_decide_eq_true (by first | (with_reducible assumption) | assumption)
     have q5 : x7_1 < (a0.size : Int) := of_decide_eq_true (by first | (with_reducible assumption) | assumption)
     have hx5 := bt_at a0 x7_1
     replace p5 := eq_true p5
     replace q5 := eq_true q5
     go_upto_region 6 with (fail)
     go_cut [13] (fun v13 wc => ∃ (kq : Nat) (x13_5 : Bool), v13 = .bool x13_5 ∧ Aside0 (event_Word.j1 kq a0 x7_1 (bt a0 x7_1) (a0.size : Int) x7_1 x13_5 = some r) ∧ Aside0 (kq ≤ k1) ∧ Drawn0 w wc)
     case first =>
      have H := HC6.out
      clear HC6
      by_cases c7 : (bt a0 x7_1) ≥ 97
      ·rw [if_pos c7] at H
       have c7b0 : decide (97 ≤ (bt a0 x7_1)) = true := decide_eq_true c7
       clear c7
       (first | rw [c7b0] | (simp only [i64_w, i32_w]; rw [c7b0]) | rw [c7b1] | skip)
       have H' := Aside0.mk H
       clear H
       go_wp2
       go_meet
       case rel => exact ⟨_, (decide ((bt a0 x7_1) ≤ 122)), (by first | rfl | (simp; done) | (simp [*]; done) | grind), H', ⟨by have := HK1.out; first | omega | exact Nat.le_refl _⟩, by repeat (first | exact Drawn0.refl _ | apply Drawn0.step)⟩
      ·rw [if_neg c7] at H
       have c7b0 : decide (97 ≤ (bt a0 x7_1)) = false := decide_eq_false c7
       clear c7
       (first | rw [c7b0] | (simp only [i64_w, i32_w]; rw [c7b0]) | rw [c7b1] | skip)
       have H' := Aside0.mk H
       clear H
       go_wp2
       go_meet
       case rel => exact ⟨_, (false), (by first | rfl | (simp; done) | (simp [*]; done) | grind), H', ⟨by have := HK1.out; first | omega | exact Nat.le_refl _⟩, by repeat (first | exact Drawn0.refl _ | apply Drawn0.step)⟩
     case rest =>
      clear HC6
      (try clear c2); (try clear c2b0); (try clear p2); (try clear c3); (try clear c3b0); (try clear c4); (try clear c4b0); (try clear p5); (try clear q5); (try clear hx5); (try clear c7); (try clear c7b0); (try clear c7b1)
      obtain ⟨kq, x13_5, rfl, HA, HJ5, ⟨mc5, rfl⟩⟩ := hcut
      cases kq with
      | zero => exact absurd HA.out (by simp [event_Word.j1])
      | succ kj5 =>
       have H := HA.out
       clear HA
       simp only [event_Word.j1] at H
       by_cases c8 : x13_5 = true
       ·subst c8
        rw [if_pos rfl] at H
        have H' := Aside0.mk H
        clear H
        go_wp2
        go_roundg kj5
        case measure => have := HK1.out; have := HJ5.out; omega
        case rel => exact ⟨(wrap64 (x7_1 + 1)), (by first | rfl | (simp; done) | (simp [*]; done) | grind), H', ⟨by have := HK1.out; have := HJ5.out; omega⟩, by repeat (first | exact Drawn0.refl _ | apply Drawn0.step)⟩
       ·replace c8 := Bool.eq_false_iff.mpr c8
        subst c8
        rw [if_neg (show ¬ (false = true) by decide)] at H
        by_cases c9 : x7_1 > 0
        ·rw [if_pos c9] at H
         have c9b0 : decide (0 < x7_1) = true := decide_eq_true c9
         clear c9
         by_cases c10 : (bt a0 x7_1) = 95
         ·rw [if_pos c10] at H
          have c10b0 : ((bt a0 x7_1) == 95) = true := beq_iff_eq.mpr c10
          have c10b1 : ((bt a0 x7_1) != 95) = false := bne_eq_false_iff_eq.mpr c10
          clear c10
          have H' := Aside0.mk H
          clear H
          go_wp2
          go_roundg kj5
          case measure => have := HK1.out; have := HJ5.out; omega
          case rel => exact ⟨(wrap64 (x7_1 + 1)), (by first | rfl | (simp; done) | (simp [*]; done) | grind), H', ⟨by have := HK1.out; have := HJ5.out; omega⟩, by repeat (first | exact Drawn0.refl _ | apply Drawn0.step)⟩
         ·rw [if_neg c10] at H
          have c10b0 : ((bt a0 x7_1) == 95) = false := beq_eq_false_iff_ne.mpr c10
          have c10b1 : ((bt a0 x7_1) != 95) = true := bne_iff_ne.mpr c10
          by_cases c11 : (bt a0 x7_1) ≥ 48
          ·rw [if_pos c11] at H
           have c11b0 : decide (48 ≤ (bt a0 x7_1)) = true := decide_eq_true c11
           clear c11
           by_cases c12 : (bt a0 x7_1) ≤ 57
           ·rw [if_pos c12] at H
            have c12b0 : decide ((bt a0 x7_1) ≤ 57) = true := decide_eq_true c12
            clear c12
            have H' := Aside0.mk H
            clear H
            go_wp2
            go_roundg kj5
            case measure => have := HK1.out; have := HJ5.out; omega
            case rel => exact ⟨(wrap64 (x7_1 + 1)), (by first | rfl | (simp; done) | (simp [*]; done) | grind), H', ⟨by have := HK1.out; have := HJ5.out; omega⟩, by repeat (first | exact Drawn0.refl _ | apply Drawn0.step)⟩
           ·rw [if_neg c12] at H
            have c12b0 : decide ((bt a0 x7_1) ≤ 57) = false := decide_eq_false c12
            clear c12
            obtain rfl := Option.some.inj H
            go_wp2
            go_ret
            exact ⟨by first | rfl | (simp; done) | (simp [*]; done), by repeat (first | exact Drawn0.refl _ | apply Drawn0.step)⟩
          ·rw [if_neg c11] at H
           have c11b0 : decide (48 ≤ (bt a0 x7_1)) = false := decide_eq_false c11
           clear c11
           obtain rfl := Option.some.inj H
           go_wp2
           go_ret
           exact ⟨by first | rfl | (simp; done) | (simp [*]; done), by repeat (first | exact Drawn0.refl _ | apply Drawn0.step)⟩
        ·rw [if_neg c9] at H
         have c9b0 : decide (0 < x7_1) = false := decide_eq_false c9
         clear c9
         obtain rfl := Option.some.inj H
         go_wp2
         go_ret
         exact ⟨by first | rfl | (simp; done) | (simp [*]; done), by repeat (first | exact Drawn0.refl _ | apply Drawn0.step)⟩
    ·rw [if_neg c2] at H
     have c2b0 : decide (x7_1 < (a0.size : Int)) = false := decide_eq_false c2
     clear c2
     by_cases c13 : a0.toList = ([] : List UInt8)
     ·rw [if_pos c13] at H
      have c13b0 : (a0.toList == ([] : List UInt8)) = true := beq_iff_eq.mpr c13
      have c13b1 : (a0.toList != ([] : List UInt8)) = false := bne_eq_false_iff_eq.mpr c13
      clear c13
      obtain rfl := Option.some.inj H
      go_wp2
      go_ret
      exact ⟨by first | rfl | (simp; done) | (simp [*]; done), by repeat (first | exact Drawn0.refl _ | apply Drawn0.step)⟩
     ·rw [if_neg c13] at H
      have c13b0 : (a0.toList == ([] : List UInt8)) = false := beq_eq_false_iff_ne.mpr c13
      have c13b1 : (a0.toList != ([] : List UInt8)) = true := bne_iff_ne.mpr c13
      obtain rfl := Option.some.inj H
      go_wp2
      go_ret
      exact ⟨by first | rfl | (simp; done) | (simp [*]; done), by repeat (first | exact Drawn0.refl _ | apply Drawn0.step)⟩

end Go.Proofs.Ytbnjhmcbkocdjaa.PAll
