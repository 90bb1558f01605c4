/- Written by this session's own program (wip/xprint): functions of the Go program as Lean functions, and proofs that the Go code computes them. -/
import Derived.Test.YtbnjhmcbkocdjaaPAllx0
import Derived.Test.YtbnjhmcbkocdjaaPAllx6
import Derived.Test.YtbnjhmcbkocdjaaPAllx32
namespace Go.Proofs.Ytbnjhmcbkocdjaa.PAll
open Go.RowKit Go.Proofs.YtbnjhmcbkocdjaaW.PrintWords Go.Proofs.YtbnjhmcbkocdjaaW.PrintLast Go.Proofs.YtbnjhmcbkocdjaaW.PrintMore
attribute [local go_sem] max2_int min2_int max_two min_two max_three min_three max_four min_four   -- for this text's walks alone
set_option linter.unusedVariables false
set_option linter.unusedSimpArgs false

/-! ### augurylaw05_EventWords: function 8 -/
mutual
def augurylaw05_EventWords.j0 : Nat → ByteArray → Int → Bool → Bool → Option (Bool)
  | 0, _, _, _, _ => none
  | k + 1, x0, x1, x5, x6 => if x6 = true then (augurylaw05_EventWords.j1 k x0 x1 x5 x6 true) else (if x1 ≥ 48 then (if x1 ≤ 57 then (augurylaw05_EventWords.j1 k x0 x1 x5 x6 true) else (augurylaw05_EventWords.j1 k x0 x1 x5 x6 (x1 == 95))) else (augurylaw05_EventWords.j1 k x0 x1 x5 x6 (x1 == 95)))
def augurylaw05_EventWords.j1 : Nat → ByteArray → Int → Bool → Bool → Bool → Option (Bool)
  | 0, _, _, _, _, _ => none
  | k + 1, x0, x1, x5, x6, x7 => (some (([x1] : List Int) : List Int)).bind fun y665 => ((event_Word.f k x0).bind fun t668 => (if x5 = true then ((event_Word.f k (strOfNums y665)).bind fun t669 => (if (t669 == x6) = true then (if t668 = true then (if x0.size + (strOfNums y665).size ≤ 9223372036854775807 then ((event_Word.f k (x0 ++ (strOfNums y665))).bind fun t670 => (if x7 = true then (if (t670 == (decide ((x0.size : Int) < 16))) = true then (if (strOfNums y665).size + x0.size ≤ 9223372036854775807 then ((event_Word.f k ((strOfNums y665) ++ x0)).bind fun t671 => (if x6 = true then (if (t671 == (decide ((x0.size : Int) < 16))) = true then (if x0.size + 1 ≤ 9223372036854775807 then ((event_Word.f k (x0 ++ (⟨#[65]⟩ : ByteArray))).bind fun t672 => (if t672 = true then (none) else ((event_Word.f k (x0 ++ (⟨#[32]⟩ : ByteArray))).bind fun t673 => (if t673 = true then (none) else (some true))))) else (none)) else (none)) else (if (t671 == false) = true then (if x0.size + 1 ≤ 9223372036854775807 then ((event_Word.f k (x0 ++ (⟨#[65]⟩ : ByteArray))).bind fun t674 => (if t674 = true then (none) else ((event_Word.f k (x0 ++ (⟨#[32]⟩ : ByteArray))).bind fun t675 => (if t675 = true then (none) else (some true))))) else (none)) else (none)))) else (none)) else (none)) else (if (t670 == false) = true then (if (strOfNums y665).size + x0.size ≤ 9223372036854775807 then ((event_Word.f k ((strOfNums y665) ++ x0)).bind fun t676 => (if x6 = true then (if (t676 == (decide ((x0.size : Int) < 16))) = true then (if x0.size + 1 ≤ 9223372036854775807 then ((event_Word.f k (x0 ++ (⟨#[65]⟩ : ByteArray))).bind fun t677 => (if t677 = true then (none) else ((event_Word.f k (x0 ++ (⟨#[32]⟩ : ByteArray))).bind fun t678 => (if t678 = true then (none) else (some true))))) else (none)) else (none)) else (if (t676 == false) = true then (if x0.size + 1 ≤ 9223372036854775807 then ((event_Word.f k (x0 ++ (⟨#[65]⟩ : ByteArray))).bind fun t679 => (if t679 = true then (none) else ((event_Word.f k (x0 ++ (⟨#[32]⟩ : ByteArray))).bind fun t680 => (if t680 = true then (none) else (some true))))) else (none)) else (none)))) else (none)) else (none)))) else (none)) else (some true)) else (none))) else (none)))
end
def augurylaw05_EventWords.f (k : Nat) (a0 : ByteArray) (a1 : Int) : Option (Bool) := (augurylaw05_head.f k).bind fun t664 => (if (a0.size : Int) > 1000 then (if t664 = true then (some true) else (none)) else (if a1 ≥ 97 then (augurylaw05_EventWords.j0 k a0 a1 t664 (decide (a1 ≤ 122))) else (augurylaw05_EventWords.j0 k a0 a1 t664 false)))
theorem augurylaw05_EventWords.mono_l : ∀ k, (∀ y0 y1 y2 y3, LeO (augurylaw05_EventWords.j0 k y0 y1 y2 y3) (augurylaw05_EventWords.j0 (k + 1) y0 y1 y2 y3)) ∧ (∀ y0 y1 y2 y3 y4, LeO (augurylaw05_EventWords.j1 k y0 y1 y2 y3 y4) (augurylaw05_EventWords.j1 (k + 1) y0 y1 y2 y3 y4))
  | 0 => ⟨fun _ _ _ _ r h => by simp [augurylaw05_EventWords.j0] at h, fun _ _ _ _ _ r h => by simp [augurylaw05_EventWords.j1] at h⟩
  | k + 1 => by
    obtain ⟨ih0, ih1⟩ := augurylaw05_EventWords.mono_l k
    refine ⟨?_, ?_⟩
    · intro y0 y1 y2 y3
      unfold augurylaw05_EventWords.j0
      repeat' first
      | (with_reducible exact ih0 _ _ _ _)
      | (with_reducible exact ih1 _ _ _ _ _)
      | (with_reducible exact augurylaw05_head.mono _)
      | (with_reducible exact event_Word.mono _ _)
      | (with_reducible exact LeO.refl _)
      | (with_reducible exact LeO.none _)
      | (with_reducible refine LeO.ite ?_ ?_)
      | (with_reducible refine LeO.bind ?_ (fun _ => ?_))
      | exact ih0 _ _ _ _
      | exact ih1 _ _ _ _ _
      | exact augurylaw05_head.mono _
      | exact event_Word.mono _ _
      | exact LeO.none _
      | refine LeO.ite ?_ ?_
      | refine LeO.bind ?_ (fun _ => ?_)
    · intro y0 y1 y2 y3 y4
      unfold augurylaw05_EventWords.j1
      repeat' first
      | (with_reducible exact ih0 _ _ _ _)
      | (with_reducible exact ih1 _ _ _ _ _)
      | (with_reducible exact augurylaw05_head.mono _)
      | (with_reducible exact event_Word.mono _ _)
      | (with_reducible exact LeO.refl _)
      | (with_reducible exact LeO.none _)
      | (with_reducible refine LeO.ite ?_ ?_)
      | (with_reducible refine LeO.bind ?_ (fun _ => ?_))
      | exact ih0 _ _ _ _
      | exact ih1 _ _ _ _ _
      | exact augurylaw05_head.mono _
      | exact event_Word.mono _ _
      | exact LeO.none _
      | refine LeO.ite ?_ ?_
      | refine LeO.bind ?_ (fun _ => ?_)
theorem augurylaw05_EventWords.mono : ∀ a0 a1 k, LeO (augurylaw05_EventWords.f k a0 a1) (augurylaw05_EventWords.f (k + 1) a0 a1) := by
  intro a0 a1 k
  obtain ⟨ih0, ih1⟩ := augurylaw05_EventWords.mono_l k
  unfold augurylaw05_EventWords.f
  repeat' first
      | (with_reducible exact ih0 _ _ _ _)
      | (with_reducible exact ih1 _ _ _ _ _)
      | (with_reducible exact augurylaw05_head.mono _)
      | (with_reducible exact event_Word.mono _ _)
      | (with_reducible exact LeO.refl _)
      | (with_reducible exact LeO.none _)
      | (with_reducible refine LeO.ite ?_ ?_)
      | (with_reducible refine LeO.bind ?_ (fun _ => ?_))
      | exact ih0 _ _ _ _
      | exact ih1 _ _ _ _ _
      | exact augurylaw05_head.mono _
      | exact event_Word.mono _ _
      | exact LeO.none _
      | refine LeO.ite ?_ ?_
      | refine LeO.bind ?_ (fun _ => ?_)
set_option maxHeartbeats 8000000 in
set_option maxRecDepth 100000 in
theorem augurylaw05_EventWords.calls (k : Nat) (a0 : ByteArray) (a1 : Int) (r : Bool) (w : World) (h : augurylaw05_EventWords.f k a0 a1 = some r) :
    Calls Try.prog 8 #[.string a0, .int .u8 a1] w fun e w' => e = .returned (.bool r) ∧ Below w.heap.size w w' := by
  have HB := Aside0.mk (Below.refl w.heap.size w)
  have H : ((augurylaw05_head.f k).bind fun t664 => (if (a0.size : Int) > 1000 then (if t664 = true then (some true) else (none)) else (if a1 ≥ 97 then (augurylaw05_EventWords.j0 k a0 a1 t664 (decide (a1 ≤ 122))) else (augurylaw05_EventWords.j0 k a0 a1 t664 false)))) = some r := h
  clear h
  replace H := Option.bind_eq_some_iff.mp H
  obtain ⟨t664, A30, H⟩ := H
  replace H : (if (a0.size : Int) > 1000 then (if t664 = true then (some true) else (none)) else (if a1 ≥ 97 then (augurylaw05_EventWords.j0 k a0 a1 t664 (decide (a1 ≤ 122))) else (augurylaw05_EventWords.j0 k a0 a1 t664 false))) = some r := H
  have A3 := Aside0.mk A30
  clear A30
  by_cases c4 : (a0.size : Int) > 1000
  ·rw [if_pos c4] at H
   have c4b0 : decide (1000 < (a0.size : Int)) = true := decide_eq_true c4
   have c4b1 : decide (1000 < a0.size) = true := decide_eq_true (by omega)
   clear c4
   by_cases c5 : t664 = true
   ·subst c5
    have H1 : (some true) = some r := by rw [if_pos rfl] at H; exact H
    clear H
    have H := H1
    clear H1
    obtain rfl := Option.some.inj H
    go_enter Try.func8, Try.ntmps8
    go_wp2_with (first | ((with_reducible refine gate_callee (f := 9) rfl ?_); refine goesL_ (some 10) rfl rfl Try.func9 (by kernel_rfl) rfl #[] rfl (by (try simp only [List.map_toArray, List.map_cons, List.map_nil]); first | done | rfl | (simp only [List.length_drop, List.length_take]; rfl)) ?_; (with_reducible refine (augurylaw05_head.calls k  true _ A3.out).mono ?_); rintro e w6 ⟨rfl, hb⟩; refine ⟨_, rfl, ?_⟩; replace HB := hB HB hb; (try clear hb); (try clear hb2); (try clear hk); (try clear hi)))
    go_ret
    exact ⟨by first | rfl | (simp [errW_none, errW_some] <;> rfl) | (simp [*, errW_none, errW_some] <;> rfl), pl_below HB.out⟩
   ·replace c5 := Bool.eq_false_iff.mpr c5
    subst c5
    have H1 : (none) = some r := by rw [if_neg (show ¬ (false = true) by decide)] at H; exact H
    clear H
    have H := H1
    clear H1
    exact absurd H (by simp)
  ·rw [if_neg c4] at H
   have c4b0 : decide (1000 < (a0.size : Int)) = false := decide_eq_false c4
   have c4b1 : decide (1000 < a0.size) = false := decide_eq_false (by omega)
   clear c4
   have HC7 := Aside0.mk H
   clear H
   go_enter Try.func8, Try.ntmps8
   go_upto_region 4 with (first | ((with_reducible refine gate_callee (f := 9) rfl ?_); refine goesL_ (some 10) rfl rfl Try.func9 (by kernel_rfl) rfl #[] rfl (by (try simp only [List.map_toArray, List.map_cons, List.map_nil]); first | done | rfl | (simp only [List.length_drop, List.length_take]; rfl)) ?_; (with_reducible refine (augurylaw05_head.calls k  t664 _ A3.out).mono ?_); rintro e w8 ⟨rfl, hb⟩; refine ⟨_, rfl, ?_⟩; replace HB := hB HB hb; (try clear hb); (try clear hb2); (try clear hk); (try clear hi)))
   (try simp only [Act.put, List.setIfInBounds_toArray, List.set_cons_zero, List.set_cons_succ])
   go_cut [6] (fun v6 wc => ∃ (kq : Nat) (x6_6 : Bool), v6 = .bool x6_6 ∧ Aside0 (augurylaw05_EventWords.j0 kq a0 a1 t664 x6_6 = some r) ∧ Aside0 (kq ≤ k) ∧ Aside0 (Below w.heap.size w wc))
   case first =>
    have H := HC7.out
    clear HC7
    by_cases c9 : a1 ≥ 97
    ·rw [if_pos c9] at H
     have c9b0 : decide (97 ≤ a1) = true := decide_eq_true c9
     clear c9
     (first | rw [c9b0] | (simp only [i64_w, i32_w]; rw [c9b0]) | rw [c9b1] | skip)
     have H' := Aside0.mk H
     clear H
     go_wp2
     go_meet
     case rel => exact ⟨_, (decide (a1 ≤ 122)), (by first | rfl | (simp; done) | (simp [*]; done) | grind), H', ⟨by first | omega | exact Nat.le_refl _⟩, ⟨pl_below HB.out⟩⟩
    ·rw [if_neg c9] at H
     have c9b0 : decide (97 ≤ a1) = false := decide_eq_false c9
     clear c9
     (first | rw [c9b0] | (simp only [i64_w, i32_w]; rw [c9b0]) | rw [c9b1] | skip)
     have H' := Aside0.mk H
     clear H
     go_wp2
     go_meet
     case rel => exact ⟨_, (false), (by first | rfl | (simp; done) | (simp [*]; done) | grind), H', ⟨by first | omega | exact Nat.le_refl _⟩, ⟨pl_below HB.out⟩⟩
   case rest =>
    clear HC7
    (try clear p2); (try clear c4); (try clear c4b0); (try clear c4b1); (try clear c5); (try clear c8); (try clear c9); (try clear c9b0); (try clear c9b1)
    obtain ⟨kq, x6_6, rfl, HA, HJ6, HB⟩ := hcut
    cases kq with
    | zero => exact absurd HA.out (by simp [augurylaw05_EventWords.j0])
    | succ kj6 =>
     have H := HA.out
     clear HA
     simp only [augurylaw05_EventWords.j0] at H
     have HC10 := Aside0.mk H
     clear H
     go_upto_region 5 with (fail)
     go_cut [7] (fun v7 wc => ∃ (kq : Nat) (x7_9 : Bool), v7 = .bool x7_9 ∧ Aside0 (augurylaw05_EventWords.j1 kq a0 a1 t664 x6_6 x7_9 = some r) ∧ Aside0 (kq ≤ kj6) ∧ Aside0 (Below w.heap.size w wc))
     case first =>
      have H := HC10.out
      clear HC10
      by_cases c11 : x6_6 = true
      ·subst c11
       have H1 : (augurylaw05_EventWords.j1 kj6 a0 a1 t664 true true) = some r := by rw [if_pos rfl] at H; exact H
       clear H
       have H := H1
       clear H1
       have H' := Aside0.mk H
       clear H
       go_wp2
       go_meet
       case rel => exact ⟨_, (true), (by first | rfl | (simp; done) | (simp [*]; done) | grind), H', ⟨by have := HJ6.out; first | omega | exact Nat.le_refl _⟩, ⟨pl_below HB.out⟩⟩
      ·replace c11 := Bool.eq_false_iff.mpr c11
       subst c11
       have H1 : (if a1 ≥ 48 then (if a1 ≤ 57 then (augurylaw05_EventWords.j1 kj6 a0 a1 t664 false true) else (augurylaw05_EventWords.j1 kj6 a0 a1 t664 false (a1 == 95))) else (augurylaw05_EventWords.j1 kj6 a0 a1 t664 false (a1 == 95))) = some r := by rw [if_neg (show ¬ (false = true) by decide)] at H; exact H
       clear H
       have H := H1
       clear H1
       by_cases c12 : a1 ≥ 48
       ·rw [if_pos c12] at H
        have c12b0 : decide (48 ≤ a1) = true := decide_eq_true c12
        clear c12
        (first | rw [c12b0] | (simp only [i64_w, i32_w]; rw [c12b0]) | rw [c12b1] | skip)
        by_cases c13 : a1 ≤ 57
        ·rw [if_pos c13] at H
         have c13b0 : decide (a1 ≤ 57) = true := decide_eq_true c13
         clear c13
         have H' := Aside0.mk H
         clear H
         go_wp2
         go_meet
         case rel => exact ⟨_, (true), (by first | rfl | (simp; done) | (simp [*]; done) | grind), H', ⟨by have := HJ6.out; first | omega | exact Nat.le_refl _⟩, ⟨pl_below HB.out⟩⟩
        ·rw [if_neg c13] at H
         have c13b0 : decide (a1 ≤ 57) = false := decide_eq_false c13
         clear c13
         have H' := Aside0.mk H
         clear H
         go_wp2
         go_meet
         case rel => exact ⟨_, ((a1 == 95)), (by first | rfl | (simp; done) | (simp [*]; done) | grind), H', ⟨by have := HJ6.out; first | omega | exact Nat.le_refl _⟩, ⟨pl_below HB.out⟩⟩
       ·rw [if_neg c12] at H
        have c12b0 : decide (48 ≤ a1) = false := decide_eq_false c12
        clear c12
        (first | rw [c12b0] | (simp only [i64_w, i32_w]; rw [c12b0]) | rw [c12b1] | skip)
        have H' := Aside0.mk H
        clear H
        go_wp2
        go_meet
        case rel => exact ⟨_, ((a1 == 95)), (by first | rfl | (simp; done) | (simp [*]; done) | grind), H', ⟨by have := HJ6.out; first | omega | exact Nat.le_refl _⟩, ⟨pl_below HB.out⟩⟩
     case rest =>
      clear HC10
      (try clear c1); (try clear p2); (try clear c4); (try clear c4b0); (try clear c4b1); (try clear c5); (try clear c8); (try clear c9); (try clear c9b0); (try clear c9b1); (try clear c11); (try clear c12); (try clear c12b0); (try clear c12b1); (try clear c13); (try clear c13b0)
      obtain ⟨kq, x7_9, rfl, HA, HJ9, HB⟩ := hcut
      cases kq with
      | zero => exact absurd HA.out (by simp [augurylaw05_EventWords.j1])
      | succ kj9 =>
       have H := HA.out
       clear HA
       simp only [augurylaw05_EventWords.j1] at H
       obtain ⟨y665, hy665⟩ : ∃ y_ : List Int, y_ = (([a1] : List Int)) := ⟨_, rfl⟩
       replace H : ((event_Word.f kj9 a0).bind fun t668 => (if t664 = true then ((event_Word.f kj9 (strOfNums y665)).bind fun t669 => (if (t669 == x6_6) = true then (if t668 = true then (if a0.size + (strOfNums y665).size ≤ 9223372036854775807 then ((event_Word.f kj9 (a0 ++ (strOfNums y665))).bind fun t670 => (if x7_9 = true then (if (t670 == (decide ((a0.size : Int) < 16))) = true then (if (strOfNums y665).size + a0.size ≤ 9223372036854775807 then ((event_Word.f kj9 ((strOfNums y665) ++ a0)).bind fun t671 => (if x6_6 = true then (if (t671 == (decide ((a0.size : Int) < 16))) = true then (if a0.size + 1 ≤ 9223372036854775807 then ((event_Word.f kj9 (a0 ++ (⟨#[65]⟩ : ByteArray))).bind fun t672 => (if t672 = true then (none) else ((event_Word.f kj9 (a0 ++ (⟨#[32]⟩ : ByteArray))).bind fun t673 => (if t673 = true then (none) else (some true))))) else (none)) else (none)) else (if (t671 == false) = true then (if a0.size + 1 ≤ 9223372036854775807 then ((event_Word.f kj9 (a0 ++ (⟨#[65]⟩ : ByteArray))).bind fun t674 => (if t674 = true then (none) else ((event_Word.f kj9 (a0 ++ (⟨#[32]⟩ : ByteArray))).bind fun t675 => (if t675 = true then (none) else (some true))))) else (none)) else (none)))) else (none)) else (none)) else (if (t670 == false) = true then (if (strOfNums y665).size + a0.size ≤ 9223372036854775807 then ((event_Word.f kj9 ((strOfNums y665) ++ a0)).bind fun t676 => (if x6_6 = true then (if (t676 == (decide ((a0.size : Int) < 16))) = true then (if a0.size + 1 ≤ 9223372036854775807 then ((event_Word.f kj9 (a0 ++ (⟨#[65]⟩ : ByteArray))).bind fun t677 => (if t677 = true then (none) else ((event_Word.f kj9 (a0 ++ (⟨#[32]⟩ : ByteArray))).bind fun t678 => (if t678 = true then (none) else (some true))))) else (none)) else (none)) else (if (t676 == false) = true then (if a0.size + 1 ≤ 9223372036854775807 then ((event_Word.f kj9 (a0 ++ (⟨#[65]⟩ : ByteArray))).bind fun t679 => (if t679 = true then (none) else ((event_Word.f kj9 (a0 ++ (⟨#[32]⟩ : ByteArray))).bind fun t680 => (if t680 = true then (none) else (some true))))) else (none)) else (none)))) else (none)) else (none)))) else (none)) else (some true)) else (none))) else (none))) = some r := by first | (rw [hy665]; with_reducible exact H) | (have H2_ := (Option.bind_some _ _).symm.trans H; rw [hy665]; with_reducible exact H2_) | (have H2_ := (Option.bind_some _ _).symm.trans H; with_reducible exact H2_) | with_reducible exact H | (rw [hy665]; exact H) | exact H
       have Ny665 := Aside0.mk hy665
       clear hy665
       replace H := Option.bind_eq_some_iff.mp H
       obtain ⟨t668, A140, H⟩ := H
       replace H : (if t664 = true then ((event_Word.f kj9 (strOfNums y665)).bind fun t669 => (if (t669 == x6_6) = true then (if t668 = true then (if a0.size + (strOfNums y665).size ≤ 9223372036854775807 then ((event_Word.f kj9 (a0 ++ (strOfNums y665))).bind fun t670 => (if x7_9 = true then (if (t670 == (decide ((a0.size : Int) < 16))) = true then (if (strOfNums y665).size + a0.size ≤ 9223372036854775807 then ((event_Word.f kj9 ((strOfNums y665) ++ a0)).bind fun t671 => (if x6_6 = true then (if (t671 == (decide ((a0.size : Int) < 16))) = true then (if a0.size + 1 ≤ 9223372036854775807 then ((event_Word.f kj9 (a0 ++ (⟨#[65]⟩ : ByteArray))).bind fun t672 => (if t672 = true then (none) else ((event_Word.f kj9 (a0 ++ (⟨#[32]⟩ : ByteArray))).bind fun t673 => (if t673 = true then (none) else (some true))))) else (none)) else (none)) else (if (t671 == false) = true then (if a0.size + 1 ≤ 9223372036854775807 then ((event_Word.f kj9 (a0 ++ (⟨#[65]⟩ : ByteArray))).bind fun t674 => (if t674 = true then (none) else ((event_Word.f kj9 (a0 ++ (⟨#[32]⟩ : ByteArray))).bind fun t675 => (if t675 = true then (none) else (some true))))) else (none)) else (none)))) else (none)) else (none)) else (if (t670 == false) = true then (if (strOfNums y665).size + a0.size ≤ 9223372036854775807 then ((event_Word.f kj9 ((strOfNums y665) ++ a0)).bind fun t676 => (if x6_6 = true then (if (t676 == (decide ((a0.size : Int) < 16))) = true then (if a0.size + 1 ≤ 9223372036854775807 then ((event_Word.f kj9 (a0 ++ (⟨#[65]⟩ : ByteArray))).bind fun t677 => (if t677 = true then (none) else ((event_Word.f kj9 (a0 ++ (⟨#[32]⟩ : ByteArray))).bind fun t678 => (if t678 = true then (none) else (some true))))) else (none)) else (none)) else (if (t676 == false) = true then (if a0.size + 1 ≤ 9223372036854775807 then ((event_Word.f kj9 (a0 ++ (⟨#[65]⟩ : ByteArray))).bind fun t679 => (if t679 = true then (none) else ((event_Word.f kj9 (a0 ++ (⟨#[32]⟩ : ByteArray))).bind fun t680 => (if t680 = true then (none) else (some true))))) else (none)) else (none)))) else (none)) else (none)))) else (none)) else (some true)) else (none))) else (none)) = some r := H
       have A14 := Aside0.mk A140
       clear A140
       by_cases c15 : t664 = true
       ·subst c15
        have H1 : ((event_Word.f kj9 (strOfNums y665)).bind fun t669 => (if (t669 == x6_6) = true then (if t668 = true then (if a0.size + (strOfNums y665).size ≤ 9223372036854775807 then ((event_Word.f kj9 (a0 ++ (strOfNums y665))).bind fun t670 => (if x7_9 = true then (if (t670 == (decide ((a0.size : Int) < 16))) = true then (if (strOfNums y665).size + a0.size ≤ 9223372036854775807 then ((event_Word.f kj9 ((strOfNums y665) ++ a0)).bind fun t671 => (if x6_6 = true then (if (t671 == (decide ((a0.size : Int) < 16))) = true then (if a0.size + 1 ≤ 9223372036854775807 then ((event_Word.f kj9 (a0 ++ (⟨#[65]⟩ : ByteArray))).bind fun t672 => (if t672 = true then (none) else ((event_Word.f kj9 (a0 ++ (⟨#[32]⟩ : ByteArray))).bind fun t673 => (if t673 = true then (none) else (some true))))) else (none)) else (none)) else (if (t671 == false) = true then (if a0.size + 1 ≤ 9223372036854775807 then ((event_Word.f kj9 (a0 ++ (⟨#[65]⟩ : ByteArray))).bind fun t674 => (if t674 = true then (none) else ((event_Word.f kj9 (a0 ++ (⟨#[32]⟩ : ByteArray))).bind fun t675 => (if t675 = true then (none) else (some true))))) else (none)) else (none)))) else (none)) else (none)) else (if (t670 == false) = true then (if (strOfNums y665).size + a0.size ≤ 9223372036854775807 then ((event_Word.f kj9 ((strOfNums y665) ++ a0)).bind fun t676 => (if x6_6 = true then (if (t676 == (decide ((a0.size : Int) < 16))) = true then (if a0.size + 1 ≤ 9223372036854775807 then ((event_Word.f kj9 (a0 ++ (⟨#[65]⟩ : ByteArray))).bind fun t677 => (if t677 = true then (none) else ((event_Word.f kj9 (a0 ++ (⟨#[32]⟩ : ByteArray))).bind fun t678 => (if t678 = true then (none) else (some true))))) else (none)) else (none)) else (if (t676 == false) = true then (if a0.size + 1 ≤ 9223372036854775807 then ((event_Word.f kj9 (a0 ++ (⟨#[65]⟩ : ByteArray))).bind fun t679 => (if t679 = true then (none) else ((event_Word.f kj9 (a0 ++ (⟨#[32]⟩ : ByteArray))).bind fun t680 => (if t680 = true then (none) else (some true))))) else (none)) else (none)))) else (none)) else (none)))) else (none)) else (some true)) else (none))) = some r := by rw [if_pos rfl] at H; exact H
        clear H
        have H := H1
        clear H1
        replace H := Option.bind_eq_some_iff.mp H
        obtain ⟨t669, A160, H⟩ := H
        replace H : (if (t669 == x6_6) = true then (if t668 = true then (if a0.size + (strOfNums y665).size ≤ 9223372036854775807 then ((event_Word.f kj9 (a0 ++ (strOfNums y665))).bind fun t670 => (if x7_9 = true then (if (t670 == (decide ((a0.size : Int) < 16))) = true then (if (strOfNums y665).size + a0.size ≤ 9223372036854775807 then ((event_Word.f kj9 ((strOfNums y665) ++ a0)).bind fun t671 => (if x6_6 = true then (if (t671 == (decide ((a0.size : Int) < 16))) = true then (if a0.size + 1 ≤ 9223372036854775807 then ((event_Word.f kj9 (a0 ++ (⟨#[65]⟩ : ByteArray))).bind fun t672 => (if t672 = true then (none) else ((event_Word.f kj9 (a0 ++ (⟨#[32]⟩ : ByteArray))).bind fun t673 => (if t673 = true then (none) else (some true))))) else (none)) else (none)) else (if (t671 == false) = true then (if a0.size + 1 ≤ 9223372036854775807 then ((event_Word.f kj9 (a0 ++ (⟨#[65]⟩ : ByteArray))).bind fun t674 => (if t674 = true then (none) else ((event_Word.f kj9 (a0 ++ (⟨#[32]⟩ : ByteArray))).bind fun t675 => (if t675 = true then (none) else (some true))))) else (none)) else (none)))) else (none)) else (none)) else (if (t670 == false) = true then (if (strOfNums y665).size + a0.size ≤ 9223372036854775807 then ((event_Word.f kj9 ((strOfNums y665) ++ a0)).bind fun t676 => (if x6_6 = true then (if (t676 == (decide ((a0.size : Int) < 16))) = true then (if a0.size + 1 ≤ 9223372036854775807 then ((event_Word.f kj9 (a0 ++ (⟨#[65]⟩ : ByteArray))).bind fun t677 => (if t677 = true then (none) else ((event_Word.f kj9 (a0 ++ (⟨#[32]⟩ : ByteArray))).bind fun t678 => (if t678 = true then (none) else (some true))))) else (none)) else (none)) else (if (t676 == false) = true then (if a0.size + 1 ≤ 9223372036854775807 then ((event_Word.f kj9 (a0 ++ (⟨#[65]⟩ : ByteArray))).bind fun t679 => (if t679 = true then (none) else ((event_Word.f kj9 (a0 ++ (⟨#[32]⟩ : ByteArray))).bind fun t680 => (if t680 = true then (none) else (some true))))) else (none)) else (none)))) else (none)) else (none)))) else (none)) else (some true)) else (none)) = some r := H
        have A16 := Aside0.mk A160
        clear A160
        by_cases c17 : (t669 == x6_6) = true
        ·rw [if_pos c17] at H
         have c17b0 : (t669 == x6_6) = true := c17
         (try (have c17b1 : decide (t669 = x6_6) = true := by simpa using c17))
         (try (have c17b2 : (t669 == x6_6) = true := by simpa using c17))
         clear c17
         by_cases c18 : t668 = true
         ·subst c18
          have H1 : (if a0.size + (strOfNums y665).size ≤ 9223372036854775807 then ((event_Word.f kj9 (a0 ++ (strOfNums y665))).bind fun t670 => (if x7_9 = true then (if (t670 == (decide ((a0.size : Int) < 16))) = true then (if (strOfNums y665).size + a0.size ≤ 9223372036854775807 then ((event_Word.f kj9 ((strOfNums y665) ++ a0)).bind fun t671 => (if x6_6 = true then (if (t671 == (decide ((a0.size : Int) < 16))) = true then (if a0.size + 1 ≤ 9223372036854775807 then ((event_Word.f kj9 (a0 ++ (⟨#[65]⟩ : ByteArray))).bind fun t672 => (if t672 = true then (none) else ((event_Word.f kj9 (a0 ++ (⟨#[32]⟩ : ByteArray))).bind fun t673 => (if t673 = true then (none) else (some true))))) else (none)) else (none)) else (if (t671 == false) = true then (if a0.size + 1 ≤ 9223372036854775807 then ((event_Word.f kj9 (a0 ++ (⟨#[65]⟩ : ByteArray))).bind fun t674 => (if t674 = true then (none) else ((event_Word.f kj9 (a0 ++ (⟨#[32]⟩ : ByteArray))).bind fun t675 => (if t675 = true then (none) else (some true))))) else (none)) else (none)))) else (none)) else (none)) else (if (t670 == false) = true then (if (strOfNums y665).size + a0.size ≤ 9223372036854775807 then ((event_Word.f kj9 ((strOfNums y665) ++ a0)).bind fun t676 => (if x6_6 = true then (if (t676 == (decide ((a0.size : Int) < 16))) = true then (if a0.size + 1 ≤ 9223372036854775807 then ((event_Word.f kj9 (a0 ++ (⟨#[65]⟩ : ByteArray))).bind fun t677 => (if t677 = true then (none) else ((event_Word.f kj9 (a0 ++ (⟨#[32]⟩ : ByteArray))).bind fun t678 => (if t678 = true then (none) else (some true))))) else (none)) else (none)) else (if (t676 == false) = true then (if a0.size + 1 ≤ 9223372036854775807 then ((event_Word.f kj9 (a0 ++ (⟨#[65]⟩ : ByteArray))).bind fun t679 => (if t679 = true then (none) else ((event_Word.f kj9 (a0 ++ (⟨#[32]⟩ : ByteArray))).bind fun t680 => (if t680 = true then (none) else (some true))))) else (none)) else (none)))) else (none)) else (none)))) else (none)) = some r := by rw [if_pos rfl] at H; exact H
          clear H
          have H := H1
          clear H1
          by_cases c19 : a0.size + (strOfNums y665).size ≤ 9223372036854775807
          ·rw [if_pos c19] at H
           have hsac19 : ∀ W : World, (Op.stringOp .add a0 (strOfNums y665)).run Try.prog W = .ok (.string (a0 ++ (strOfNums y665))) W := fun W => run_string_add_sum W a0 (strOfNums y665) c19
           clear c19
           replace H := Option.bind_eq_some_iff.mp H
           obtain ⟨t670, A200, H⟩ := H
           replace H : (if x7_9 = true then (if (t670 == (decide ((a0.size : Int) < 16))) = true then (if (strOfNums y665).size + a0.size ≤ 9223372036854775807 then ((event_Word.f kj9 ((strOfNums y665) ++ a0)).bind fun t671 => (if x6_6 = true then (if (t671 == (decide ((a0.size : Int) < 16))) = true then (if a0.size + 1 ≤ 9223372036854775807 then ((event_Word.f kj9 (a0 ++ (⟨#[65]⟩ : ByteArray))).bind fun t672 => (if t672 = true then (none) else ((event_Word.f kj9 (a0 ++ (⟨#[32]⟩ : ByteArray))).bind fun t673 => (if t673 = true then (none) else (some true))))) else (none)) else (none)) else (if (t671 == false) = true then (if a0.size + 1 ≤ 9223372036854775807 then ((event_Word.f kj9 (a0 ++ (⟨#[65]⟩ : ByteArray))).bind fun t674 => (if t674 = true then (none) else ((event_Word.f kj9 (a0 ++ (⟨#[32]⟩ : ByteArray))).bind fun t675 => (if t675 = true then (none) else (some true))))) else (none)) else (none)))) else (none)) else (none)) else (if (t670 == false) = true then (if (strOfNums y665).size + a0.size ≤ 9223372036854775807 then ((event_Word.f kj9 ((strOfNums y665) ++ a0)).bind fun t676 => (if x6_6 = true then (if (t676 == (decide ((a0.size : Int) < 16))) = true then (if a0.size + 1 ≤ 9223372036854775807 then ((event_Word.f kj9 (a0 ++ (⟨#[65]⟩ : ByteArray))).bind fun t677 => (if t677 = true then (none) else ((event_Word.f kj9 (a0 ++ (⟨#[32]⟩ : ByteArray))).bind fun t678 => (if t678 = true then (none) else (some true))))) else (none)) else (none)) else (if (t676 == false) = true then (if a0.size + 1 ≤ 9223372036854775807 then ((event_Word.f kj9 (a0 ++ (⟨#[65]⟩ : ByteArray))).bind fun t679 => (if t679 = true then (none) else ((event_Word.f kj9 (a0 ++ (⟨#[32]⟩ : ByteArray))).bind fun t680 => (if t680 = true then (none) else (some true))))) else (none)) else (none)))) else (none)) else (none))) = some r := H
           have A20 := Aside0.mk A200
           clear A200
           by_cases c21 : x7_9 = true
           ·subst c21
            have H1 : (if (t670 == (decide ((a0.size : Int) < 16))) = true then (if (strOfNums y665).size + a0.size ≤ 9223372036854775807 then ((event_Word.f kj9 ((strOfNums y665) ++ a0)).bind fun t671 => (if x6_6 = true then (if (t671 == (decide ((a0.size : Int) < 16))) = true then (if a0.size + 1 ≤ 9223372036854775807 then ((event_Word.f kj9 (a0 ++ (⟨#[65]⟩ : ByteArray))).bind fun t672 => (if t672 = true then (none) else ((event_Word.f kj9 (a0 ++ (⟨#[32]⟩ : ByteArray))).bind fun t673 => (if t673 = true then (none) else (some true))))) else (none)) else (none)) else (if (t671 == false) = true then (if a0.size + 1 ≤ 9223372036854775807 then ((event_Word.f kj9 (a0 ++ (⟨#[65]⟩ : ByteArray))).bind fun t674 => (if t674 = true then (none) else ((event_Word.f kj9 (a0 ++ (⟨#[32]⟩ : ByteArray))).bind fun t675 => (if t675 = true then (none) else (some true))))) else (none)) else (none)))) else (none)) else (none)) = some r := by rw [if_pos rfl] at H; exact H
            clear H
            have H := H1
            clear H1
            by_cases c22 : (t670 == (decide ((a0.size : Int) < 16))) = true
            ·rw [if_pos c22] at H
             have c22b0 : (t670 == (decide ((a0.size : Int) < 16))) = true := c22
             (try (have c22b1 : (t670 == (decide (a0.size < 16))) = true := by first | simpa using c22 | simpa [bne_nil_] using c22))
             (try (have c22b2 : (t670 != (decide (a0.size < 16))) = false := by first | simpa using c22 | simpa [bne_nil_] using c22))
             (try (have c22b3 : decide (t670 = (decide (a0.size < 16))) = true := by first | simpa using c22 | simpa [bne_nil_] using c22))
             (try (have c22b4 : decide (t670 = (decide ((a0.size : Int) < 16))) = true := by simpa using c22))
             (try (have c22b5 : (t670 == (decide ((a0.size : Int) < 16))) = true := by simpa using c22))
             clear c22
             by_cases c23 : (strOfNums y665).size + a0.size ≤ 9223372036854775807
             ·rw [if_pos c23] at H
              have hsac23 : ∀ W : World, (Op.stringOp .add (strOfNums y665) a0).run Try.prog W = .ok (.string ((strOfNums y665) ++ a0)) W := fun W => run_string_add_sum W (strOfNums y665) a0 c23
              clear c23
              replace H := Option.bind_eq_some_iff.mp H
              obtain ⟨t671, A240, H⟩ := H
              replace H : (if x6_6 = true then (if (t671 == (decide ((a0.size : Int) < 16))) = true then (if a0.size + 1 ≤ 9223372036854775807 then ((event_Word.f kj9 (a0 ++ (⟨#[65]⟩ : ByteArray))).bind fun t672 => (if t672 = true then (none) else ((event_Word.f kj9 (a0 ++ (⟨#[32]⟩ : ByteArray))).bind fun t673 => (if t673 = true then (none) else (some true))))) else (none)) else (none)) else (if (t671 == false) = true then (if a0.size + 1 ≤ 9223372036854775807 then ((event_Word.f kj9 (a0 ++ (⟨#[65]⟩ : ByteArray))).bind fun t674 => (if t674 = true then (none) else ((event_Word.f kj9 (a0 ++ (⟨#[32]⟩ : ByteArray))).bind fun t675 => (if t675 = true then (none) else (some true))))) else (none)) else (none))) = some r := H
              have A24 := Aside0.mk A240
              clear A240
              by_cases c25 : x6_6 = true
              ·subst c25
               have H1 : (if (t671 == (decide ((a0.size : Int) < 16))) = true then (if a0.size + 1 ≤ 9223372036854775807 then ((event_Word.f kj9 (a0 ++ (⟨#[65]⟩ : ByteArray))).bind fun t672 => (if t672 = true then (none) else ((event_Word.f kj9 (a0 ++ (⟨#[32]⟩ : ByteArray))).bind fun t673 => (if t673 = true then (none) else (some true))))) else (none)) else (none)) = some r := by rw [if_pos rfl] at H; exact H
               clear H
               have H := H1
               clear H1
               by_cases c26 : (t671 == (decide ((a0.size : Int) < 16))) = true
               ·rw [if_pos c26] at H
                have c26b0 : (t671 == (decide ((a0.size : Int) < 16))) = true := c26
                (try (have c26b1 : (t671 == (decide (a0.size < 16))) = true := by first | simpa using c26 | simpa [bne_nil_] using c26))
                (try (have c26b2 : (t671 != (decide (a0.size < 16))) = false := by first | simpa using c26 | simpa [bne_nil_] using c26))
                (try (have c26b3 : decide (t671 = (decide (a0.size < 16))) = true := by first | simpa using c26 | simpa [bne_nil_] using c26))
                (try (have c26b4 : decide (t671 = (decide ((a0.size : Int) < 16))) = true := by simpa using c26))
                (try (have c26b5 : (t671 == (decide ((a0.size : Int) < 16))) = true := by simpa using c26))
                clear c26
                by_cases c27 : a0.size + 1 ≤ 9223372036854775807
                ·rw [if_pos c27] at H
                 have c27b0 := eq_true c27
                 have c27b1 : decide (a0.size + 1 ≤ 9223372036854775807) = true := decide_eq_true c27
                 try have c27b2 : (9223372036854775807 < a0.size + 1) = False := eq_false (Nat.not_lt.2 c27)
                 replace H := Option.bind_eq_some_iff.mp H
                 obtain ⟨t672, A280, H⟩ := H
                 replace H : (if t672 = true then (none) else ((event_Word.f kj9 (a0 ++ (⟨#[32]⟩ : ByteArray))).bind fun t673 => (if t673 = true then (none) else (some true)))) = some r := H
                 have A28 := Aside0.mk A280
                 clear A280
                 by_cases c29 : t672 = true
                 ·subst c29
                  have H1 : (none) = some r := by rw [if_pos rfl] at H; exact H
                  clear H
                  have H := H1
                  clear H1
                  exact absurd H (by simp)
                 ·replace c29 := Bool.eq_false_iff.mpr c29
                  subst c29
                  have H1 : ((event_Word.f kj9 (a0 ++ (⟨#[32]⟩ : ByteArray))).bind fun t673 => (if t673 = true then (none) else (some true))) = some r := by rw [if_neg (show ¬ (false = true) by decide)] at H; exact H
                  clear H
                  have H := H1
                  clear H1
                  replace H := Option.bind_eq_some_iff.mp H
                  obtain ⟨t673, A300, H⟩ := H
                  replace H : (if t673 = true then (none) else (some true)) = some r := H
                  have A30 := Aside0.mk A300
                  clear A300
                  by_cases c31 : t673 = true
                  ·subst c31
                   have H1 : (none) = some r := by rw [if_pos rfl] at H; exact H
                   clear H
                   have H := H1
                   clear H1
                   exact absurd H (by simp)
                  ·replace c31 := Bool.eq_false_iff.mpr c31
                   subst c31
                   have H1 : (some true) = some r := by rw [if_neg (show ¬ (false = true) by decide)] at H; exact H
                   clear H
                   have H := H1
                   clear H1
                   obtain rfl := Option.some.inj H
                   go_wp2_with (first | ((with_reducible refine gate_dst (N := 35) rfl ?_); (try (refine gate_guard (by rfl) ?_; dsimp only)); refine Kd.R_lit (Kd.int .u8) _ 5 ?hg (N := 35) ?hd (xs := ([a1] : List Int)) (inner := [.int .u8 a1]) (ok := fun _ => True) (okp := fun _ => True) ?hr ?hp (fun _ hk => hk) trivial (Below.refl _ _) (Nat.le_refl _) (by simp) ?_; (case hd => rfl); (case hg => rfl); (case hr => first | (go_simp; done) | (go_simp; rfl)); (case hp => exact (Reps.one (show Kd.M (Kd.int .u8) _ _ _ a1 [.int .u8 a1] from rfl) (Reps.none _ _))); intro v666 w32 ho33 hb hg_ hnew_; clear hg_ hnew_; (first | rw [← Ny665.out] at ho33 | (simp only [Int.reduceToNat] at ho33; rw [← Ny665.out] at ho33)); have HO667 := Aside0.mk (Kd.R_lower ho33 (below_size (pl_below HB.out))); replace HB := hB HB hb; clear hb ho33; have hcv34 := own_string (P := Try.prog) Try.underlying40 Try.underlying5 Try.underlying9 (Kd.own_of_R HO667.out)) | ((with_reducible refine gate_callee (f := 23) rfl ?_); refine goesL_ (some 38) rfl rfl Try.func23 (by kernel_rfl) rfl #[.string a0] rfl (by (try simp only [List.map_toArray, List.map_cons, List.map_nil]); first | done | rfl | (simp only [List.length_drop, List.length_take]; rfl)) ?_; (with_reducible refine (event_Word.calls kj9 a0 true _ A14.out).mono ?_); rintro e w' ⟨rfl, ⟨nd, rfl⟩⟩; refine ⟨_, rfl, ?_⟩) | (go_at_call 23; (with_reducible refine (event_Word.calls kj9 (strOfNums y665) t669 _ A16.out).mono ?_); rintro e w' ⟨rfl, ⟨nd, rfl⟩⟩) | (go_at_call 23; (with_reducible refine (event_Word.calls kj9 (a0 ++ (strOfNums y665)) t670 _ A20.out).mono ?_); rintro e w' ⟨rfl, ⟨nd, rfl⟩⟩) | (go_at_call 23; (with_reducible refine (event_Word.calls kj9 ((strOfNums y665) ++ a0) t671 _ A24.out).mono ?_); rintro e w' ⟨rfl, ⟨nd, rfl⟩⟩) | (go_at_call 23; (with_reducible refine (event_Word.calls kj9 (a0 ++ (⟨#[65]⟩ : ByteArray)) false _ A28.out).mono ?_); rintro e w' ⟨rfl, ⟨nd, rfl⟩⟩) | (go_at_call 23; (with_reducible refine (event_Word.calls kj9 (a0 ++ (⟨#[32]⟩ : ByteArray)) false _ A30.out).mono ?_); rintro e w' ⟨rfl, ⟨nd, rfl⟩⟩))
                   go_ret
                   exact ⟨by first | rfl | (simp [errW_none, errW_some] <;> rfl) | (simp [*, errW_none, errW_some] <;> rfl), pl_below HB.out⟩
                ·rw [if_neg c27] at H
                 exact absurd H (by simp)
               ·rw [if_neg c26] at H
                exact absurd H (by simp)
              ·replace c25 := Bool.eq_false_iff.mpr c25
               subst c25
               have H1 : (if (t671 == false) = true then (if a0.size + 1 ≤ 9223372036854775807 then ((event_Word.f kj9 (a0 ++ (⟨#[65]⟩ : ByteArray))).bind fun t674 => (if t674 = true then (none) else ((event_Word.f kj9 (a0 ++ (⟨#[32]⟩ : ByteArray))).bind fun t675 => (if t675 = true then (none) else (some true))))) else (none)) else (none)) = some r := by rw [if_neg (show ¬ (false = true) by decide)] at H; exact H
               clear H
               have H := H1
               clear H1
               by_cases c35 : (t671 == false) = true
               ·rw [if_pos c35] at H
                have c35b0 : (t671 == false) = true := c35
                (try (have c35b1 : t671 = false := by simpa using c35))
                (try (have c35b2 : decide (t671 = false) = true := by simpa using c35))
                (try (have c35b3 : (t671 == false) = true := by simpa using c35))
                clear c35
                by_cases c36 : a0.size + 1 ≤ 9223372036854775807
                ·rw [if_pos c36] at H
                 have c36b0 := eq_true c36
                 have c36b1 : decide (a0.size + 1 ≤ 9223372036854775807) = true := decide_eq_true c36
                 try have c36b2 : (9223372036854775807 < a0.size + 1) = False := eq_false (Nat.not_lt.2 c36)
                 replace H := Option.bind_eq_some_iff.mp H
                 obtain ⟨t674, A370, H⟩ := H
                 replace H : (if t674 = true then (none) else ((event_Word.f kj9 (a0 ++ (⟨#[32]⟩ : ByteArray))).bind fun t675 => (if t675 = true then (none) else (some true)))) = some r := H
                 have A37 := Aside0.mk A370
                 clear A370
                 by_cases c38 : t674 = true
                 ·subst c38
                  have H1 : (none) = some r := by rw [if_pos rfl] at H; exact H
                  clear H
                  have H := H1
                  clear H1
                  exact absurd H (by simp)
                 ·replace c38 := Bool.eq_false_iff.mpr c38
                  subst c38
                  have H1 : ((event_Word.f kj9 (a0 ++ (⟨#[32]⟩ : ByteArray))).bind fun t675 => (if t675 = true then (none) else (some true))) = some r := by rw [if_neg (show ¬ (false = true) by decide)] at H; exact H
                  clear H
                  have H := H1
                  clear H1
                  replace H := Option.bind_eq_some_iff.mp H
                  obtain ⟨t675, A390, H⟩ := H
                  replace H : (if t675 = true then (none) else (some true)) = some r := H
                  have A39 := Aside0.mk A390
                  clear A390
                  by_cases c40 : t675 = true
                  ·subst c40
                   have H1 : (none) = some r := by rw [if_pos rfl] at H; exact H
                   clear H
                   have H := H1
                   clear H1
                   exact absurd H (by simp)
                  ·replace c40 := Bool.eq_false_iff.mpr c40
                   subst c40
                   have H1 : (some true) = some r := by rw [if_neg (show ¬ (false = true) by decide)] at H; exact H
                   clear H
                   have H := H1
                   clear H1
                   obtain rfl := Option.some.inj H
                   go_wp2_with (first | ((with_reducible refine gate_dst (N := 35) rfl ?_); (try (refine gate_guard (by rfl) ?_; dsimp only)); refine Kd.R_lit (Kd.int .u8) _ 5 ?hg (N := 35) ?hd (xs := ([a1] : List Int)) (inner := [.int .u8 a1]) (ok := fun _ => True) (okp := fun _ => True) ?hr ?hp (fun _ hk => hk) trivial (Below.refl _ _) (Nat.le_refl _) (by simp) ?_; (case hd => rfl); (case hg => rfl); (case hr => first | (go_simp; done) | (go_simp; rfl)); (case hp => exact (Reps.one (show Kd.M (Kd.int .u8) _ _ _ a1 [.int .u8 a1] from rfl) (Reps.none _ _))); intro v666 w41 ho42 hb hg_ hnew_; clear hg_ hnew_; (first | rw [← Ny665.out] at ho42 | (simp only [Int.reduceToNat] at ho42; rw [← Ny665.out] at ho42)); have HO667 := Aside0.mk (Kd.R_lower ho42 (below_size (pl_below HB.out))); replace HB := hB HB hb; clear hb ho42; have hcv43 := own_string (P := Try.prog) Try.underlying40 Try.underlying5 Try.underlying9 (Kd.own_of_R HO667.out)) | ((with_reducible refine gate_callee (f := 23) rfl ?_); refine goesL_ (some 38) rfl rfl Try.func23 (by kernel_rfl) rfl #[.string a0] rfl (by (try simp only [List.map_toArray, List.map_cons, List.map_nil]); first | done | rfl | (simp only [List.length_drop, List.length_take]; rfl)) ?_; (with_reducible refine (event_Word.calls kj9 a0 true _ A14.out).mono ?_); rintro e w' ⟨rfl, ⟨nd, rfl⟩⟩; refine ⟨_, rfl, ?_⟩) | (go_at_call 23; (with_reducible refine (event_Word.calls kj9 (strOfNums y665) t669 _ A16.out).mono ?_); rintro e w' ⟨rfl, ⟨nd, rfl⟩⟩) | (go_at_call 23; (with_reducible refine (event_Word.calls kj9 (a0 ++ (strOfNums y665)) t670 _ A20.out).mono ?_); rintro e w' ⟨rfl, ⟨nd, rfl⟩⟩) | (go_at_call 23; (with_reducible refine (event_Word.calls kj9 ((strOfNums y665) ++ a0) t671 _ A24.out).mono ?_); rintro e w' ⟨rfl, ⟨nd, rfl⟩⟩) | (go_at_call 23; (with_reducible refine (event_Word.calls kj9 (a0 ++ (⟨#[65]⟩ : ByteArray)) false _ A37.out).mono ?_); rintro e w' ⟨rfl, ⟨nd, rfl⟩⟩) | (go_at_call 23; (with_reducible refine (event_Word.calls kj9 (a0 ++ (⟨#[32]⟩ : ByteArray)) false _ A39.out).mono ?_); rintro e w' ⟨rfl, ⟨nd, rfl⟩⟩))
                   go_ret
                   exact ⟨by first | rfl | (simp [errW_none, errW_some] <;> rfl) | (simp [*, errW_none, errW_some] <;> rfl), pl_below HB.out⟩
                ·rw [if_neg c36] at H
                 exact absurd H (by simp)
               ·rw [if_neg c35] at H
                exact absurd H (by simp)
             ·rw [if_neg c23] at H
              exact absurd H (by simp)
            ·rw [if_neg c22] at H
             exact absurd H (by simp)
           ·replace c21 := Bool.eq_false_iff.mpr c21
            subst c21
            have H1 : (if (t670 == false) = true then (if (strOfNums y665).size + a0.size ≤ 9223372036854775807 then ((event_Word.f kj9 ((strOfNums y665) ++ a0)).bind fun t676 => (if x6_6 = true then (if (t676 == (decide ((a0.size : Int) < 16))) = true then (if a0.size + 1 ≤ 9223372036854775807 then ((event_Word.f kj9 (a0 ++ (⟨#[65]⟩ : ByteArray))).bind fun t677 => (if t677 = true then (none) else ((event_Word.f kj9 (a0 ++ (⟨#[32]⟩ : ByteArray))).bind fun t678 => (if t678 = true then (none) else (some true))))) else (none)) else (none)) else (if (t676 == false) = true then (if a0.size + 1 ≤ 9223372036854775807 then ((event_Word.f kj9 (a0 ++ (⟨#[65]⟩ : ByteArray))).bind fun t679 => (if t679 = true then (none) else ((event_Word.f kj9 (a0 ++ (⟨#[32]⟩ : ByteArray))).bind fun t680 => (if t680 = true then (none) else (some true))))) else (none)) else (none)))) else (none)) else (none)) = some r := by rw [if_neg (show ¬ (false = true) by decide)] at H; exact H
            clear H
            have H := H1
            clear H1
            by_cases c44 : (t670 == false) = true
            ·rw [if_pos c44] at H
             have c44b0 : (t670 == false) = true := c44
             (try (have c44b1 : t670 = false := by simpa using c44))
             (try (have c44b2 : decide (t670 = false) = true := by simpa using c44))
             (try (have c44b3 : (t670 == false) = true := by simpa using c44))
             clear c44
             by_cases c45 : (strOfNums y665).size + a0.size ≤ 9223372036854775807
             ·rw [if_pos c45] at H
              have hsac45 : ∀ W : World, (Op.stringOp .add (strOfNums y665) a0).run Try.prog W = .ok (.string ((strOfNums y665) ++ a0)) W := fun W => run_string_add_sum W (strOfNums y665) a0 c45
              clear c45
              replace H := Option.bind_eq_some_iff.mp H
              obtain ⟨t676, A460, H⟩ := H
              replace H : (if x6_6 = true then (if (t676 == (decide ((a0.size : Int) < 16))) = true then (if a0.size + 1 ≤ 9223372036854775807 then ((event_Word.f kj9 (a0 ++ (⟨#[65]⟩ : ByteArray))).bind fun t677 => (if t677 = true then (none) else ((event_Word.f kj9 (a0 ++ (⟨#[32]⟩ : ByteArray))).bind fun t678 => (if t678 = true then (none) else (some true))))) else (none)) else (none)) else (if (t676 == false) = true then (if a0.size + 1 ≤ 9223372036854775807 then ((event_Word.f kj9 (a0 ++ (⟨#[65]⟩ : ByteArray))).bind fun t679 => (if t679 = true then (none) else ((event_Word.f kj9 (a0 ++ (⟨#[32]⟩ : ByteArray))).bind fun t680 => (if t680 = true then (none) else (some true))))) else (none)) else (none))) = some r := H
              have A46 := Aside0.mk A460
              clear A460
              by_cases c47 : x6_6 = true
              ·subst c47
               have H1 : (if (t676 == (decide ((a0.size : Int) < 16))) = true then (if a0.size + 1 ≤ 9223372036854775807 then ((event_Word.f kj9 (a0 ++ (⟨#[65]⟩ : ByteArray))).bind fun t677 => (if t677 = true then (none) else ((event_Word.f kj9 (a0 ++ (⟨#[32]⟩ : ByteArray))).bind fun t678 => (if t678 = true then (none) else (some true))))) else (none)) else (none)) = some r := by rw [if_pos rfl] at H; exact H
               clear H
               have H := H1
               clear H1
               by_cases c48 : (t676 == (decide ((a0.size : Int) < 16))) = true
               ·rw [if_pos c48] at H
                have c48b0 : (t676 == (decide ((a0.size : Int) < 16))) = true := c48
                (try (have c48b1 : (t676 == (decide (a0.size < 16))) = true := by first | simpa using c48 | simpa [bne_nil_] using c48))
                (try (have c48b2 : (t676 != (decide (a0.size < 16))) = false := by first | simpa using c48 | simpa [bne_nil_] using c48))
                (try (have c48b3 : decide (t676 = (decide (a0.size < 16))) = true := by first | simpa using c48 | simpa [bne_nil_] using c48))
                (try (have c48b4 : decide (t676 = (decide ((a0.size : Int) < 16))) = true := by simpa using c48))
                (try (have c48b5 : (t676 == (decide ((a0.size : Int) < 16))) = true := by simpa using c48))
                clear c48
                by_cases c49 : a0.size + 1 ≤ 9223372036854775807
                ·rw [if_pos c49] at H
                 have c49b0 := eq_true c49
                 have c49b1 : decide (a0.size + 1 ≤ 9223372036854775807) = true := decide_eq_true c49
                 try have c49b2 : (9223372036854775807 < a0.size + 1) = False := eq_false (Nat.not_lt.2 c49)
                 replace H := Option.bind_eq_some_iff.mp H
                 obtain ⟨t677, A500, H⟩ := H
                 replace H : (if t677 = true then (none) else ((event_Word.f kj9 (a0 ++ (⟨#[32]⟩ : ByteArray))).bind fun t678 => (if t678 = true then (none) else (some true)))) = some r := H
                 have A50 := Aside0.mk A500
                 clear A500
                 by_cases c51 : t677 = true
                 ·subst c51
                  have H1 : (none) = some r := by rw [if_pos rfl] at H; exact H
                  clear H
                  have H := H1
                  clear H1
                  exact absurd H (by simp)
                 ·replace c51 := Bool.eq_false_iff.mpr c51
                  subst c51
                  have H1 : ((event_Word.f kj9 (a0 ++ (⟨#[32]⟩ : ByteArray))).bind fun t678 => (if t678 = true then (none) else (some true))) = some r := by rw [if_neg (show ¬ (false = true) by decide)] at H; exact H
                  clear H
                  have H := H1
                  clear H1
                  replace H := Option.bind_eq_some_iff.mp H
                  obtain ⟨t678, A520, H⟩ := H
                  replace H : (if t678 = true then (none) else (some true)) = some r := H
                  have A52 := Aside0.mk A520
                  clear A520
                  by_cases c53 : t678 = true
                  ·subst c53
                   have H1 : (none) = some r := by rw [if_pos rfl] at H; exact H
                   clear H
                   have H := H1
                   clear H1
                   exact absurd H (by simp)
                  ·replace c53 := Bool.eq_false_iff.mpr c53
                   subst c53
                   have H1 : (some true) = some r := by rw [if_neg (show ¬ (false = true) by decide)] at H; exact H
                   clear H
                   have H := H1
                   clear H1
                   obtain rfl := Option.some.inj H
                   go_wp2_with (first | ((with_reducible refine gate_dst (N := 35) rfl ?_); (try (refine gate_guard (by rfl) ?_; dsimp only)); refine Kd.R_lit (Kd.int .u8) _ 5 ?hg (N := 35) ?hd (xs := ([a1] : List Int)) (inner := [.int .u8 a1]) (ok := fun _ => True) (okp := fun _ => True) ?hr ?hp (fun _ hk => hk) trivial (Below.refl _ _) (Nat.le_refl _) (by simp) ?_; (case hd => rfl); (case hg => rfl); (case hr => first | (go_simp; done) | (go_simp; rfl)); (case hp => exact (Reps.one (show Kd.M (Kd.int .u8) _ _ _ a1 [.int .u8 a1] from rfl) (Reps.none _ _))); intro v666 w54 ho55 hb hg_ hnew_; clear hg_ hnew_; (first | rw [← Ny665.out] at ho55 | (simp only [Int.reduceToNat] at ho55; rw [← Ny665.out] at ho55)); have HO667 := Aside0.mk (Kd.R_lower ho55 (below_size (pl_below HB.out))); replace HB := hB HB hb; clear hb ho55; have hcv56 := own_string (P := Try.prog) Try.underlying40 Try.underlying5 Try.underlying9 (Kd.own_of_R HO667.out)) | ((with_reducible refine gate_callee (f := 23) rfl ?_); refine goesL_ (some 38) rfl rfl Try.func23 (by kernel_rfl) rfl #[.string a0] rfl (by (try simp only [List.map_toArray, List.map_cons, List.map_nil]); first | done | rfl | (simp only [List.length_drop, List.length_take]; rfl)) ?_; (with_reducible refine (event_Word.calls kj9 a0 true _ A14.out).mono ?_); rintro e w' ⟨rfl, ⟨nd, rfl⟩⟩; refine ⟨_, rfl, ?_⟩) | (go_at_call 23; (with_reducible refine (event_Word.calls kj9 (strOfNums y665) t669 _ A16.out).mono ?_); rintro e w' ⟨rfl, ⟨nd, rfl⟩⟩) | (go_at_call 23; (with_reducible refine (event_Word.calls kj9 (a0 ++ (strOfNums y665)) t670 _ A20.out).mono ?_); rintro e w' ⟨rfl, ⟨nd, rfl⟩⟩) | (go_at_call 23; (with_reducible refine (event_Word.calls kj9 ((strOfNums y665) ++ a0) t676 _ A46.out).mono ?_); rintro e w' ⟨rfl, ⟨nd, rfl⟩⟩) | (go_at_call 23; (with_reducible refine (event_Word.calls kj9 (a0 ++ (⟨#[65]⟩ : ByteArray)) false _ A50.out).mono ?_); rintro e w' ⟨rfl, ⟨nd, rfl⟩⟩) | (go_at_call 23; (with_reducible refine (event_Word.calls kj9 (a0 ++ (⟨#[32]⟩ : ByteArray)) false _ A52.out).mono ?_); rintro e w' ⟨rfl, ⟨nd, rfl⟩⟩))
                   go_ret
                   exact ⟨by first | rfl | (simp [errW_none, errW_some] <;> rfl) | (simp [*, errW_none, errW_some] <;> rfl), pl_below HB.out⟩
                ·rw [if_neg c49] at H
                 exact absurd H (by simp)
               ·rw [if_neg c48] at H
                exact absurd H (by simp)
              ·replace c47 := Bool.eq_false_iff.mpr c47
               subst c47
               have H1 : (if (t676 == false) = true then (if a0.size + 1 ≤ 9223372036854775807 then ((event_Word.f kj9 (a0 ++ (⟨#[65]⟩ : ByteArray))).bind fun t679 => (if t679 = true then (none) else ((event_Word.f kj9 (a0 ++ (⟨#[32]⟩ : ByteArray))).bind fun t680 => (if t680 = true then (none) else (some true))))) else (none)) else (none)) = some r := by rw [if_neg (show ¬ (false = true) by decide)] at H; exact H
               clear H
               have H := H1
               clear H1
               by_cases c57 : (t676 == false) = true
               ·rw [if_pos c57] at H
                have c57b0 : (t676 == false) = true := c57
                (try (have c57b1 : t676 = false := by simpa using c57))
                (try (have c57b2 : decide (t676 = false) = true := by simpa using c57))
                (try (have c57b3 : (t676 == false) = true := by simpa using c57))
                clear c57
                by_cases c58 : a0.size + 1 ≤ 9223372036854775807
                ·rw [if_pos c58] at H
                 have c58b0 := eq_true c58
                 have c58b1 : decide (a0.size + 1 ≤ 9223372036854775807) = true := decide_eq_true c58
                 try have c58b2 : (9223372036854775807 < a0.size + 1) = False := eq_false (Nat.not_lt.2 c58)
                 replace H := Option.bind_eq_some_iff.mp H
                 obtain ⟨t679, A590, H⟩ := H
                 replace H : (if t679 = true then (none) else ((event_Word.f kj9 (a0 ++ (⟨#[32]⟩ : ByteArray))).bind fun t680 => (if t680 = true then (none) else (some true)))) = some r := H
                 have A59 := Aside0.mk A590
                 clear A590
                 by_cases c60 : t679 = true
                 ·subst c60
                  have H1 : (none) = some r := by rw [if_pos rfl] at H; exact H
                  clear H
                  have H := H1
                  clear H1
                  exact absurd H (by simp)
                 ·replace c60 := Bool.eq_false_iff.mpr c60
                  subst c60
                  have H1 : ((event_Word.f kj9 (a0 ++ (⟨#[32]⟩ : ByteArray))).bind fun t680 => (if t680 = true then (none) else (some true))) = some r := by rw [if_neg (show ¬ (false = true) by decide)] at H; exact H
                  clear H
                  have H := H1
                  clear H1
                  replace H := Option.bind_eq_some_iff.mp H
                  obtain ⟨t680, A610, H⟩ := H
                  replace H : (if t680 = true then (none) else (some true)) = some r := H
                  have A61 := Aside0.mk A610
                  clear A610
                  by_cases c62 : t680 = true
                  ·subst c62
                   have H1 : (none) = some r := by rw [if_pos rfl] at H; exact H
                   clear H
                   have H := H1
                   clear H1
                   exact absurd H (by simp)
                  ·replace c62 := Bool.eq_false_iff.mpr c62
                   subst c62
                   have H1 : (some true) = some r := by rw [if_neg (show ¬ (false = true) by decide)] at H; exact H
                   clear H
                   have H := H1
                   clear H1
                   obtain rfl := Option.some.inj H
                   go_wp2_with (first | ((with_reducible refine gate_dst (N := 35) rfl ?_); (try (refine gate_guard (by rfl) ?_; dsimp only)); refine Kd.R_lit (Kd.int .u8) _ 5 ?hg (N := 35) ?hd (xs := ([a1] : List Int)) (inner := [.int .u8 a1]) (ok := fun _ => True) (okp := fun _ => True) ?hr ?hp (fun _ hk => hk) trivial (Below.refl _ _) (Nat.le_refl _) (by simp) ?_; (case hd => rfl); (case hg => rfl); (case hr => first | (go_simp; done) | (go_simp; rfl)); (case hp => exact (Reps.one (show Kd.M (Kd.int .u8) _ _ _ a1 [.int .u8 a1] from rfl) (Reps.none _ _))); intro v666 w63 ho64 hb hg_ hnew_; clear hg_ hnew_; (first | rw [← Ny665.out] at ho64 | (simp only [Int.reduceToNat] at ho64; rw [← Ny665.out] at ho64)); have HO667 := Aside0.mk (Kd.R_lower ho64 (below_size (pl_below HB.out))); replace HB := hB HB hb; clear hb ho64; have hcv65 := own_string (P := Try.prog) Try.underlying40 Try.underlying5 Try.underlying9 (Kd.own_of_R HO667.out)) | ((with_reducible refine gate_callee (f := 23) rfl ?_); refine goesL_ (some 38) rfl rfl Try.func23 (by kernel_rfl) rfl #[.string a0] rfl (by (try simp only [List.map_toArray, List.map_cons, List.map_nil]); first | done | rfl | (simp only [List.length_drop, List.length_take]; rfl)) ?_; (with_reducible refine (event_Word.calls kj9 a0 true _ A14.out).mono ?_); rintro e w' ⟨rfl, ⟨nd, rfl⟩⟩; refine ⟨_, rfl, ?_⟩) | (go_at_call 23; (with_reducible refine (event_Word.calls kj9 (strOfNums y665) t669 _ A16.out).mono ?_); rintro e w' ⟨rfl, ⟨nd, rfl⟩⟩) | (go_at_call 23; (with_reducible refine (event_Word.calls kj9 (a0 ++ (strOfNums y665)) t670 _ A20.out).mono ?_); rintro e w' ⟨rfl, ⟨nd, rfl⟩⟩) | (go_at_call 23; (with_reducible refine (event_Word.calls kj9 ((strOfNums y665) ++ a0) t676 _ A46.out).mono ?_); rintro e w' ⟨rfl, ⟨nd, rfl⟩⟩) | (go_at_call 23; (with_reducible refine (event_Word.calls kj9 (a0 ++ (⟨#[65]⟩ : ByteArray)) false _ A59.out).mono ?_); rintro e w' ⟨rfl, ⟨nd, rfl⟩⟩) | (go_at_call 23; (with_reducible refine (event_Word.calls kj9 (a0 ++ (⟨#[32]⟩ : ByteArray)) false _ A61.out).mono ?_); rintro e w' ⟨rfl, ⟨nd, rfl⟩⟩))
                   go_ret
                   exact ⟨by first | rfl | (simp [errW_none, errW_some] <;> rfl) | (simp [*, errW_none, errW_some] <;> rfl), pl_below HB.out⟩
                ·rw [if_neg c58] at H
                 exact absurd H (by simp)
               ·rw [if_neg c57] at H
                exact absurd H (by simp)
             ·rw [if_neg c45] at H
              exact absurd H (by simp)
            ·rw [if_neg c44] at H
             exact absurd H (by simp)
          ·rw [if_neg c19] at H
           exact absurd H (by simp)
         ·replace c18 := Bool.eq_false_iff.mpr c18
          subst c18
          have H1 : (some true) = some r := by rw [if_neg (show ¬ (false = true) by decide)] at H; exact H
          clear H
          have H := H1
          clear H1
          obtain rfl := Option.some.inj H
          go_wp2_with (first | ((with_reducible refine gate_dst (N := 35) rfl ?_); (try (refine gate_guard (by rfl) ?_; dsimp only)); refine Kd.R_lit (Kd.int .u8) _ 5 ?hg (N := 35) ?hd (xs := ([a1] : List Int)) (inner := [.int .u8 a1]) (ok := fun _ => True) (okp := fun _ => True) ?hr ?hp (fun _ hk => hk) trivial (Below.refl _ _) (Nat.le_refl _) (by simp) ?_; (case hd => rfl); (case hg => rfl); (case hr => first | (go_simp; done) | (go_simp; rfl)); (case hp => exact (Reps.one (show Kd.M (Kd.int .u8) _ _ _ a1 [.int .u8 a1] from rfl) (Reps.none _ _))); intro v666 w66 ho67 hb hg_ hnew_; clear hg_ hnew_; (first | rw [← Ny665.out] at ho67 | (simp only [Int.reduceToNat] at ho67; rw [← Ny665.out] at ho67)); have HO667 := Aside0.mk (Kd.R_lower ho67 (below_size (pl_below HB.out))); replace HB := hB HB hb; clear hb ho67; have hcv68 := own_string (P := Try.prog) Try.underlying40 Try.underlying5 Try.underlying9 (Kd.own_of_R HO667.out)) | ((with_reducible refine gate_callee (f := 23) rfl ?_); refine goesL_ (some 38) rfl rfl Try.func23 (by kernel_rfl) rfl #[.string a0] rfl (by (try simp only [List.map_toArray, List.map_cons, List.map_nil]); first | done | rfl | (simp only [List.length_drop, List.length_take]; rfl)) ?_; (with_reducible refine (event_Word.calls kj9 a0 false _ A14.out).mono ?_); rintro e w' ⟨rfl, ⟨nd, rfl⟩⟩; refine ⟨_, rfl, ?_⟩) | (go_at_call 23; (with_reducible refine (event_Word.calls kj9 (strOfNums y665) t669 _ A16.out).mono ?_); rintro e w' ⟨rfl, ⟨nd, rfl⟩⟩))
          go_ret
          exact ⟨by first | rfl | (simp [errW_none, errW_some] <;> rfl) | (simp [*, errW_none, errW_some] <;> rfl), pl_below HB.out⟩
        ·rw [if_neg c17] at H
         exact absurd H (by simp)
       ·replace c15 := Bool.eq_false_iff.mpr c15
        subst c15
        have H1 : (none) = some r := by rw [if_neg (show ¬ (false = true) by decide)] at H; exact H
        clear H
        have H := H1
        clear H1
        exact absurd H (by simp)

/-- THE ONE PURE STATEMENT of augurylaw05_EventWords: yours. -/
def augurylaw05_EventWords.Pure : Prop := ∀ (a0 : ByteArray) (a1 : Int), a0.size ≤ 140737488351232 → (Lit.int .u8 a1).wf = true → ∃ k, augurylaw05_EventWords.f k a0 a1 = some true
theorem augurylaw05_EventWords.walk (P : augurylaw05_EventWords.Pure) (a0 : ByteArray) (a1 : Int) (w : World) (w0 : a0.size ≤ 140737488351232) (w1 : (Lit.int .u8 a1).wf = true) :
    Calls Try.prog 8 #[.string a0, .int .u8 a1] w fun e w' => e = .returned (.bool true) ∧ Below w.heap.size w w' := by
  obtain ⟨k, h⟩ := P a0 a1 w0 w1
  refine (augurylaw05_EventWords.calls k a0 a1 true w h).mono ?_
  rintro e w' ⟨rfl, hd⟩
  exact ⟨rfl, hd⟩

end Go.Proofs.Ytbnjhmcbkocdjaa.PAll
