/- Written by this session's own program (wip/xprint): functions of the Go program as Lean functions, and proofs that the Go code computes them. -/
import Derived.Test.YtkljljjmphneiaaPAllx0
import Derived.Test.YtkljljjmphneiaaPAllx20
import Derived.Test.YtkljljjmphneiaaPAllx22
import Derived.Test.YtkljljjmphneiaaPAllx23
import Derived.Test.YtkljljjmphneiaaPAllx27
import Derived.Test.YtkljljjmphneiaaPAllx29
import Derived.Test.YtkljljjmphneiaaPAllx30
namespace Go.Proofs.Ytkljljjmphneiaa.PAll
open Go.RowKit Go.Proofs.YtkljljjmphneiaaW.PrintWords Go.Proofs.YtkljljjmphneiaaW.PrintLast Go.Proofs.YtkljljjmphneiaaW.PrintMore
attribute [local go_sem] max2_int min2_int max_two min_two max_three min_three max_four min_four   -- for this text's walks alone
set_option linter.unusedVariables false
set_option linter.unusedSimpArgs false

/-! ### augurylaw02_FrameBack: function 4 -/
mutual
def augurylaw02_FrameBack.l0 : Nat → List ByteArray → Bool → List ByteArray → Int → Option (Bool)
  | 0, _, _, _, _ => none
  | k + 1, x0, x3, x4, x5 => if x5 < (x0.length : Int) then (if 0 ≤ x5 then ((frame_Put.f k (rdOf ByteArray.empty x0 x5)).bind fun t242 => (if (((t242.length : Int) == 0) != (decide (((rdOf ByteArray.empty x0 x5).size : Int) > 4096))) = true then (augurylaw02_FrameBack.j1 k x0 x3 x4 x5 t242 true) else (if (t242.length : Int) > 0 then (augurylaw02_FrameBack.j1 k x0 x3 x4 x5 t242 ((t242.length : Int) != (wrap64 (((rdOf ByteArray.empty x0 x5).size : Int) + 5)))) else (augurylaw02_FrameBack.j1 k x0 x3 x4 x5 t242 false)))) else (none)) else ((augurylaw02_all.f k x0).bind fun t233 => ((frame_Cut.f k t233).bind fun bt236 => (if x3 = true then ((auguryref02_Same.f k bt236.1 x4).bind fun t240 => (if t240 = true then (if bt236.2 = (t233.length : Int) then (some true) else (none)) else (none))) else (none))))
def augurylaw02_FrameBack.j1 : Nat → List ByteArray → Bool → List ByteArray → Int → List Int → Bool → Option (Bool)
  | 0, _, _, _, _, _, _ => none
  | k + 1, x0, x3, x4, x5, x6, x50 => if x50 = true then (none) else (if (x6.length : Int) > 0 then (if 0 ≤ x5 then (if x5 < (x0.length : Int) then (if x4.length < 8796093022208 then (augurylaw02_FrameBack.l0 k x0 x3 (x4 ++ [rdOf ByteArray.empty x0 x5]) (wrap64 (x5 + 1))) else (none)) else (none)) else (none)) else (augurylaw02_FrameBack.l0 k x0 x3 x4 (wrap64 (x5 + 1))))
end
def augurylaw02_FrameBack.f (k : Nat) (l0 : List ByteArray) : Option (Bool) := (augurylaw02_head.f k).bind fun t231 => ((augurylaw02_great.f k l0).bind fun t232 => (if t232 = true then (if t231 = true then (some true) else (none)) else (augurylaw02_FrameBack.l0 k l0 t231 ([] : List ByteArray) 0)))
theorem augurylaw02_FrameBack.mono_l : ∀ k, (∀ y0 y1 y2 y3, LeO (augurylaw02_FrameBack.l0 k y0 y1 y2 y3) (augurylaw02_FrameBack.l0 (k + 1) y0 y1 y2 y3)) ∧ (∀ y0 y1 y2 y3 y4 y5, LeO (augurylaw02_FrameBack.j1 k y0 y1 y2 y3 y4 y5) (augurylaw02_FrameBack.j1 (k + 1) y0 y1 y2 y3 y4 y5))
  | 0 => ⟨fun _ _ _ _ r h => by simp [augurylaw02_FrameBack.l0] at h, fun _ _ _ _ _ _ r h => by simp [augurylaw02_FrameBack.j1] at h⟩
  | k + 1 => by
    obtain ⟨ih0, ih1⟩ := augurylaw02_FrameBack.mono_l k
    refine ⟨?_, ?_⟩
    · intro y0 y1 y2 y3
      unfold augurylaw02_FrameBack.l0
      repeat' first
      | (with_reducible exact ih0 _ _ _ _)
      | (with_reducible exact ih1 _ _ _ _ _ _)
      | (with_reducible exact augurylaw02_all.mono _ _)
      | (with_reducible exact augurylaw02_great.mono _ _)
      | (with_reducible exact augurylaw02_head.mono _)
      | (with_reducible exact auguryref02_Same.mono _ _ _)
      | (with_reducible exact frame_Cut.mono _ _)
      | (with_reducible exact frame_Put.mono _ _)
      | (with_reducible exact LeO.refl _)
      | (with_reducible exact LeO.none _)
      | (with_reducible refine LeO.ite ?_ ?_)
      | (with_reducible refine LeO.bind ?_ (fun _ => ?_))
      | exact ih0 _ _ _ _
      | exact ih1 _ _ _ _ _ _
      | exact augurylaw02_all.mono _ _
      | exact augurylaw02_great.mono _ _
      | exact augurylaw02_head.mono _
      | exact auguryref02_Same.mono _ _ _
      | exact frame_Cut.mono _ _
      | exact frame_Put.mono _ _
      | exact LeO.none _
      | refine LeO.ite ?_ ?_
      | refine LeO.bind ?_ (fun _ => ?_)
    · intro y0 y1 y2 y3 y4 y5
      unfold augurylaw02_FrameBack.j1
      repeat' first
      | (with_reducible exact ih0 _ _ _ _)
      | (with_reducible exact ih1 _ _ _ _ _ _)
      | (with_reducible exact augurylaw02_all.mono _ _)
      | (with_reducible exact augurylaw02_great.mono _ _)
      | (with_reducible exact augurylaw02_head.mono _)
      | (with_reducible exact auguryref02_Same.mono _ _ _)
      | (with_reducible exact frame_Cut.mono _ _)
      | (with_reducible exact frame_Put.mono _ _)
      | (with_reducible exact LeO.refl _)
      | (with_reducible exact LeO.none _)
      | (with_reducible refine LeO.ite ?_ ?_)
      | (with_reducible refine LeO.bind ?_ (fun _ => ?_))
      | exact ih0 _ _ _ _
      | exact ih1 _ _ _ _ _ _
      | exact augurylaw02_all.mono _ _
      | exact augurylaw02_great.mono _ _
      | exact augurylaw02_head.mono _
      | exact auguryref02_Same.mono _ _ _
      | exact frame_Cut.mono _ _
      | exact frame_Put.mono _ _
      | exact LeO.none _
      | refine LeO.ite ?_ ?_
      | refine LeO.bind ?_ (fun _ => ?_)
theorem augurylaw02_FrameBack.mono : ∀ a0 k, LeO (augurylaw02_FrameBack.f k a0) (augurylaw02_FrameBack.f (k + 1) a0) := by
  intro a0 k
  obtain ⟨ih0, ih1⟩ := augurylaw02_FrameBack.mono_l k
  unfold augurylaw02_FrameBack.f
  repeat' first
      | (with_reducible exact ih0 _ _ _ _)
      | (with_reducible exact ih1 _ _ _ _ _ _)
      | (with_reducible exact augurylaw02_all.mono _ _)
      | (with_reducible exact augurylaw02_great.mono _ _)
      | (with_reducible exact augurylaw02_head.mono _)
      | (with_reducible exact auguryref02_Same.mono _ _ _)
      | (with_reducible exact frame_Cut.mono _ _)
      | (with_reducible exact frame_Put.mono _ _)
      | (with_reducible exact LeO.refl _)
      | (with_reducible exact LeO.none _)
      | (with_reducible refine LeO.ite ?_ ?_)
      | (with_reducible refine LeO.bind ?_ (fun _ => ?_))
      | exact ih0 _ _ _ _
      | exact ih1 _ _ _ _ _ _
      | exact augurylaw02_all.mono _ _
      | exact augurylaw02_great.mono _ _
      | exact augurylaw02_head.mono _
      | exact auguryref02_Same.mono _ _ _
      | exact frame_Cut.mono _ _
      | exact frame_Put.mono _ _
      | exact LeO.none _
      | refine LeO.ite ?_ ?_
      | refine LeO.bind ?_ (fun _ => ?_)
set_option maxHeartbeats 8000000 in
set_option maxRecDepth 100000 in
theorem augurylaw02_FrameBack.calls (k : Nat) (A0 : Option Addr) (c0 : Nat) (l0 : List ByteArray) (r : Bool) (w : World) (hr0 : Kd.C Kd.string w A0 l0.length l0) (hc0 : l0.length ≤ c0) (h : augurylaw02_FrameBack.f k l0 = some r) :
    Calls Try.prog 4 #[.slice A0 l0.length c0] w fun e w' => e = .returned (.bool r) ∧ Below w.heap.size w w' := by
  have HR0 := Aside0.mk hr0
  have HC0 := Aside0.mk hc0
  clear hr0 hc0
  have HB := Aside0.mk (Below.refl w.heap.size w)
  have H : ((augurylaw02_head.f k).bind fun t231 => ((augurylaw02_great.f k l0).bind fun t232 => (if t232 = true then (if t231 = true then (some true) else (none)) else (augurylaw02_FrameBack.l0 k l0 t231 ([] : List ByteArray) 0)))) = some r := h
  clear h
  replace H := Option.bind_eq_some_iff.mp H
  obtain ⟨t231, A20, H⟩ := H
  replace H : ((augurylaw02_great.f k l0).bind fun t232 => (if t232 = true then (if t231 = true then (some true) else (none)) else (augurylaw02_FrameBack.l0 k l0 t231 ([] : List ByteArray) 0))) = some r := H
  have A2 := Aside0.mk A20
  clear A20
  replace H := Option.bind_eq_some_iff.mp H
  obtain ⟨t232, A30, H⟩ := H
  replace H : (if t232 = true then (if t231 = true then (some true) else (none)) else (augurylaw02_FrameBack.l0 k l0 t231 ([] : List ByteArray) 0)) = some r := H
  have A3 := Aside0.mk A30
  clear A30
  by_cases c4 : t232 = true
  · subst c4
    have H1 : (if t231 = true then (some true) else (none)) = some r := by rw [if_pos rfl] at H; exact H
    clear H
    have H := H1
    clear H1
    by_cases c5 : t231 = true
    · subst c5
      have H1 : (some true) = some r := by rw [if_pos rfl] at H; exact H
      clear H
      have H := H1
      clear H1
      obtain rfl := Option.some.inj H
      go_enter Try.func4, Try.ntmps4
      go_wp2_with (first | ((with_reducible refine gate_callee (f := 9) rfl ?_); refine goesL_ (some 10) rfl rfl Try.func9 (by kernel_rfl) rfl #[] rfl (by (try simp only [List.map_toArray, List.map_cons, List.map_nil]); first | done | rfl | (simp only [List.length_drop, List.length_take]; rfl)) ?_; (with_reducible refine (augurylaw02_head.calls k  true _ A2.out).mono ?_); rintro e w6 ⟨rfl, hb⟩; refine ⟨_, rfl, ?_⟩; have n0_ := Aside0.mk (below_step (by repeat (first | (with_reducible first | exact HB.out | apply below_alloc | apply pw_below_drewN | apply below_drew1) | exact HB.out)) hb); clear HB; have HB := n0_; clear n0_; (try clear hb); (try clear hb2); (try clear hk); (try clear hi)) | ((with_reducible refine gate_callee (f := 17) rfl ?_); refine goesL_ (some 12) rfl rfl Try.func17 (by kernel_rfl) rfl #[.slice A0 l0.length c0] rfl (by (try simp only [List.map_toArray, List.map_cons, List.map_nil]); first | done | rfl | (simp only [List.length_drop, List.length_take]; rfl)) ?_; (with_reducible refine (augurylaw02_great.calls k _ _ l0 true _ ?side1 ?side2 A3.out).mono ?_); (case side1 => repeat (first | exact (Kd.C_below HR0.out HB.out) | (with_reducible refine Kd.C_alloc ?_ _) | (with_reducible refine Kd.C_drewN ?_ _) | (with_reducible refine Kd.C_drew ?_))); (case side2 => exact HC0.out); rintro e w7 ⟨rfl, hb⟩; refine ⟨_, rfl, ?_⟩; have n0_ := Aside0.mk (below_step (by repeat (first | (with_reducible first | exact HB.out | apply below_alloc | apply pw_below_drewN | apply below_drew1) | exact HB.out)) hb); clear HB; have HB := n0_; clear n0_; (try clear hb); (try clear hb2); (try clear hk); (try clear hi)))
      go_ret
      exact ⟨by first | rfl | (simp [errW_none, errW_some] <;> rfl) | (simp [*, errW_none, errW_some] <;> rfl), by repeat (first | (with_reducible first | exact HB.out | apply below_alloc | apply pw_below_drewN | apply below_drew1) | exact HB.out)⟩
    · replace c5 := Bool.eq_false_iff.mpr c5
      subst c5
      have H1 : (none) = some r := by rw [if_neg (show ¬ (false = true) by decide)] at H; exact H
      clear H
      have H := H1
      clear H1
      exact absurd H (by simp)
  · replace c4 := Bool.eq_false_iff.mpr c4
    subst c4
    have H1 : (augurylaw02_FrameBack.l0 k l0 t231 ([] : List ByteArray) 0) = some r := by rw [if_neg (show ¬ (false = true) by decide)] at H; exact H
    clear H
    have H := H1
    clear H1
    have H' := Aside0.mk H
    clear H
    go_enter Try.func4, Try.ntmps4
    go_wp2_with (first | ((with_reducible refine gate_callee (f := 9) rfl ?_); refine goesL_ (some 10) rfl rfl Try.func9 (by kernel_rfl) rfl #[] rfl (by (try simp only [List.map_toArray, List.map_cons, List.map_nil]); first | done | rfl | (simp only [List.length_drop, List.length_take]; rfl)) ?_; (with_reducible refine (augurylaw02_head.calls k  t231 _ A2.out).mono ?_); rintro e w8 ⟨rfl, hb⟩; refine ⟨_, rfl, ?_⟩; have n0_ := Aside0.mk (below_step (by repeat (first | (with_reducible first | exact HB.out | apply below_alloc | apply pw_below_drewN | apply below_drew1) | exact HB.out)) hb); clear HB; have HB := n0_; clear n0_; (try clear hb); (try clear hb2); (try clear hk); (try clear hi)) | ((with_reducible refine gate_callee (f := 17) rfl ?_); refine goesL_ (some 12) rfl rfl Try.func17 (by kernel_rfl) rfl #[.slice A0 l0.length c0] rfl (by (try simp only [List.map_toArray, List.map_cons, List.map_nil]); first | done | rfl | (simp only [List.length_drop, List.length_take]; rfl)) ?_; (with_reducible refine (augurylaw02_great.calls k _ _ l0 false _ ?side1 ?side2 A3.out).mono ?_); (case side1 => repeat (first | exact (Kd.C_below HR0.out HB.out) | (with_reducible refine Kd.C_alloc ?_ _) | (with_reducible refine Kd.C_drewN ?_ _) | (with_reducible refine Kd.C_drew ?_))); (case side2 => exact HC0.out); rintro e w9 ⟨rfl, hb⟩; refine ⟨_, rfl, ?_⟩; have n0_ := Aside0.mk (below_step (by repeat (first | (with_reducible first | exact HB.out | apply below_alloc | apply pw_below_drewN | apply below_drew1) | exact HB.out)) hb); clear HB; have HB := n0_; clear n0_; (try clear hb); (try clear hb2); (try clear hk); (try clear hi)))
    go_loopg [4, 5] k (fun kq v4 v5 w' => ∃ (x4_1 : List ByteArray) (x5_1 : Int), v5 = .int .i64 x5_1 ∧ Aside0 (augurylaw02_FrameBack.l0 kq l0 t231 x4_1 x5_1 = some r) ∧ Aside0 (kq ≤ k) ∧ Aside0 (Kd.R Kd.string 9 w' w.heap.size (fun _ => True) v4 x4_1) ∧ Aside0 (Below w.heap.size w w'))
    case atStart => exact ⟨(([] : List ByteArray)), (0), (by first | rfl | (simp; done) | (simp [*]; done) | grind), H', ⟨Nat.le_refl _⟩, ⟨by first | exact Kd.R_nil _ _ _ _ _ | exact Kd.N_nil _ _ _ _ _ | exact Kd.V_nil _ _ _ _ _ | exact Kd.Q_nil _ _ _ _ _ | exact Kd.S_nil _ _ _ _ _⟩, ⟨by repeat (first | (with_reducible first | exact HB.out | apply below_alloc | apply pw_below_drewN | apply below_drew1) | exact HB.out)⟩⟩
    case round =>
      clear H'
      try clear c1
      try clear p2
      try clear c4
      try clear c5
      try clear c9
      obtain ⟨x4_1, x5_1, rfl, HA, HK1, HO_4, HB⟩ := hrel
      cases gk with
      | zero => exact absurd HA.out (by simp [augurylaw02_FrameBack.l0])
      | succ k1 =>
        have H := HA.out
        clear HA
        simp only [augurylaw02_FrameBack.l0] at H
        by_cases c10 : x5_1 < (l0.length : Int)
        · rw [if_pos c10] at H
          have c10b0 : decide (x5_1 < (l0.length : Int)) = true := decide_eq_true c10
          clear c10
          by_cases c11 : 0 ≤ x5_1
          · rw [if_pos c11] at H
            have c11b0 : decide (0 ≤ x5_1) = true := decide_eq_true c11
            clear c11
            replace H := Option.bind_eq_some_iff.mp H
            obtain ⟨t242, A120, H⟩ := H
            replace H : (if (((t242.length : Int) == 0) != (decide (((rdOf ByteArray.empty l0 x5_1).size : Int) > 4096))) = true then (augurylaw02_FrameBack.j1 k1 l0 t231 x4_1 x5_1 t242 true) else (if (t242.length : Int) > 0 then (augurylaw02_FrameBack.j1 k1 l0 t231 x4_1 x5_1 t242 ((t242.length : Int) != (wrap64 (((rdOf ByteArray.empty l0 x5_1).size : Int) + 5)))) else (augurylaw02_FrameBack.j1 k1 l0 t231 x4_1 x5_1 t242 false))) = some r := H
            have A12 := Aside0.mk A120
            clear A120
            have HC13 := Aside0.mk H
            clear H
            have p241 : 0 ≤ (x5_1 : Int) := of_decide_eq_true (by first | (with_reducible assumption) | assumption)
            have q241 : x5_1 < (l0.length : Int) := of_decide_eq_true (by first | (with_reducible assumption) | assumption)
            obtain ⟨ad241, e241, hx241_0⟩ := Kd.at_string HR0.out x5_1 p241 q241
            cases e241
            replace hx241_0 := (HB.out.cell (World.block_lt_of_cell? w _ hx241_0)).trans hx241_0
            replace p241 := eq_true p241
            replace q241 := eq_true q241
            go_upto_region 9 with (first | ((with_reducible refine gate_callee (f := 14) rfl ?_); refine goesL_ (some 24) rfl rfl Try.func14 (by kernel_rfl) rfl #[.string (rdOf ByteArray.empty l0 x5_1)] rfl (by (try simp only [List.map_toArray, List.map_cons, List.map_nil]); first | done | rfl | (simp only [List.length_drop, List.length_take]; rfl)) ?_; (with_reducible refine (frame_Put.calls k1 (rdOf ByteArray.empty l0 x5_1) t242 _ A12.out).mono ?_); rintro e w14 ⟨v243, rfl, ho0, hb⟩; refine ⟨_, rfl, ?_⟩; have n0_ := Aside0.mk (Kd.R_below (by (with_reducible repeat (first | apply Kd.R_alloc | apply Kd.R_drewN | apply Kd.R_drew)); exact HO_4.out) hb); have n1_ := Aside0.mk (Kd.R_lower ho0 (below_size (by repeat (first | (with_reducible first | exact HB.out | apply below_alloc | apply pw_below_drewN | apply below_drew1) | exact HB.out)))); have n2_ := Aside0.mk (below_step (by repeat (first | (with_reducible first | exact HB.out | apply below_alloc | apply pw_below_drewN | apply below_drew1) | exact HB.out)) hb); clear HO_4; clear HB; have HO_4 := n0_; have HO244 := n1_; have HB := n2_; clear n0_ n1_ n2_; (try clear hb); (try clear hb2); (try clear hk); (try clear hi); (try clear ho0)))
            (try simp only [Act.put, List.setIfInBounds_toArray, List.set_cons_zero, List.set_cons_succ])
            go_cut [50] (fun v50 wc => ∃ (kq : Nat) (x50_12 : Bool), v50 = .bool x50_12 ∧ Aside0 (augurylaw02_FrameBack.j1 kq l0 t231 x4_1 x5_1 t242 x50_12 = some r) ∧ Aside0 (kq ≤ k1) ∧ Aside0 (Kd.R Kd.string 9 wc w.heap.size (fun _ => True) u4 x4_1) ∧ Aside0 (Kd.R (Kd.int .u8) 5 wc w.heap.size (fun _ => True) v243 t242) ∧ Aside0 (Below w.heap.size w wc))
            case first =>
              have H := HC13.out
              clear HC13
              by_cases c15 : (((t242.length : Int) == 0) != (decide (((rdOf ByteArray.empty l0 x5_1).size : Int) > 4096))) = true
              · rw [if_pos c15] at H
                have c15b0 : (((t242.length : Int) == 0) != (decide (((rdOf ByteArray.empty l0 x5_1).size : Int) > 4096))) = true := c15
                (try (have c15b1 : (((t242.length : Int) == 0) != (decide (4096 < ((rdOf ByteArray.empty l0 x5_1).size : Int)))) = true := by first | simpa using c15 | simpa [bne_nil_] using c15))
                (try (have c15b2 : decide (((t242.length : Int) == 0) = (decide (4096 < ((rdOf ByteArray.empty l0 x5_1).size : Int)))) = false := by first | simpa using c15 | simpa [bne_nil_] using c15))
                (try (have c15b3 : ¬ (((t242.length : Int) == 0) = (decide (4096 < ((rdOf ByteArray.empty l0 x5_1).size : Int)))) := by first | simpa using c15 | simpa [bne_nil_] using c15))
                (try (have c15b4 : ((t242.length == 0) != (decide (4096 < ((rdOf ByteArray.empty l0 x5_1).size : Int)))) = true := by first | simpa using c15 | simpa [bne_nil_] using c15))
                (try (have c15b5 : decide ((t242.length == 0) = (decide (4096 < ((rdOf ByteArray.empty l0 x5_1).size : Int)))) = false := by first | simpa using c15 | simpa [bne_nil_] using c15))
                (try (have c15b6 : ¬ ((t242.length == 0) = (decide (4096 < ((rdOf ByteArray.empty l0 x5_1).size : Int)))) := by first | simpa using c15 | simpa [bne_nil_] using c15))
                (try (have c15b7 : decide (((t242.length : Int) == 0) = (decide (((rdOf ByteArray.empty l0 x5_1).size : Int) > 4096))) = false := by simpa using c15))
                (try (have c15b8 : (((t242.length : Int) == 0) == (decide (((rdOf ByteArray.empty l0 x5_1).size : Int) > 4096))) = false := by simpa using c15))
                (try (have c15b9 : ¬ (((t242.length : Int) == 0) = (decide (((rdOf ByteArray.empty l0 x5_1).size : Int) > 4096))) := by simpa using c15))
                clear c15
                (first | rw [c15b0] | (simp only [i64_w, i32_w]; rw [c15b0]) | skip)
                have H' := Aside0.mk H
                clear H
                obtain ⟨Ao16, co16, eo16⟩ := Kd.R_slice HO244.out
                subst eo16
                have p245 : 0 ≤ (x5_1 : Int) := of_decide_eq_true (by first | (with_reducible assumption) | assumption)
                have q245 : x5_1 < (l0.length : Int) := of_decide_eq_true (by first | (with_reducible assumption) | assumption)
                obtain ⟨ad245, e245, hx245_0⟩ := Kd.at_string HR0.out x5_1 p245 q245
                obtain rfl : ad241 = ad245 := (by injection e245)
                replace hx245_0 := (HB.out.cell (World.block_lt_of_cell? w _ hx245_0)).trans hx245_0
                replace p245 := eq_true p245
                replace q245 := eq_true q245
                go_wp2
                go_meet
                case rel => exact ⟨_, (true), (by first | rfl | (simp; done) | (simp [*]; done) | grind), H', ⟨by have := HK1.out; first | omega | exact Nat.le_refl _⟩, ⟨by (with_reducible repeat (first | apply Kd.R_alloc | apply Kd.R_drewN | apply Kd.R_drew)); exact HO_4.out⟩, ⟨by (with_reducible repeat (first | apply Kd.R_alloc | apply Kd.R_drewN | apply Kd.R_drew)); exact HO244.out⟩, ⟨by repeat (first | (with_reducible first | exact HB.out | apply below_alloc | apply pw_below_drewN | apply below_drew1) | exact HB.out)⟩⟩
              · rw [if_neg c15] at H
                have c15b0 : (((t242.length : Int) == 0) != (decide (((rdOf ByteArray.empty l0 x5_1).size : Int) > 4096))) = false := by simpa using c15
                (try (have c15b1 : (((t242.length : Int) == 0) != (decide (4096 < ((rdOf ByteArray.empty l0 x5_1).size : Int)))) = false := by first | simpa using c15 | simpa [bne_nil_] using c15))
                (try (have c15b2 : decide (((t242.length : Int) == 0) = (decide (4096 < ((rdOf ByteArray.empty l0 x5_1).size : Int)))) = true := by first | simpa using c15 | simpa [bne_nil_] using c15))
                (try (have c15b3 : ((t242.length == 0) != (decide (4096 < ((rdOf ByteArray.empty l0 x5_1).size : Int)))) = false := by first | simpa using c15 | simpa [bne_nil_] using c15))
                (try (have c15b4 : decide ((t242.length == 0) = (decide (4096 < ((rdOf ByteArray.empty l0 x5_1).size : Int)))) = true := by first | simpa using c15 | simpa [bne_nil_] using c15))
                (try (have c15b5 : decide (((t242.length : Int) == 0) = (decide (((rdOf ByteArray.empty l0 x5_1).size : Int) > 4096))) = true := by simpa using c15))
                (try (have c15b6 : (((t242.length : Int) == 0) == (decide (((rdOf ByteArray.empty l0 x5_1).size : Int) > 4096))) = true := by simpa using c15))
                clear c15
                (first | rw [c15b0] | (simp only [i64_w, i32_w]; rw [c15b0]) | skip)
                by_cases c17 : (t242.length : Int) > 0
                · rw [if_pos c17] at H
                  have c17b0 : decide (0 < (t242.length : Int)) = true := decide_eq_true c17
                  have c17b1 : decide (0 < t242.length) = true := decide_eq_true (by omega)
                  clear c17
                  have H' := Aside0.mk H
                  clear H
                  obtain ⟨Ao18, co18, eo18⟩ := Kd.R_slice HO244.out
                  subst eo18
                  have p245 : 0 ≤ (x5_1 : Int) := of_decide_eq_true (by first | (with_reducible assumption) | assumption)
                  have q245 : x5_1 < (l0.length : Int) := of_decide_eq_true (by first | (with_reducible assumption) | assumption)
                  obtain ⟨ad245, e245, hx245_0⟩ := Kd.at_string HR0.out x5_1 p245 q245
                  obtain rfl : ad241 = ad245 := (by injection e245)
                  replace hx245_0 := (HB.out.cell (World.block_lt_of_cell? w _ hx245_0)).trans hx245_0
                  replace p245 := eq_true p245
                  replace q245 := eq_true q245
                  have p246 : 0 ≤ (x5_1 : Int) := of_decide_eq_true (by first | (with_reducible assumption) | assumption)
                  have q246 : x5_1 < (l0.length : Int) := of_decide_eq_true (by first | (with_reducible assumption) | assumption)
                  obtain ⟨ad246, e246, hx246_0⟩ := Kd.at_string HR0.out x5_1 p246 q246
                  obtain rfl : ad241 = ad246 := (by injection e246)
                  replace hx246_0 := (HB.out.cell (World.block_lt_of_cell? w _ hx246_0)).trans hx246_0
                  replace p246 := eq_true p246
                  replace q246 := eq_true q246
                  go_wp2
                  go_meet
                  case rel => exact ⟨_, (((t242.length : Int) != (wrap64 (((rdOf ByteArray.empty l0 x5_1).size : Int) + 5)))), (by first | rfl | (simp; done) | (simp [*]; done) | grind), H', ⟨by have := HK1.out; first | omega | exact Nat.le_refl _⟩, ⟨by (with_reducible repeat (first | apply Kd.R_alloc | apply Kd.R_drewN | apply Kd.R_drew)); exact HO_4.out⟩, ⟨by (with_reducible repeat (first | apply Kd.R_alloc | apply Kd.R_drewN | apply Kd.R_drew)); exact HO244.out⟩, ⟨by repeat (first | (with_reducible first | exact HB.out | apply below_alloc | apply pw_below_drewN | apply below_drew1) | exact HB.out)⟩⟩
                · rw [if_neg c17] at H
                  have c17b0 : decide (0 < (t242.length : Int)) = false := decide_eq_false c17
                  have c17b1 : decide (0 < t242.length) = false := decide_eq_false (by omega)
                  clear c17
                  have H' := Aside0.mk H
                  clear H
                  obtain ⟨Ao19, co19, eo19⟩ := Kd.R_slice HO244.out
                  subst eo19
                  have p245 : 0 ≤ (x5_1 : Int) := of_decide_eq_true (by first | (with_reducible assumption) | assumption)
                  have q245 : x5_1 < (l0.length : Int) := of_decide_eq_true (by first | (with_reducible assumption) | assumption)
                  obtain ⟨ad245, e245, hx245_0⟩ := Kd.at_string HR0.out x5_1 p245 q245
                  obtain rfl : ad241 = ad245 := (by injection e245)
                  replace hx245_0 := (HB.out.cell (World.block_lt_of_cell? w _ hx245_0)).trans hx245_0
                  replace p245 := eq_true p245
                  replace q245 := eq_true q245
                  go_wp2
                  go_meet
                  case rel => exact ⟨_, (false), (by first | rfl | (simp; done) | (simp [*]; done) | grind), H', ⟨by have := HK1.out; first | omega | exact Nat.le_refl _⟩, ⟨by (with_reducible repeat (first | apply Kd.R_alloc | apply Kd.R_drewN | apply Kd.R_drew)); exact HO_4.out⟩, ⟨by (with_reducible repeat (first | apply Kd.R_alloc | apply Kd.R_drewN | apply Kd.R_drew)); exact HO244.out⟩, ⟨by repeat (first | (with_reducible first | exact HB.out | apply below_alloc | apply pw_below_drewN | apply below_drew1) | exact HB.out)⟩⟩
            case rest =>
              clear HC13
              try clear c1
              try clear p2
              try clear q2
              try clear hx2
              try clear c4
              try clear c5
              try clear p6
              try clear c9
              try clear c10
              try clear c10b0
              try clear c11
              try clear c11b0
              try clear c14
              try clear c15
              try clear c15b0
              try clear c15b1
              try clear c15b2
              try clear c17
              try clear c17b0
              try clear c17b1
              try clear hx241_0
              try clear hx245_0
              try clear hx246_0
              try clear p2
              try clear p241
              try clear p245
              try clear p246
              try clear q241
              try clear q245
              try clear q246
              obtain ⟨kq, x50_12, rfl, HA, HJ12, HO_4, HO_6, HB⟩ := hcut
              cases kq with
              | zero => exact absurd HA.out (by simp [augurylaw02_FrameBack.j1])
              | succ kj12 =>
                have H := HA.out
                clear HA
                simp only [augurylaw02_FrameBack.j1] at H
                by_cases c20 : x50_12 = true
                · subst c20
                  have H1 : (none) = some r := by rw [if_pos rfl] at H; exact H
                  clear H
                  have H := H1
                  clear H1
                  exact absurd H (by simp)
                · replace c20 := Bool.eq_false_iff.mpr c20
                  subst c20
                  have H1 : (if (t242.length : Int) > 0 then (if 0 ≤ x5_1 then (if x5_1 < (l0.length : Int) then (if x4_1.length < 8796093022208 then (augurylaw02_FrameBack.l0 kj12 l0 t231 (x4_1 ++ [rdOf ByteArray.empty l0 x5_1]) (wrap64 (x5_1 + 1))) else (none)) else (none)) else (none)) else (augurylaw02_FrameBack.l0 kj12 l0 t231 x4_1 (wrap64 (x5_1 + 1)))) = some r := by rw [if_neg (show ¬ (false = true) by decide)] at H; exact H
                  clear H
                  have H := H1
                  clear H1
                  by_cases c21 : (t242.length : Int) > 0
                  · rw [if_pos c21] at H
                    have c21b0 : decide (0 < (t242.length : Int)) = true := decide_eq_true c21
                    have c21b1 : decide (0 < t242.length) = true := decide_eq_true (by omega)
                    clear c21
                    by_cases c22 : 0 ≤ x5_1
                    · rw [if_pos c22] at H
                      have c22b0 : decide (0 ≤ x5_1) = true := decide_eq_true c22
                      clear c22
                      by_cases c23 : x5_1 < (l0.length : Int)
                      · rw [if_pos c23] at H
                        have c23b0 : decide (x5_1 < (l0.length : Int)) = true := decide_eq_true c23
                        clear c23
                        by_cases c24 : x4_1.length < 8796093022208
                        · rw [if_pos c24] at H
                          have LMc24 := Aside0.mk c24
                          clear c24
                          obtain ⟨y248, hy248⟩ : ∃ y_ : List ByteArray, y_ = (x4_1 ++ [rdOf ByteArray.empty l0 x5_1]) := ⟨_, rfl⟩
                          replace H : (augurylaw02_FrameBack.l0 kj12 l0 t231 y248 (wrap64 (x5_1 + 1))) = some r := by first | (rw [hy248]; with_reducible exact H) | (have H2_ := (Option.bind_some _ _).symm.trans H; rw [hy248]; with_reducible exact H2_) | (have H2_ := (Option.bind_some _ _).symm.trans H; with_reducible exact H2_) | with_reducible exact H | (rw [hy248]; exact H) | exact H
                          have Ny248 := Aside0.mk hy248
                          clear hy248
                          have H' := Aside0.mk H
                          clear H
                          obtain ⟨Ao25, co25, eo25⟩ := Kd.R_slice HO_6.out
                          subst eo25
                          have p247 : 0 ≤ (x5_1 : Int) := of_decide_eq_true (by first | (with_reducible assumption) | assumption)
                          have q247 : x5_1 < (l0.length : Int) := of_decide_eq_true (by first | (with_reducible assumption) | assumption)
                          obtain ⟨ad247, e247, hx247_0⟩ := Kd.at_string HR0.out x5_1 p247 q247
                          obtain rfl : ad241 = ad247 := (by injection e247)
                          replace hx247_0 := (HB.out.cell (World.block_lt_of_cell? w _ hx247_0)).trans hx247_0
                          replace p247 := eq_true p247
                          replace q247 := eq_true q247
                          go_wp2_with (first | ((with_reducible refine gate_builtin (b := .append) (xs := #[.tmp 54, .tmp 59]) rfl ?_); (try (refine gate_guard (by rfl) ?_; dsimp only)); at_builtin; refine Kd.R_append Kd.string (w0 := w) w.heap.size rfl (.tmp 54) (.tmp 59) 24 9 (.string ⟨#[]⟩) 16 rfl Try.underlying24 info9 rfl (by decide) (by omega) u4 x4_1 (rdOf ByteArray.empty l0 x5_1) [.string (rdOf ByteArray.empty l0 x5_1)] (fun _ => True) (fun _ => False) rfl rfl ?aP (fun _ hk => hk.elim) ?aF ?aO ?aB ?aS ?aL ?_; (case aP => exact rfl); (case aB => exact (by repeat (first | (with_reducible first | exact HB.out | apply below_alloc | apply pw_below_drewN | apply below_drew1) | exact HB.out))); (case aF => exact (fun _ _ => trivial)); (case aO => exact (by (with_reducible repeat (first | apply Kd.R_alloc | apply Kd.R_drewN | apply Kd.R_drew)); exact HO_4.out)); (case aS => exact (below_size (by repeat (first | (with_reducible first | exact HB.out | apply below_alloc | apply pw_below_drewN | apply below_drew1) | exact HB.out)))); (case aL => have := LMc24.out; omega); intro v249 w26 ho hb hg hat; rw [← Ny248.out] at ho; have n0_ := Aside0.mk (Kd.R_over' (by (with_reducible repeat (first | apply Kd.R_alloc | apply Kd.R_drewN | apply Kd.R_drew)); exact HO_6.out) (Kd.R_typed (by (with_reducible repeat (first | apply Kd.R_alloc | apply Kd.R_drewN | apply Kd.R_drew)); exact HO_4.out)) (by decide) hg); have n1_ := Aside0.mk (hb); have n2_ := Aside0.mk (ho); clear HO_6; clear HB; clear HO_4; have HO_6 := n0_; have HB := n1_; have HO250 := n2_; clear n0_ n1_ n2_; clear ho hb hg hat))
                          go_roundg kj12
                          case measure => have := HK1.out; have := HJ12.out; omega
                          case rel => exact ⟨(y248), (wrap64 (x5_1 + 1)), (by first | rfl | (simp; done) | (simp [*]; done) | grind), H', ⟨by have := HK1.out; have := HJ12.out; omega⟩, ⟨by (with_reducible repeat (first | apply Kd.R_alloc | apply Kd.R_drewN | apply Kd.R_drew)); exact HO250.out⟩, ⟨by repeat (first | (with_reducible first | exact HB.out | apply below_alloc | apply pw_below_drewN | apply below_drew1) | exact HB.out)⟩⟩
                        · rw [if_neg c24] at H
                          exact absurd H (by simp)
                      · rw [if_neg c23] at H
                        exact absurd H (by simp)
                    · rw [if_neg c22] at H
                      exact absurd H (by simp)
                  · rw [if_neg c21] at H
                    have c21b0 : decide (0 < (t242.length : Int)) = false := decide_eq_false c21
                    have c21b1 : decide (0 < t242.length) = false := decide_eq_false (by omega)
                    clear c21
                    have H' := Aside0.mk H
                    clear H
                    obtain ⟨Ao27, co27, eo27⟩ := Kd.R_slice HO_6.out
                    subst eo27
                    go_wp2
                    go_roundg kj12
                    case measure => have := HK1.out; have := HJ12.out; omega
                    case rel => exact ⟨(x4_1), (wrap64 (x5_1 + 1)), (by first | rfl | (simp; done) | (simp [*]; done) | grind), H', ⟨by have := HK1.out; have := HJ12.out; omega⟩, ⟨by (with_reducible repeat (first | apply Kd.R_alloc | apply Kd.R_drewN | apply Kd.R_drew)); exact HO_4.out⟩, ⟨by repeat (first | (with_reducible first | exact HB.out | apply below_alloc | apply pw_below_drewN | apply below_drew1) | exact HB.out)⟩⟩
          · rw [if_neg c11] at H
            exact absurd H (by simp)
        · rw [if_neg c10] at H
          have c10b0 : decide (x5_1 < (l0.length : Int)) = false := decide_eq_false c10
          clear c10
          replace H := Option.bind_eq_some_iff.mp H
          obtain ⟨t233, A280, H⟩ := H
          replace H : ((frame_Cut.f k1 t233).bind fun bt236 => (if t231 = true then ((auguryref02_Same.f k1 bt236.1 x4_1).bind fun t240 => (if t240 = true then (if bt236.2 = (t233.length : Int) then (some true) else (none)) else (none))) else (none))) = some r := H
          have A28 := Aside0.mk A280
          clear A280
          replace H := Option.bind_eq_some_iff.mp H
          obtain ⟨⟨t236, t237⟩, A290, H⟩ := H
          replace H : (if t231 = true then ((auguryref02_Same.f k1 t236 x4_1).bind fun t240 => (if t240 = true then (if t237 = (t233.length : Int) then (some true) else (none)) else (none))) else (none)) = some r := H
          have A29 := Aside0.mk A290
          clear A290
          by_cases c30 : t231 = true
          · subst c30
            have H1 : ((auguryref02_Same.f k1 t236 x4_1).bind fun t240 => (if t240 = true then (if t237 = (t233.length : Int) then (some true) else (none)) else (none))) = some r := by rw [if_pos rfl] at H; exact H
            clear H
            have H := H1
            clear H1
            replace H := Option.bind_eq_some_iff.mp H
            obtain ⟨t240, A310, H⟩ := H
            replace H : (if t240 = true then (if t237 = (t233.length : Int) then (some true) else (none)) else (none)) = some r := H
            have A31 := Aside0.mk A310
            clear A310
            by_cases c32 : t240 = true
            · subst c32
              have H1 : (if t237 = (t233.length : Int) then (some true) else (none)) = some r := by rw [if_pos rfl] at H; exact H
              clear H
              have H := H1
              clear H1
              by_cases c33 : t237 = (t233.length : Int)
              · rw [if_pos c33] at H
                have c33b0 : (t237 == (t233.length : Int)) = true := beq_iff_eq.mpr c33
                have c33b1 : (t237 != (t233.length : Int)) = false := bne_eq_false_iff_eq.mpr c33
                clear c33
                obtain rfl := Option.some.inj H
                go_wp2_with (first | ((with_reducible refine gate_callee (f := 18) rfl ?_); refine goesL_ (some 62) rfl rfl Try.func18 (by kernel_rfl) rfl #[.slice A0 l0.length c0] rfl (by (try simp only [List.map_toArray, List.map_cons, List.map_nil]); first | done | rfl | (simp only [List.length_drop, List.length_take]; rfl)) ?_; (with_reducible refine (augurylaw02_all.calls k1 _ _ l0 t233 _ ?side1 ?side2 A28.out).mono ?_); (case side1 => repeat (first | exact (Kd.C_below HR0.out HB.out) | (with_reducible refine Kd.C_alloc ?_ _) | (with_reducible refine Kd.C_drewN ?_ _) | (with_reducible refine Kd.C_drew ?_))); (case side2 => exact HC0.out); rintro e w34 ⟨v234, rfl, ho0, hb⟩; refine ⟨_, rfl, ?_⟩; have n0_ := Aside0.mk (Kd.R_below (by (with_reducible repeat (first | apply Kd.R_alloc | apply Kd.R_drewN | apply Kd.R_drew)); exact HO_4.out) hb); have n1_ := Aside0.mk (Kd.R_lower ho0 (below_size (by repeat (first | (with_reducible first | exact HB.out | apply below_alloc | apply pw_below_drewN | apply below_drew1) | exact HB.out)))); have n2_ := Aside0.mk (below_step (by repeat (first | (with_reducible first | exact HB.out | apply below_alloc | apply pw_below_drewN | apply below_drew1) | exact HB.out)) hb); clear HO_4; clear HB; have HO_4 := n0_; have HO235 := n1_; have HB := n2_; clear n0_ n1_ n2_; (try clear hb); (try clear hb2); (try clear hk); (try clear hi); (try clear ho0); obtain ⟨Ao35, co35, eo35⟩ := Kd.R_slice HO235.out; subst eo35) | ((with_reducible refine gate_callee (f := 10) rfl ?_); refine goesL_ (some 65) rfl rfl Try.func10 (by kernel_rfl) rfl #[.slice Ao35 t233.length co35] rfl (by (try simp only [List.map_toArray, List.map_cons, List.map_nil]); first | done | rfl | (simp only [List.length_drop, List.length_take]; rfl)) ?_; (with_reducible refine (frame_Cut.calls k1 _ _ t233 t236 t237 _ ?side1 ?side2 A29.out).mono ?_); (case side1 => repeat (first | exact (Kd.R_reads' HO235.out).2.2 | (with_reducible refine Kd.C_alloc ?_ _) | (with_reducible refine Kd.C_drewN ?_ _) | (with_reducible refine Kd.C_drew ?_))); (case side2 => exact (Kd.R_reads' HO235.out).2.1); rintro e w36 ⟨v238, rfl, ho0, hb⟩; refine ⟨_, rfl, ?_⟩; have n0_ := Aside0.mk (Kd.R_elder' (by (with_reducible repeat (first | apply Kd.R_alloc | apply Kd.R_drewN | apply Kd.R_drew)); exact HO_4.out) (Kd.R_base ho0) hb); have n1_ := Aside0.mk (Kd.R_below (by (with_reducible repeat (first | apply Kd.R_alloc | apply Kd.R_drewN | apply Kd.R_drew)); exact HO235.out) hb); have n2_ := Aside0.mk (Kd.R_lower (Kd.R_new' ho0 (Kd.R_lt (by (with_reducible repeat (first | apply Kd.R_alloc | apply Kd.R_drewN | apply Kd.R_drew)); exact HO_4.out))) (below_size (by repeat (first | (with_reducible first | exact HB.out | apply below_alloc | apply pw_below_drewN | apply below_drew1) | exact HB.out)))); have n3_ := Aside0.mk (below_step (by repeat (first | (with_reducible first | exact HB.out | apply below_alloc | apply pw_below_drewN | apply below_drew1) | exact HB.out)) hb); clear HO_4; clear HO235; clear HB; have HO_4 := n0_; have HO235 := n1_; have HO239 := n2_; have HB := n3_; clear n0_ n1_ n2_ n3_; (try clear hb); (try clear hb2); (try clear hk); (try clear hi); (try clear ho0); obtain ⟨Ao37, co37, eo37⟩ := Kd.R_slice HO239.out; subst eo37; obtain ⟨Ao38, co38, eo38⟩ := Kd.R_slice HO_4.out; subst eo38) | (go_at_call 16; (with_reducible refine (auguryref02_Same.calls k1 _ _ t236 _ _ x4_1 true _ ?side1 ?side2 ?side3 ?side4 A31.out).mono ?_); (case side1 => repeat (first | exact (Kd.R_reads' HO239.out).2.2 | (with_reducible refine Kd.C_alloc ?_ _) | (with_reducible refine Kd.C_drewN ?_ _) | (with_reducible refine Kd.C_drew ?_))); (case side2 => exact (Kd.R_reads' HO239.out).2.1); (case side3 => repeat (first | exact (Kd.R_reads' HO_4.out).2.2 | (with_reducible refine Kd.C_alloc ?_ _) | (with_reducible refine Kd.C_drewN ?_ _) | (with_reducible refine Kd.C_drew ?_))); (case side4 => exact (Kd.R_reads' HO_4.out).2.1); rintro e w' ⟨rfl, ⟨nd, rfl⟩⟩))
                go_ret
                exact ⟨by first | rfl | (simp [errW_none, errW_some] <;> rfl) | (simp [*, errW_none, errW_some] <;> rfl), by repeat (first | (with_reducible first | exact HB.out | apply below_alloc | apply pw_below_drewN | apply below_drew1) | exact HB.out)⟩
              · rw [if_neg c33] at H
                exact absurd H (by simp)
            · replace c32 := Bool.eq_false_iff.mpr c32
              subst c32
              have H1 : (none) = some r := by rw [if_neg (show ¬ (false = true) by decide)] at H; exact H
              clear H
              have H := H1
              clear H1
              exact absurd H (by simp)
          · replace c30 := Bool.eq_false_iff.mpr c30
            subst c30
            have H1 : (none) = some r := by rw [if_neg (show ¬ (false = true) by decide)] at H; exact H
            clear H
            have H := H1
            clear H1
            exact absurd H (by simp)

/-- THE ONE PURE STATEMENT of augurylaw02_FrameBack: yours. -/
def augurylaw02_FrameBack.Pure : Prop := ∀ (l0 : List ByteArray), (l0.length ≤ maxLen ∧ ∀ x ∈ l0, x.size ≤ maxLen) → ∃ k, augurylaw02_FrameBack.f k l0 = some true

end Go.Proofs.Ytkljljjmphneiaa.PAll
