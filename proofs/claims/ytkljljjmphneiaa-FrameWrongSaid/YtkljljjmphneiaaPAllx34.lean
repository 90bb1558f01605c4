/- Written by this session's own program (wip/xprint): functions of the Go program as Lean functions, and proofs that the Go code computes them. -/
import Derived.Test.YtkljljjmphneiaaPAllx0
import Derived.Test.YtkljljjmphneiaaPAllx20
import Derived.Test.YtkljljjmphneiaaPAllx22
import Derived.Test.YtkljljjmphneiaaPAllx23
namespace Go.Proofs.Ytkljljjmphneiaa.PAll
open Go.RowKit Go.Proofs.YtkljljjmphneiaaW.PrintWords Go.Proofs.YtkljljjmphneiaaW.PrintLast Go.Proofs.YtkljljjmphneiaaW.PrintMore
attribute [local go_sem] max2_int min2_int max_two min_two max_three min_three max_four min_four   -- for this text's walks alone
set_option linter.unusedVariables false
set_option linter.unusedSimpArgs false

/-! ### augurylaw02_FrameWrong: function 7 -/
def augurylaw02_FrameWrong.f (k : Nat) (a0 : ByteArray) (a1 : Int) (a2 : Int) : Option (Bool) := (augurylaw02_head.f k).bind fun t288 => (if (a0.size : Int) > 4096 then (if t288 = true then (some true) else (none)) else ((frame_Put.f k a0).bind fun t289 => (if (t289.length : Int) < 5 then (none) else (if (t289.length : Int) = 0 then (none) else (if 0 ≤ (Int.tmod (wrap64 (a1)) (t289.length : Int)) then (if (Int.tmod (wrap64 (a1)) (t289.length : Int)) < (t289.length : Int) then (if (rd t289 (Int.tmod (wrap64 (a1)) (t289.length : Int))) = a2 then (if t288 = true then (some true) else (none)) else ((frame_Cut.f k (t289.set ((Int.tmod (wrap64 (a1)) (t289.length : Int)) : Int).toNat a2)).bind fun bt294 => (if (Int.tmod (wrap64 (a1)) (t289.length : Int)) ≥ 5 then (if t288 = true then (if bt294.2 = 0 then (some true) else (if 0 ≤ (wrap64 ((Int.tmod (wrap64 (a1)) (t289.length : Int)) - 5)) then (if (wrap64 ((Int.tmod (wrap64 (a1)) (t289.length : Int)) - 5)) < (a0.size : Int) then (if (Int.tmod (wrap64 ((wrap64 (a2)) - (wrap64 (bt a0 (wrap64 ((Int.tmod (wrap64 (a1)) (t289.length : Int)) - 5)))))) 251) = 0 then (some true) else (none)) else (none)) else (none))) else (none)) else (if t288 = true then (if bt294.2 = 0 then (if (bt294.1.length : Int) = 0 then (some true) else (if (Int.tmod (wrap64 (a1)) (t289.length : Int)) < 3 then (if (Int.tmod (wrap64 (a1)) (t289.length : Int)) > 0 then (some true) else (none)) else (none))) else (if (Int.tmod (wrap64 (a1)) (t289.length : Int)) < 3 then (if (Int.tmod (wrap64 (a1)) (t289.length : Int)) > 0 then (some true) else (none)) else (none))) else (none))))) else (none)) else (none))))))
theorem augurylaw02_FrameWrong.mono : ∀ a0 a1 a2 k, LeO (augurylaw02_FrameWrong.f k a0 a1 a2) (augurylaw02_FrameWrong.f (k + 1) a0 a1 a2) := by
  intro a0 a1 a2 k
  unfold augurylaw02_FrameWrong.f
  repeat' first
      | (with_reducible exact augurylaw02_head.mono _)
      | (with_reducible exact frame_Cut.mono _ _)
      | (with_reducible exact frame_Put.mono _ _)
      | (with_reducible exact LeO.refl _)
      | (with_reducible exact LeO.none _)
      | (with_reducible refine LeO.ite ?_ ?_)
      | (with_reducible refine LeO.bind ?_ (fun _ => ?_))
      | exact augurylaw02_head.mono _
      | exact frame_Cut.mono _ _
      | exact frame_Put.mono _ _
      | exact LeO.none _
      | refine LeO.ite ?_ ?_
      | refine LeO.bind ?_ (fun _ => ?_)
set_option maxHeartbeats 8000000 in
set_option maxRecDepth 100000 in
theorem augurylaw02_FrameWrong.calls (k : Nat) (a0 : ByteArray) (a1 : Int) (a2 : Int) (r : Bool) (w : World) (h : augurylaw02_FrameWrong.f k a0 a1 a2 = some r) :
    Calls Try.prog 7 #[.string a0, .int .u16 a1, .int .u8 a2] w fun e w' => e = .returned (.bool r) ∧ Below w.heap.size w w' := by
  have HB := Aside0.mk (Below.refl w.heap.size w)
  have H : ((augurylaw02_head.f k).bind fun t288 => (if (a0.size : Int) > 4096 then (if t288 = true then (some true) else (none)) else ((frame_Put.f k a0).bind fun t289 => (if (t289.length : Int) < 5 then (none) else (if (t289.length : Int) = 0 then (none) else (if 0 ≤ (Int.tmod (wrap64 (a1)) (t289.length : Int)) then (if (Int.tmod (wrap64 (a1)) (t289.length : Int)) < (t289.length : Int) then (if (rd t289 (Int.tmod (wrap64 (a1)) (t289.length : Int))) = a2 then (if t288 = true then (some true) else (none)) else ((frame_Cut.f k (t289.set ((Int.tmod (wrap64 (a1)) (t289.length : Int)) : Int).toNat a2)).bind fun bt294 => (if (Int.tmod (wrap64 (a1)) (t289.length : Int)) ≥ 5 then (if t288 = true then (if bt294.2 = 0 then (some true) else (if 0 ≤ (wrap64 ((Int.tmod (wrap64 (a1)) (t289.length : Int)) - 5)) then (if (wrap64 ((Int.tmod (wrap64 (a1)) (t289.length : Int)) - 5)) < (a0.size : Int) then (if (Int.tmod (wrap64 ((wrap64 (a2)) - (wrap64 (bt a0 (wrap64 ((Int.tmod (wrap64 (a1)) (t289.length : Int)) - 5)))))) 251) = 0 then (some true) else (none)) else (none)) else (none))) else (none)) else (if t288 = true then (if bt294.2 = 0 then (if (bt294.1.length : Int) = 0 then (some true) else (if (Int.tmod (wrap64 (a1)) (t289.length : Int)) < 3 then (if (Int.tmod (wrap64 (a1)) (t289.length : Int)) > 0 then (some true) else (none)) else (none))) else (if (Int.tmod (wrap64 (a1)) (t289.length : Int)) < 3 then (if (Int.tmod (wrap64 (a1)) (t289.length : Int)) > 0 then (some true) else (none)) else (none))) else (none))))) else (none)) else (none))))))) = some r := h
  clear h
  replace H := Option.bind_eq_some_iff.mp H
  obtain ⟨t288, A40, H⟩ := H
  replace H : (if (a0.size : Int) > 4096 then (if t288 = true then (some true) else (none)) else ((frame_Put.f k a0).bind fun t289 => (if (t289.length : Int) < 5 then (none) else (if (t289.length : Int) = 0 then (none) else (if 0 ≤ (Int.tmod (wrap64 (a1)) (t289.length : Int)) then (if (Int.tmod (wrap64 (a1)) (t289.length : Int)) < (t289.length : Int) then (if (rd t289 (Int.tmod (wrap64 (a1)) (t289.length : Int))) = a2 then (if t288 = true then (some true) else (none)) else ((frame_Cut.f k (t289.set ((Int.tmod (wrap64 (a1)) (t289.length : Int)) : Int).toNat a2)).bind fun bt294 => (if (Int.tmod (wrap64 (a1)) (t289.length : Int)) ≥ 5 then (if t288 = true then (if bt294.2 = 0 then (some true) else (if 0 ≤ (wrap64 ((Int.tmod (wrap64 (a1)) (t289.length : Int)) - 5)) then (if (wrap64 ((Int.tmod (wrap64 (a1)) (t289.length : Int)) - 5)) < (a0.size : Int) then (if (Int.tmod (wrap64 ((wrap64 (a2)) - (wrap64 (bt a0 (wrap64 ((Int.tmod (wrap64 (a1)) (t289.length : Int)) - 5)))))) 251) = 0 then (some true) else (none)) else (none)) else (none))) else (none)) else (if t288 = true then (if bt294.2 = 0 then (if (bt294.1.length : Int) = 0 then (some true) else (if (Int.tmod (wrap64 (a1)) (t289.length : Int)) < 3 then (if (Int.tmod (wrap64 (a1)) (t289.length : Int)) > 0 then (some true) else (none)) else (none))) else (if (Int.tmod (wrap64 (a1)) (t289.length : Int)) < 3 then (if (Int.tmod (wrap64 (a1)) (t289.length : Int)) > 0 then (some true) else (none)) else (none))) else (none))))) else (none)) else (none)))))) = some r := H
  have A4 := Aside0.mk A40
  clear A40
  by_cases c5 : (a0.size : Int) > 4096
  · rw [if_pos c5] at H
    have c5b0 : decide (4096 < (a0.size : Int)) = true := decide_eq_true c5
    have c5b1 : decide (4096 < a0.size) = true := decide_eq_true (by omega)
    clear c5
    by_cases c6 : t288 = true
    · subst c6
      have H1 : (some true) = some r := by rw [if_pos rfl] at H; exact H
      clear H
      have H := H1
      clear H1
      obtain rfl := Option.some.inj H
      go_enter Try.func7, Try.ntmps7
      go_wp2_with (first | ((with_reducible refine gate_callee (f := 9) rfl ?_); refine goesL_ (some 12) rfl rfl Try.func9 (by kernel_rfl) rfl #[] rfl (by (try simp only [List.map_toArray, List.map_cons, List.map_nil]); first | done | rfl | (simp only [List.length_drop, List.length_take]; rfl)) ?_; (with_reducible refine (augurylaw02_head.calls k  true _ A4.out).mono ?_); rintro e w7 ⟨rfl, hb⟩; refine ⟨_, rfl, ?_⟩; have n0_ := Aside0.mk (below_step (by repeat (first | (with_reducible first | exact HB.out | apply below_alloc | apply pw_below_drewN | apply below_drew1) | exact HB.out)) hb); clear HB; have HB := n0_; clear n0_; (try clear hb); (try clear hb2); (try clear hk); (try clear hi)))
      go_ret
      exact ⟨by first | rfl | (simp [errW_none, errW_some] <;> rfl) | (simp [*, errW_none, errW_some] <;> rfl), by repeat (first | (with_reducible first | exact HB.out | apply below_alloc | apply pw_below_drewN | apply below_drew1) | exact HB.out)⟩
    · replace c6 := Bool.eq_false_iff.mpr c6
      subst c6
      have H1 : (none) = some r := by rw [if_neg (show ¬ (false = true) by decide)] at H; exact H
      clear H
      have H := H1
      clear H1
      exact absurd H (by simp)
  · rw [if_neg c5] at H
    have c5b0 : decide (4096 < (a0.size : Int)) = false := decide_eq_false c5
    have c5b1 : decide (4096 < a0.size) = false := decide_eq_false (by omega)
    clear c5
    replace H := Option.bind_eq_some_iff.mp H
    obtain ⟨t289, A80, H⟩ := H
    replace H : (if (t289.length : Int) < 5 then (none) else (if (t289.length : Int) = 0 then (none) else (if 0 ≤ (Int.tmod (wrap64 (a1)) (t289.length : Int)) then (if (Int.tmod (wrap64 (a1)) (t289.length : Int)) < (t289.length : Int) then (if (rd t289 (Int.tmod (wrap64 (a1)) (t289.length : Int))) = a2 then (if t288 = true then (some true) else (none)) else ((frame_Cut.f k (t289.set ((Int.tmod (wrap64 (a1)) (t289.length : Int)) : Int).toNat a2)).bind fun bt294 => (if (Int.tmod (wrap64 (a1)) (t289.length : Int)) ≥ 5 then (if t288 = true then (if bt294.2 = 0 then (some true) else (if 0 ≤ (wrap64 ((Int.tmod (wrap64 (a1)) (t289.length : Int)) - 5)) then (if (wrap64 ((Int.tmod (wrap64 (a1)) (t289.length : Int)) - 5)) < (a0.size : Int) then (if (Int.tmod (wrap64 ((wrap64 (a2)) - (wrap64 (bt a0 (wrap64 ((Int.tmod (wrap64 (a1)) (t289.length : Int)) - 5)))))) 251) = 0 then (some true) else (none)) else (none)) else (none))) else (none)) else (if t288 = true then (if bt294.2 = 0 then (if (bt294.1.length : Int) = 0 then (some true) else (if (Int.tmod (wrap64 (a1)) (t289.length : Int)) < 3 then (if (Int.tmod (wrap64 (a1)) (t289.length : Int)) > 0 then (some true) else (none)) else (none))) else (if (Int.tmod (wrap64 (a1)) (t289.length : Int)) < 3 then (if (Int.tmod (wrap64 (a1)) (t289.length : Int)) > 0 then (some true) else (none)) else (none))) else (none))))) else (none)) else (none)))) = some r := H
    have A8 := Aside0.mk A80
    clear A80
    by_cases c9 : (t289.length : Int) < 5
    · rw [if_pos c9] at H
      exact absurd H (by simp)
    · rw [if_neg c9] at H
      have c9b0 : decide ((t289.length : Int) < 5) = false := decide_eq_false c9
      have c9b1 : decide (t289.length < 5) = false := decide_eq_false (by omega)
      clear c9
      by_cases c10 : (t289.length : Int) = 0
      · rw [if_pos c10] at H
        exact absurd H (by simp)
      · rw [if_neg c10] at H
        have c10b0 : ((t289.length : Int) == 0) = false := beq_eq_false_iff_ne.mpr c10
        have c10b1 : ((t289.length : Int) != 0) = true := bne_iff_ne.mpr c10
        have c10b2 : ¬ (t289 = []) := fun h_ => c10 (by rw [h_]; rfl)
        obtain ⟨ji11, hji11⟩ : ∃ j_ : Int, (Int.tmod (wrap64 (a1)) (t289.length : Int)) = j_ := ⟨_, rfl⟩
        replace H : (if 0 ≤ (ji11) then (if (ji11) < (t289.length : Int) then (if (rd t289 (ji11)) = a2 then (if t288 = true then (some true) else (none)) else ((frame_Cut.f k (t289.set ((ji11) : Int).toNat a2)).bind fun bt294 => (if (ji11) ≥ 5 then (if t288 = true then (if bt294.2 = 0 then (some true) else (if 0 ≤ (wrap64 ((ji11) - 5)) then (if (wrap64 ((ji11) - 5)) < (a0.size : Int) then (if (Int.tmod (wrap64 ((wrap64 (a2)) - (wrap64 (bt a0 (wrap64 ((ji11) - 5)))))) 251) = 0 then (some true) else (none)) else (none)) else (none))) else (none)) else (if t288 = true then (if bt294.2 = 0 then (if (bt294.1.length : Int) = 0 then (some true) else (if (ji11) < 3 then (if (ji11) > 0 then (some true) else (none)) else (none))) else (if (ji11) < 3 then (if (ji11) > 0 then (some true) else (none)) else (none))) else (none))))) else (none)) else (none)) = some r := by first | (rw [hji11] at H; exact H) | (simp only [hji11] at H ⊢; exact H)
        (try rw [hji11] at A4)
        (try rw [hji11] at A8)
        by_cases c12 : 0 ≤ (ji11)
        · rw [if_pos c12] at H
          have c12b0 : decide (0 ≤ (ji11)) = true := decide_eq_true c12
          clear c12
          by_cases c13 : (ji11) < (t289.length : Int)
          · rw [if_pos c13] at H
            have c13b0 : decide ((ji11) < (t289.length : Int)) = true := decide_eq_true c13
            clear c13
            by_cases c14 : (rd t289 (ji11)) = a2
            · rw [if_pos c14] at H
              have c14b0 : ((rd t289 (ji11)) == a2) = true := beq_iff_eq.mpr c14
              have c14b1 : ((rd t289 (ji11)) != a2) = false := bne_eq_false_iff_eq.mpr c14
              clear c14
              by_cases c15 : t288 = true
              · subst c15
                have H1 : (some true) = some r := by rw [if_pos rfl] at H; exact H
                clear H
                have H := H1
                clear H1
                obtain rfl := Option.some.inj H
                go_enter Try.func7, Try.ntmps7
                go_wp2_with (first | ((with_reducible refine gate_callee (f := 9) rfl ?_); refine goesL_ (some 12) rfl rfl Try.func9 (by kernel_rfl) rfl #[] rfl (by (try simp only [List.map_toArray, List.map_cons, List.map_nil]); first | done | rfl | (simp only [List.length_drop, List.length_take]; rfl)) ?_; (with_reducible refine (augurylaw02_head.calls k  true _ A4.out).mono ?_); rintro e w16 ⟨rfl, hb⟩; refine ⟨_, rfl, ?_⟩; have n0_ := Aside0.mk (below_step (by repeat (first | (with_reducible first | exact HB.out | apply below_alloc | apply pw_below_drewN | apply below_drew1) | exact HB.out)) hb); clear HB; have HB := n0_; clear n0_; (try clear hb); (try clear hb2); (try clear hk); (try clear hi)) | ((with_reducible refine gate_callee (f := 14) rfl ?_); refine goesL_ (some 18) rfl rfl Try.func14 (by kernel_rfl) rfl #[.string a0] rfl (by (try simp only [List.map_toArray, List.map_cons, List.map_nil]); first | done | rfl | (simp only [List.length_drop, List.length_take]; rfl)) ?_; (with_reducible refine (frame_Put.calls k a0 t289 _ A8.out).mono ?_); rintro e w17 ⟨v290, rfl, ho0, hb⟩; refine ⟨_, rfl, ?_⟩; have n0_ := Aside0.mk (Kd.R_lower ho0 (below_size (by repeat (first | (with_reducible first | exact HB.out | apply below_alloc | apply pw_below_drewN | apply below_drew1) | exact HB.out)))); have n1_ := Aside0.mk (below_step (by repeat (first | (with_reducible first | exact HB.out | apply below_alloc | apply pw_below_drewN | apply below_drew1) | exact HB.out)) hb); clear HB; have HO291 := n0_; have HB := n1_; clear n0_ n1_; (try clear hb); (try clear hb2); (try clear hk); (try clear hi); (try clear ho0); obtain ⟨Ao18, co18, eo18⟩ := Kd.R_slice HO291.out; subst eo18; have p292 : 0 ≤ ((ji11) : Int) := of_decide_eq_true (by first | (with_reducible assumption) | assumption); have q292 : (ji11) < (t289.length : Int) := of_decide_eq_true (by first | (with_reducible assumption) | assumption); obtain ⟨ad292, e292, hx292_0⟩ := Kd.at_int (Kd.R_reads' HO291.out).2.2 (ji11) p292 q292; cases e292; replace p292 := eq_true p292; replace q292 := eq_true q292))
                go_ret
                exact ⟨by first | rfl | (simp [errW_none, errW_some] <;> rfl) | (simp only [← hji11]; first | rfl | (simp [errW_none, errW_some] <;> rfl)) | (simp [*, errW_none, errW_some] <;> rfl), by repeat (first | (with_reducible first | exact HB.out | apply below_alloc | apply pw_below_drewN | apply below_drew1) | exact HB.out)⟩
              · replace c15 := Bool.eq_false_iff.mpr c15
                subst c15
                have H1 : (none) = some r := by rw [if_neg (show ¬ (false = true) by decide)] at H; exact H
                clear H
                have H := H1
                clear H1
                exact absurd H (by simp)
            · rw [if_neg c14] at H
              have c14b0 : ((rd t289 (ji11)) == a2) = false := beq_eq_false_iff_ne.mpr c14
              have c14b1 : ((rd t289 (ji11)) != a2) = true := bne_iff_ne.mpr c14
              obtain ⟨y293, hy293⟩ : ∃ y_ : List Int, y_ = (t289.set ((ji11) : Int).toNat a2) := ⟨_, rfl⟩
              replace H : ((frame_Cut.f k y293).bind fun bt294 => (if (ji11) ≥ 5 then (if t288 = true then (if bt294.2 = 0 then (some true) else (if 0 ≤ (wrap64 ((ji11) - 5)) then (if (wrap64 ((ji11) - 5)) < (a0.size : Int) then (if (Int.tmod (wrap64 ((wrap64 (a2)) - (wrap64 (bt a0 (wrap64 ((ji11) - 5)))))) 251) = 0 then (some true) else (none)) else (none)) else (none))) else (none)) else (if t288 = true then (if bt294.2 = 0 then (if (bt294.1.length : Int) = 0 then (some true) else (if (ji11) < 3 then (if (ji11) > 0 then (some true) else (none)) else (none))) else (if (ji11) < 3 then (if (ji11) > 0 then (some true) else (none)) else (none))) else (none)))) = some r := by first | (rw [hy293]; with_reducible exact H) | (have H2_ := (Option.bind_some _ _).symm.trans H; rw [hy293]; with_reducible exact H2_) | (have H2_ := (Option.bind_some _ _).symm.trans H; with_reducible exact H2_) | with_reducible exact H | (rw [hy293]; exact H) | exact H
              have Ny293 := Aside0.mk hy293
              clear hy293
              replace H := Option.bind_eq_some_iff.mp H
              obtain ⟨⟨t294, t295⟩, A200, H⟩ := H
              replace H : (if (ji11) ≥ 5 then (if t288 = true then (if t295 = 0 then (some true) else (if 0 ≤ (wrap64 ((ji11) - 5)) then (if (wrap64 ((ji11) - 5)) < (a0.size : Int) then (if (Int.tmod (wrap64 ((wrap64 (a2)) - (wrap64 (bt a0 (wrap64 ((ji11) - 5)))))) 251) = 0 then (some true) else (none)) else (none)) else (none))) else (none)) else (if t288 = true then (if t295 = 0 then (if (t294.length : Int) = 0 then (some true) else (if (ji11) < 3 then (if (ji11) > 0 then (some true) else (none)) else (none))) else (if (ji11) < 3 then (if (ji11) > 0 then (some true) else (none)) else (none))) else (none))) = some r := H
              have A20 := Aside0.mk A200
              clear A200
              by_cases c21 : (ji11) ≥ 5
              · rw [if_pos c21] at H
                have c21b0 : decide (5 ≤ (ji11)) = true := decide_eq_true c21
                clear c21
                by_cases c22 : t288 = true
                · subst c22
                  have H1 : (if t295 = 0 then (some true) else (if 0 ≤ (wrap64 ((ji11) - 5)) then (if (wrap64 ((ji11) - 5)) < (a0.size : Int) then (if (Int.tmod (wrap64 ((wrap64 (a2)) - (wrap64 (bt a0 (wrap64 ((ji11) - 5)))))) 251) = 0 then (some true) else (none)) else (none)) else (none))) = some r := by rw [if_pos rfl] at H; exact H
                  clear H
                  have H := H1
                  clear H1
                  by_cases c23 : t295 = 0
                  · rw [if_pos c23] at H
                    have c23b0 : (t295 == 0) = true := beq_iff_eq.mpr c23
                    have c23b1 : (t295 != 0) = false := bne_eq_false_iff_eq.mpr c23
                    clear c23
                    obtain rfl := Option.some.inj H
                    go_enter Try.func7, Try.ntmps7
                    go_wp2_with (first | ((with_reducible refine gate_callee (f := 9) rfl ?_); refine goesL_ (some 12) rfl rfl Try.func9 (by kernel_rfl) rfl #[] rfl (by (try simp only [List.map_toArray, List.map_cons, List.map_nil]); first | done | rfl | (simp only [List.length_drop, List.length_take]; rfl)) ?_; (with_reducible refine (augurylaw02_head.calls k  true _ A4.out).mono ?_); rintro e w24 ⟨rfl, hb⟩; refine ⟨_, rfl, ?_⟩; have n0_ := Aside0.mk (below_step (by repeat (first | (with_reducible first | exact HB.out | apply below_alloc | apply pw_below_drewN | apply below_drew1) | exact HB.out)) hb); clear HB; have HB := n0_; clear n0_; (try clear hb); (try clear hb2); (try clear hk); (try clear hi)) | ((with_reducible refine gate_callee (f := 14) rfl ?_); refine goesL_ (some 18) rfl rfl Try.func14 (by kernel_rfl) rfl #[.string a0] rfl (by (try simp only [List.map_toArray, List.map_cons, List.map_nil]); first | done | rfl | (simp only [List.length_drop, List.length_take]; rfl)) ?_; (with_reducible refine (frame_Put.calls k a0 t289 _ A8.out).mono ?_); rintro e w25 ⟨v290, rfl, ho0, hb⟩; refine ⟨_, rfl, ?_⟩; have n0_ := Aside0.mk (Kd.R_lower ho0 (below_size (by repeat (first | (with_reducible first | exact HB.out | apply below_alloc | apply pw_below_drewN | apply below_drew1) | exact HB.out)))); have n1_ := Aside0.mk (below_step (by repeat (first | (with_reducible first | exact HB.out | apply below_alloc | apply pw_below_drewN | apply below_drew1) | exact HB.out)) hb); clear HB; have HO291 := n0_; have HB := n1_; clear n0_ n1_; (try clear hb); (try clear hb2); (try clear hk); (try clear hi); (try clear ho0); obtain ⟨Ao26, co26, eo26⟩ := Kd.R_slice HO291.out; subst eo26; have p292 : 0 ≤ ((ji11) : Int) := of_decide_eq_true (by first | (with_reducible assumption) | assumption); have q292 : (ji11) < (t289.length : Int) := of_decide_eq_true (by first | (with_reducible assumption) | assumption); obtain ⟨ad292, e292, hx292_0⟩ := Kd.at_int (Kd.R_reads' HO291.out).2.2 (ji11) p292 q292; cases e292; replace p292 := eq_true p292; replace q292 := eq_true q292; have p19 : 0 ≤ ((ji11) : Int) := of_decide_eq_true (by first | (with_reducible assumption) | assumption); have q19 : ((ji11) : Int) < ((t289.length : Int) : Int) := of_decide_eq_true (by first | (with_reducible assumption) | assumption); obtain ⟨go19, co19, eo19, gb19, gl19, cl19, HG19⟩ := Kd.R_form HO291.out (by omega); (first | cases eo19 | (injection eo19 with ea_ en_ ec_; (first | subst ea_ | (injection ea_ with ea_; subst ea_)); subst ec_; clear en_)); have GB19 := Aside0.mk gb19; have GG19 := Aside0.mk HG19; clear gb19 gl19 HG19; (first | simp only [add_plain] at hx292_0 | skip); obtain ⟨hx19_0, hf19_0⟩ := Kd.R_celln 0 HO291.out ((ji11) : Int) p19 q19; replace p19 := eq_true p19; replace q19 := eq_true q19; obtain ⟨hy27_, hz27_⟩ := Kd.R_celln 0 HO291.out ((ji11) : Int) (of_decide_eq_true (by first | (with_reducible assumption) | assumption)) (of_decide_eq_true (by first | (with_reducible assumption) | assumption)); have HP27 := Kd.R_putg HO291.out ((ji11) : Int) a2) | ((with_reducible refine gate_store (t := 5) (p := 37) rfl ?_); refine store_event (t := 5) (p := 37) (v := ?vo_w28) (w1 := (w25.setCell ⟨go19, ((ji11) : Int).toNat, none⟩ (.int .u8 a2))) ?hg ?ho ?hn ?hr ?_; (case ho => rfl); (case hg => rfl); (case hn => rfl); (case hr => first | (go_simp; done) | (go_simp; rfl)); intro w28 hw; have hg : w25.grownBy w28 (some go19) := (by rw [hw]; exact HP27.2); have hp_ : Kd.R (Kd.int .u8) 5 w28 w.heap.size (fun _ => True) (.slice (some ⟨go19, 0, none⟩) t289.length co26) y293 := (by rw [hw, Ny293.out]; exact HP27.1); clear HP27; have n0_ := Aside0.mk (hp_); have n1_ := Aside0.mk ((by rw [hw]; exact below_set (HB.out) GB19.out : Below w.heap.size w w28)); clear HO291; clear HB; have HO291 := n0_; have HB := n1_; clear n0_ n1_; clear hg hw hp_) | ((with_reducible refine gate_callee (f := 10) rfl ?_); refine goesL_ (some 40) rfl rfl Try.func10 (by kernel_rfl) rfl #[.slice (some ⟨go19, 0, none⟩) y293.length co26] rfl (by (try simp only [List.map_toArray, List.map_cons, List.map_nil]); first | done | (rw [show y293.length = t289.length from (Kd.R_reads' HO291.out).1.symm] <;> rfl) | rfl | (simp only [List.length_drop, List.length_take]; rfl)) ?_; (with_reducible refine (frame_Cut.calls k _ _ y293 t294 t295 _ ?side1 ?side2 A20.out).mono ?_); (case side1 => repeat (first | exact (Kd.R_reads' HO291.out).2.2 | (with_reducible refine Kd.C_alloc ?_ _) | (with_reducible refine Kd.C_drewN ?_ _) | (with_reducible refine Kd.C_drew ?_))); (case side2 => rw [show y293.length = t289.length from (Kd.R_reads' HO291.out).1.symm]; exact (Kd.R_reads' HO291.out).2.1); rintro e w29 ⟨v296, rfl, ho0, hb⟩; refine ⟨_, rfl, ?_⟩; have n0_ := Aside0.mk (Kd.R_below (by (with_reducible repeat (first | apply Kd.R_alloc | apply Kd.R_drewN | apply Kd.R_drew)); exact HO291.out) hb); have n1_ := Aside0.mk (Kd.R_lower ho0 (below_size (by repeat (first | (with_reducible first | exact HB.out | apply below_alloc | apply pw_below_drewN | apply below_drew1) | exact HB.out)))); have n2_ := Aside0.mk (below_step (by repeat (first | (with_reducible first | exact HB.out | apply below_alloc | apply pw_below_drewN | apply below_drew1) | exact HB.out)) hb); clear HO291; clear HB; have HO291 := n0_; have HO297 := n1_; have HB := n2_; clear n0_ n1_ n2_; (try clear hb); (try clear hb2); (try clear hk); (try clear hi); (try clear ho0)))
                    go_ret
                    exact ⟨by first | rfl | (simp [errW_none, errW_some] <;> rfl) | (simp only [← hji11]; first | rfl | (simp [errW_none, errW_some] <;> rfl)) | (simp [*, errW_none, errW_some] <;> rfl), by repeat (first | (with_reducible first | exact HB.out | apply below_alloc | apply pw_below_drewN | apply below_drew1) | exact HB.out)⟩
                  · rw [if_neg c23] at H
                    have c23b0 : (t295 == 0) = false := beq_eq_false_iff_ne.mpr c23
                    have c23b1 : (t295 != 0) = true := bne_iff_ne.mpr c23
                    obtain ⟨ji30, hji30⟩ : ∃ j_ : Int, (wrap64 ((ji11) - 5)) = j_ := ⟨_, rfl⟩
                    replace H : (if 0 ≤ (ji30) then (if (ji30) < (a0.size : Int) then (if (Int.tmod (wrap64 ((wrap64 (a2)) - (wrap64 (bt a0 (ji30))))) 251) = 0 then (some true) else (none)) else (none)) else (none)) = some r := by first | (rw [hji30] at H; exact H) | (simp only [hji30] at H ⊢; exact H)
                    (try rw [hji30] at A4)
                    (try rw [hji30] at A8)
                    (try rw [hji30] at A20)
                    have hji30w : (IntKind.i64.wrap ((ji11) - 5)) = ji30 := (i64_w _).trans hji30
                    by_cases c31 : 0 ≤ (ji30)
                    · rw [if_pos c31] at H
                      have c31b0 : decide (0 ≤ (ji30)) = true := decide_eq_true c31
                      clear c31
                      by_cases c32 : (ji30) < (a0.size : Int)
                      · rw [if_pos c32] at H
                        have c32b0 : decide ((ji30) < (a0.size : Int)) = true := decide_eq_true c32
                        clear c32
                        by_cases c34 : (Int.tmod (wrap64 ((wrap64 (a2)) - (wrap64 (bt a0 (ji30))))) 251) = 0
                        · rw [if_pos c34] at H
                          have c34b0 : ((Int.tmod (wrap64 ((wrap64 (a2)) - (wrap64 (bt a0 (ji30))))) 251) == 0) = true := beq_iff_eq.mpr c34
                          have c34b1 : ((Int.tmod (wrap64 ((wrap64 (a2)) - (wrap64 (bt a0 (ji30))))) 251) != 0) = false := bne_eq_false_iff_eq.mpr c34
                          clear c34
                          obtain rfl := Option.some.inj H
                          go_enter Try.func7, Try.ntmps7
                          go_wp2_with (first | ((with_reducible refine gate_callee (f := 9) rfl ?_); refine goesL_ (some 12) rfl rfl Try.func9 (by kernel_rfl) rfl #[] rfl (by (try simp only [List.map_toArray, List.map_cons, List.map_nil]); first | done | rfl | (simp only [List.length_drop, List.length_take]; rfl)) ?_; (with_reducible refine (augurylaw02_head.calls k  true _ A4.out).mono ?_); rintro e w35 ⟨rfl, hb⟩; refine ⟨_, rfl, ?_⟩; have n0_ := Aside0.mk (below_step (by repeat (first | (with_reducible first | exact HB.out | apply below_alloc | apply pw_below_drewN | apply below_drew1) | exact HB.out)) hb); clear HB; have HB := n0_; clear n0_; (try clear hb); (try clear hb2); (try clear hk); (try clear hi)) | ((with_reducible refine gate_callee (f := 14) rfl ?_); refine goesL_ (some 18) rfl rfl Try.func14 (by kernel_rfl) rfl #[.string a0] rfl (by (try simp only [List.map_toArray, List.map_cons, List.map_nil]); first | done | rfl | (simp only [List.length_drop, List.length_take]; rfl)) ?_; (with_reducible refine (frame_Put.calls k a0 t289 _ A8.out).mono ?_); rintro e w36 ⟨v290, rfl, ho0, hb⟩; refine ⟨_, rfl, ?_⟩; have n0_ := Aside0.mk (Kd.R_lower ho0 (below_size (by repeat (first | (with_reducible first | exact HB.out | apply below_alloc | apply pw_below_drewN | apply below_drew1) | exact HB.out)))); have n1_ := Aside0.mk (below_step (by repeat (first | (with_reducible first | exact HB.out | apply below_alloc | apply pw_below_drewN | apply below_drew1) | exact HB.out)) hb); clear HB; have HO291 := n0_; have HB := n1_; clear n0_ n1_; (try clear hb); (try clear hb2); (try clear hk); (try clear hi); (try clear ho0); obtain ⟨Ao37, co37, eo37⟩ := Kd.R_slice HO291.out; subst eo37; have p292 : 0 ≤ ((ji11) : Int) := of_decide_eq_true (by first | (with_reducible assumption) | assumption); have q292 : (ji11) < (t289.length : Int) := of_decide_eq_true (by first | (with_reducible assumption) | assumption); obtain ⟨ad292, e292, hx292_0⟩ := Kd.at_int (Kd.R_reads' HO291.out).2.2 (ji11) p292 q292; cases e292; replace p292 := eq_true p292; replace q292 := eq_true q292; have p19 : 0 ≤ ((ji11) : Int) := of_decide_eq_true (by first | (with_reducible assumption) | assumption); have q19 : ((ji11) : Int) < ((t289.length : Int) : Int) := of_decide_eq_true (by first | (with_reducible assumption) | assumption); obtain ⟨go19, co19, eo19, gb19, gl19, cl19, HG19⟩ := Kd.R_form HO291.out (by omega); (first | cases eo19 | (injection eo19 with ea_ en_ ec_; (first | subst ea_ | (injection ea_ with ea_; subst ea_)); subst ec_; clear en_)); have GB19 := Aside0.mk gb19; have GG19 := Aside0.mk HG19; clear gb19 gl19 HG19; (first | simp only [add_plain] at hx292_0 | skip); obtain ⟨hx19_0, hf19_0⟩ := Kd.R_celln 0 HO291.out ((ji11) : Int) p19 q19; replace p19 := eq_true p19; replace q19 := eq_true q19; obtain ⟨hy38_, hz38_⟩ := Kd.R_celln 0 HO291.out ((ji11) : Int) (of_decide_eq_true (by first | (with_reducible assumption) | assumption)) (of_decide_eq_true (by first | (with_reducible assumption) | assumption)); have HP38 := Kd.R_putg HO291.out ((ji11) : Int) a2) | ((with_reducible refine gate_store (t := 5) (p := 37) rfl ?_); refine store_event (t := 5) (p := 37) (v := ?vo_w39) (w1 := (w36.setCell ⟨go19, ((ji11) : Int).toNat, none⟩ (.int .u8 a2))) ?hg ?ho ?hn ?hr ?_; (case ho => rfl); (case hg => rfl); (case hn => rfl); (case hr => first | (go_simp; done) | (go_simp; rfl)); intro w39 hw; have hg : w36.grownBy w39 (some go19) := (by rw [hw]; exact HP38.2); have hp_ : Kd.R (Kd.int .u8) 5 w39 w.heap.size (fun _ => True) (.slice (some ⟨go19, 0, none⟩) t289.length co37) y293 := (by rw [hw, Ny293.out]; exact HP38.1); clear HP38; have n0_ := Aside0.mk (hp_); have n1_ := Aside0.mk ((by rw [hw]; exact below_set (HB.out) GB19.out : Below w.heap.size w w39)); clear HO291; clear HB; have HO291 := n0_; have HB := n1_; clear n0_ n1_; clear hg hw hp_) | ((with_reducible refine gate_callee (f := 10) rfl ?_); refine goesL_ (some 40) rfl rfl Try.func10 (by kernel_rfl) rfl #[.slice (some ⟨go19, 0, none⟩) y293.length co37] rfl (by (try simp only [List.map_toArray, List.map_cons, List.map_nil]); first | done | (rw [show y293.length = t289.length from (Kd.R_reads' HO291.out).1.symm] <;> rfl) | rfl | (simp only [List.length_drop, List.length_take]; rfl)) ?_; (with_reducible refine (frame_Cut.calls k _ _ y293 t294 t295 _ ?side1 ?side2 A20.out).mono ?_); (case side1 => repeat (first | exact (Kd.R_reads' HO291.out).2.2 | (with_reducible refine Kd.C_alloc ?_ _) | (with_reducible refine Kd.C_drewN ?_ _) | (with_reducible refine Kd.C_drew ?_))); (case side2 => rw [show y293.length = t289.length from (Kd.R_reads' HO291.out).1.symm]; exact (Kd.R_reads' HO291.out).2.1); rintro e w40 ⟨v296, rfl, ho0, hb⟩; refine ⟨_, rfl, ?_⟩; have n0_ := Aside0.mk (Kd.R_below (by (with_reducible repeat (first | apply Kd.R_alloc | apply Kd.R_drewN | apply Kd.R_drew)); exact HO291.out) hb); have n1_ := Aside0.mk (Kd.R_lower ho0 (below_size (by repeat (first | (with_reducible first | exact HB.out | apply below_alloc | apply pw_below_drewN | apply below_drew1) | exact HB.out)))); have n2_ := Aside0.mk (below_step (by repeat (first | (with_reducible first | exact HB.out | apply below_alloc | apply pw_below_drewN | apply below_drew1) | exact HB.out)) hb); clear HO291; clear HB; have HO291 := n0_; have HO297 := n1_; have HB := n2_; clear n0_ n1_ n2_; (try clear hb); (try clear hb2); (try clear hk); (try clear hi); (try clear ho0); have p33 : 0 ≤ ((ji30) : Int) := of_decide_eq_true (by first | (with_reducible assumption) | assumption); have q33 : (ji30) < (a0.size : Int) := of_decide_eq_true (by first | (with_reducible assumption) | assumption); have hx33 := bt_at a0 (ji30); replace p33 := eq_true p33; replace q33 := eq_true q33))
                          go_ret
                          exact ⟨by first | rfl | (simp [errW_none, errW_some] <;> rfl) | (simp only [← hji11, ← hji30]; first | rfl | (simp [errW_none, errW_some] <;> rfl)) | (simp [*, errW_none, errW_some] <;> rfl), by repeat (first | (with_reducible first | exact HB.out | apply below_alloc | apply pw_below_drewN | apply below_drew1) | exact HB.out)⟩
                        · rw [if_neg c34] at H
                          exact absurd H (by simp)
                      · rw [if_neg c32] at H
                        exact absurd H (by simp)
                    · rw [if_neg c31] at H
                      exact absurd H (by simp)
                · replace c22 := Bool.eq_false_iff.mpr c22
                  subst c22
                  have H1 : (none) = some r := by rw [if_neg (show ¬ (false = true) by decide)] at H; exact H
                  clear H
                  have H := H1
                  clear H1
                  exact absurd H (by simp)
              · rw [if_neg c21] at H
                have c21b0 : decide (5 ≤ (ji11)) = false := decide_eq_false c21
                clear c21
                by_cases c41 : t288 = true
                · subst c41
                  have H1 : (if t295 = 0 then (if (t294.length : Int) = 0 then (some true) else (if (ji11) < 3 then (if (ji11) > 0 then (some true) else (none)) else (none))) else (if (ji11) < 3 then (if (ji11) > 0 then (some true) else (none)) else (none))) = some r := by rw [if_pos rfl] at H; exact H
                  clear H
                  have H := H1
                  clear H1
                  by_cases c42 : t295 = 0
                  · rw [if_pos c42] at H
                    have c42b0 : (t295 == 0) = true := beq_iff_eq.mpr c42
                    have c42b1 : (t295 != 0) = false := bne_eq_false_iff_eq.mpr c42
                    clear c42
                    by_cases c43 : (t294.length : Int) = 0
                    · rw [if_pos c43] at H
                      have c43b0 : ((t294.length : Int) == 0) = true := beq_iff_eq.mpr c43
                      have c43b1 : ((t294.length : Int) != 0) = false := bne_eq_false_iff_eq.mpr c43
                      clear c43
                      obtain rfl := Option.some.inj H
                      go_enter Try.func7, Try.ntmps7
                      go_wp2_with (first | ((with_reducible refine gate_callee (f := 9) rfl ?_); refine goesL_ (some 12) rfl rfl Try.func9 (by kernel_rfl) rfl #[] rfl (by (try simp only [List.map_toArray, List.map_cons, List.map_nil]); first | done | rfl | (simp only [List.length_drop, List.length_take]; rfl)) ?_; (with_reducible refine (augurylaw02_head.calls k  true _ A4.out).mono ?_); rintro e w44 ⟨rfl, hb⟩; refine ⟨_, rfl, ?_⟩; have n0_ := Aside0.mk (below_step (by repeat (first | (with_reducible first | exact HB.out | apply below_alloc | apply pw_below_drewN | apply below_drew1) | exact HB.out)) hb); clear HB; have HB := n0_; clear n0_; (try clear hb); (try clear hb2); (try clear hk); (try clear hi)) | ((with_reducible refine gate_callee (f := 14) rfl ?_); refine goesL_ (some 18) rfl rfl Try.func14 (by kernel_rfl) rfl #[.string a0] rfl (by (try simp only [List.map_toArray, List.map_cons, List.map_nil]); first | done | rfl | (simp only [List.length_drop, List.length_take]; rfl)) ?_; (with_reducible refine (frame_Put.calls k a0 t289 _ A8.out).mono ?_); rintro e w45 ⟨v290, rfl, ho0, hb⟩; refine ⟨_, rfl, ?_⟩; have n0_ := Aside0.mk (Kd.R_lower ho0 (below_size (by repeat (first | (with_reducible first | exact HB.out | apply below_alloc | apply pw_below_drewN | apply below_drew1) | exact HB.out)))); have n1_ := Aside0.mk (below_step (by repeat (first | (with_reducible first | exact HB.out | apply below_alloc | apply pw_below_drewN | apply below_drew1) | exact HB.out)) hb); clear HB; have HO291 := n0_; have HB := n1_; clear n0_ n1_; (try clear hb); (try clear hb2); (try clear hk); (try clear hi); (try clear ho0); obtain ⟨Ao46, co46, eo46⟩ := Kd.R_slice HO291.out; subst eo46; have p292 : 0 ≤ ((ji11) : Int) := of_decide_eq_true (by first | (with_reducible assumption) | assumption); have q292 : (ji11) < (t289.length : Int) := of_decide_eq_true (by first | (with_reducible assumption) | assumption); obtain ⟨ad292, e292, hx292_0⟩ := Kd.at_int (Kd.R_reads' HO291.out).2.2 (ji11) p292 q292; cases e292; replace p292 := eq_true p292; replace q292 := eq_true q292; have p19 : 0 ≤ ((ji11) : Int) := of_decide_eq_true (by first | (with_reducible assumption) | assumption); have q19 : ((ji11) : Int) < ((t289.length : Int) : Int) := of_decide_eq_true (by first | (with_reducible assumption) | assumption); obtain ⟨go19, co19, eo19, gb19, gl19, cl19, HG19⟩ := Kd.R_form HO291.out (by omega); (first | cases eo19 | (injection eo19 with ea_ en_ ec_; (first | subst ea_ | (injection ea_ with ea_; subst ea_)); subst ec_; clear en_)); have GB19 := Aside0.mk gb19; have GG19 := Aside0.mk HG19; clear gb19 gl19 HG19; (first | simp only [add_plain] at hx292_0 | skip); obtain ⟨hx19_0, hf19_0⟩ := Kd.R_celln 0 HO291.out ((ji11) : Int) p19 q19; replace p19 := eq_true p19; replace q19 := eq_true q19; obtain ⟨hy47_, hz47_⟩ := Kd.R_celln 0 HO291.out ((ji11) : Int) (of_decide_eq_true (by first | (with_reducible assumption) | assumption)) (of_decide_eq_true (by first | (with_reducible assumption) | assumption)); have HP47 := Kd.R_putg HO291.out ((ji11) : Int) a2) | ((with_reducible refine gate_store (t := 5) (p := 37) rfl ?_); refine store_event (t := 5) (p := 37) (v := ?vo_w48) (w1 := (w45.setCell ⟨go19, ((ji11) : Int).toNat, none⟩ (.int .u8 a2))) ?hg ?ho ?hn ?hr ?_; (case ho => rfl); (case hg => rfl); (case hn => rfl); (case hr => first | (go_simp; done) | (go_simp; rfl)); intro w48 hw; have hg : w45.grownBy w48 (some go19) := (by rw [hw]; exact HP47.2); have hp_ : Kd.R (Kd.int .u8) 5 w48 w.heap.size (fun _ => True) (.slice (some ⟨go19, 0, none⟩) t289.length co46) y293 := (by rw [hw, Ny293.out]; exact HP47.1); clear HP47; have n0_ := Aside0.mk (hp_); have n1_ := Aside0.mk ((by rw [hw]; exact below_set (HB.out) GB19.out : Below w.heap.size w w48)); clear HO291; clear HB; have HO291 := n0_; have HB := n1_; clear n0_ n1_; clear hg hw hp_) | ((with_reducible refine gate_callee (f := 10) rfl ?_); refine goesL_ (some 40) rfl rfl Try.func10 (by kernel_rfl) rfl #[.slice (some ⟨go19, 0, none⟩) y293.length co46] rfl (by (try simp only [List.map_toArray, List.map_cons, List.map_nil]); first | done | (rw [show y293.length = t289.length from (Kd.R_reads' HO291.out).1.symm] <;> rfl) | rfl | (simp only [List.length_drop, List.length_take]; rfl)) ?_; (with_reducible refine (frame_Cut.calls k _ _ y293 t294 t295 _ ?side1 ?side2 A20.out).mono ?_); (case side1 => repeat (first | exact (Kd.R_reads' HO291.out).2.2 | (with_reducible refine Kd.C_alloc ?_ _) | (with_reducible refine Kd.C_drewN ?_ _) | (with_reducible refine Kd.C_drew ?_))); (case side2 => rw [show y293.length = t289.length from (Kd.R_reads' HO291.out).1.symm]; exact (Kd.R_reads' HO291.out).2.1); rintro e w49 ⟨v296, rfl, ho0, hb⟩; refine ⟨_, rfl, ?_⟩; have n0_ := Aside0.mk (Kd.R_below (by (with_reducible repeat (first | apply Kd.R_alloc | apply Kd.R_drewN | apply Kd.R_drew)); exact HO291.out) hb); have n1_ := Aside0.mk (Kd.R_lower ho0 (below_size (by repeat (first | (with_reducible first | exact HB.out | apply below_alloc | apply pw_below_drewN | apply below_drew1) | exact HB.out)))); have n2_ := Aside0.mk (below_step (by repeat (first | (with_reducible first | exact HB.out | apply below_alloc | apply pw_below_drewN | apply below_drew1) | exact HB.out)) hb); clear HO291; clear HB; have HO291 := n0_; have HO297 := n1_; have HB := n2_; clear n0_ n1_ n2_; (try clear hb); (try clear hb2); (try clear hk); (try clear hi); (try clear ho0); obtain ⟨Ao50, co50, eo50⟩ := Kd.R_slice HO297.out; subst eo50))
                      go_ret
                      exact ⟨by first | rfl | (simp [errW_none, errW_some] <;> rfl) | (simp only [← hji11]; first | rfl | (simp [errW_none, errW_some] <;> rfl)) | (simp [*, errW_none, errW_some] <;> rfl), by repeat (first | (with_reducible first | exact HB.out | apply below_alloc | apply pw_below_drewN | apply below_drew1) | exact HB.out)⟩
                    · rw [if_neg c43] at H
                      have c43b0 : ((t294.length : Int) == 0) = false := beq_eq_false_iff_ne.mpr c43
                      have c43b1 : ((t294.length : Int) != 0) = true := bne_iff_ne.mpr c43
                      have c43b2 : ¬ (t294 = []) := fun h_ => c43 (by rw [h_]; rfl)
                      by_cases c51 : (ji11) < 3
                      · rw [if_pos c51] at H
                        have c51b0 : decide ((ji11) < 3) = true := decide_eq_true c51
                        clear c51
                        by_cases c52 : (ji11) > 0
                        · rw [if_pos c52] at H
                          have c52b0 : decide (0 < (ji11)) = true := decide_eq_true c52
                          clear c52
                          obtain rfl := Option.some.inj H
                          go_enter Try.func7, Try.ntmps7
                          go_wp2_with (first | ((with_reducible refine gate_callee (f := 9) rfl ?_); refine goesL_ (some 12) rfl rfl Try.func9 (by kernel_rfl) rfl #[] rfl (by (try simp only [List.map_toArray, List.map_cons, List.map_nil]); first | done | rfl | (simp only [List.length_drop, List.length_take]; rfl)) ?_; (with_reducible refine (augurylaw02_head.calls k  true _ A4.out).mono ?_); rintro e w53 ⟨rfl, hb⟩; refine ⟨_, rfl, ?_⟩; have n0_ := Aside0.mk (below_step (by repeat (first | (with_reducible first | exact HB.out | apply below_alloc | apply pw_below_drewN | apply below_drew1) | exact HB.out)) hb); clear HB; have HB := n0_; clear n0_; (try clear hb); (try clear hb2); (try clear hk); (try clear hi)) | ((with_reducible refine gate_callee (f := 14) rfl ?_); refine goesL_ (some 18) rfl rfl Try.func14 (by kernel_rfl) rfl #[.string a0] rfl (by (try simp only [List.map_toArray, List.map_cons, List.map_nil]); first | done | rfl | (simp only [List.length_drop, List.length_take]; rfl)) ?_; (with_reducible refine (frame_Put.calls k a0 t289 _ A8.out).mono ?_); rintro e w54 ⟨v290, rfl, ho0, hb⟩; refine ⟨_, rfl, ?_⟩; have n0_ := Aside0.mk (Kd.R_lower ho0 (below_size (by repeat (first | (with_reducible first | exact HB.out | apply below_alloc | apply pw_below_drewN | apply below_drew1) | exact HB.out)))); have n1_ := Aside0.mk (below_step (by repeat (first | (with_reducible first | exact HB.out | apply below_alloc | apply pw_below_drewN | apply below_drew1) | exact HB.out)) hb); clear HB; have HO291 := n0_; have HB := n1_; clear n0_ n1_; (try clear hb); (try clear hb2); (try clear hk); (try clear hi); (try clear ho0); obtain ⟨Ao55, co55, eo55⟩ := Kd.R_slice HO291.out; subst eo55; have p292 : 0 ≤ ((ji11) : Int) := of_decide_eq_true (by first | (with_reducible assumption) | assumption); have q292 : (ji11) < (t289.length : Int) := of_decide_eq_true (by first | (with_reducible assumption) | assumption); obtain ⟨ad292, e292, hx292_0⟩ := Kd.at_int (Kd.R_reads' HO291.out).2.2 (ji11) p292 q292; cases e292; replace p292 := eq_true p292; replace q292 := eq_true q292; have p19 : 0 ≤ ((ji11) : Int) := of_decide_eq_true (by first | (with_reducible assumption) | assumption); have q19 : ((ji11) : Int) < ((t289.length : Int) : Int) := of_decide_eq_true (by first | (with_reducible assumption) | assumption); obtain ⟨go19, co19, eo19, gb19, gl19, cl19, HG19⟩ := Kd.R_form HO291.out (by omega); (first | cases eo19 | (injection eo19 with ea_ en_ ec_; (first | subst ea_ | (injection ea_ with ea_; subst ea_)); subst ec_; clear en_)); have GB19 := Aside0.mk gb19; have GG19 := Aside0.mk HG19; clear gb19 gl19 HG19; (first | simp only [add_plain] at hx292_0 | skip); obtain ⟨hx19_0, hf19_0⟩ := Kd.R_celln 0 HO291.out ((ji11) : Int) p19 q19; replace p19 := eq_true p19; replace q19 := eq_true q19; obtain ⟨hy56_, hz56_⟩ := Kd.R_celln 0 HO291.out ((ji11) : Int) (of_decide_eq_true (by first | (with_reducible assumption) | assumption)) (of_decide_eq_true (by first | (with_reducible assumption) | assumption)); have HP56 := Kd.R_putg HO291.out ((ji11) : Int) a2) | ((with_reducible refine gate_store (t := 5) (p := 37) rfl ?_); refine store_event (t := 5) (p := 37) (v := ?vo_w57) (w1 := (w54.setCell ⟨go19, ((ji11) : Int).toNat, none⟩ (.int .u8 a2))) ?hg ?ho ?hn ?hr ?_; (case ho => rfl); (case hg => rfl); (case hn => rfl); (case hr => first | (go_simp; done) | (go_simp; rfl)); intro w57 hw; have hg : w54.grownBy w57 (some go19) := (by rw [hw]; exact HP56.2); have hp_ : Kd.R (Kd.int .u8) 5 w57 w.heap.size (fun _ => True) (.slice (some ⟨go19, 0, none⟩) t289.length co55) y293 := (by rw [hw, Ny293.out]; exact HP56.1); clear HP56; have n0_ := Aside0.mk (hp_); have n1_ := Aside0.mk ((by rw [hw]; exact below_set (HB.out) GB19.out : Below w.heap.size w w57)); clear HO291; clear HB; have HO291 := n0_; have HB := n1_; clear n0_ n1_; clear hg hw hp_) | ((with_reducible refine gate_callee (f := 10) rfl ?_); refine goesL_ (some 40) rfl rfl Try.func10 (by kernel_rfl) rfl #[.slice (some ⟨go19, 0, none⟩) y293.length co55] rfl (by (try simp only [List.map_toArray, List.map_cons, List.map_nil]); first | done | (rw [show y293.length = t289.length from (Kd.R_reads' HO291.out).1.symm] <;> rfl) | rfl | (simp only [List.length_drop, List.length_take]; rfl)) ?_; (with_reducible refine (frame_Cut.calls k _ _ y293 t294 t295 _ ?side1 ?side2 A20.out).mono ?_); (case side1 => repeat (first | exact (Kd.R_reads' HO291.out).2.2 | (with_reducible refine Kd.C_alloc ?_ _) | (with_reducible refine Kd.C_drewN ?_ _) | (with_reducible refine Kd.C_drew ?_))); (case side2 => rw [show y293.length = t289.length from (Kd.R_reads' HO291.out).1.symm]; exact (Kd.R_reads' HO291.out).2.1); rintro e w58 ⟨v296, rfl, ho0, hb⟩; refine ⟨_, rfl, ?_⟩; have n0_ := Aside0.mk (Kd.R_below (by (with_reducible repeat (first | apply Kd.R_alloc | apply Kd.R_drewN | apply Kd.R_drew)); exact HO291.out) hb); have n1_ := Aside0.mk (Kd.R_lower ho0 (below_size (by repeat (first | (with_reducible first | exact HB.out | apply below_alloc | apply pw_below_drewN | apply below_drew1) | exact HB.out)))); have n2_ := Aside0.mk (below_step (by repeat (first | (with_reducible first | exact HB.out | apply below_alloc | apply pw_below_drewN | apply below_drew1) | exact HB.out)) hb); clear HO291; clear HB; have HO291 := n0_; have HO297 := n1_; have HB := n2_; clear n0_ n1_ n2_; (try clear hb); (try clear hb2); (try clear hk); (try clear hi); (try clear ho0); obtain ⟨Ao59, co59, eo59⟩ := Kd.R_slice HO297.out; subst eo59))
                          go_ret
                          exact ⟨by first | rfl | (simp [errW_none, errW_some] <;> rfl) | (simp only [← hji11]; first | rfl | (simp [errW_none, errW_some] <;> rfl)) | (simp [*, errW_none, errW_some] <;> rfl), by repeat (first | (with_reducible first | exact HB.out | apply below_alloc | apply pw_below_drewN | apply below_drew1) | exact HB.out)⟩
                        · rw [if_neg c52] at H
                          exact absurd H (by simp)
                      · rw [if_neg c51] at H
                        exact absurd H (by simp)
                  · rw [if_neg c42] at H
                    have c42b0 : (t295 == 0) = false := beq_eq_false_iff_ne.mpr c42
                    have c42b1 : (t295 != 0) = true := bne_iff_ne.mpr c42
                    by_cases c60 : (ji11) < 3
                    · rw [if_pos c60] at H
                      have c60b0 : decide ((ji11) < 3) = true := decide_eq_true c60
                      clear c60
                      by_cases c61 : (ji11) > 0
                      · rw [if_pos c61] at H
                        have c61b0 : decide (0 < (ji11)) = true := decide_eq_true c61
                        clear c61
                        obtain rfl := Option.some.inj H
                        go_enter Try.func7, Try.ntmps7
                        go_wp2_with (first | ((with_reducible refine gate_callee (f := 9) rfl ?_); refine goesL_ (some 12) rfl rfl Try.func9 (by kernel_rfl) rfl #[] rfl (by (try simp only [List.map_toArray, List.map_cons, List.map_nil]); first | done | rfl | (simp only [List.length_drop, List.length_take]; rfl)) ?_; (with_reducible refine (augurylaw02_head.calls k  true _ A4.out).mono ?_); rintro e w62 ⟨rfl, hb⟩; refine ⟨_, rfl, ?_⟩; have n0_ := Aside0.mk (below_step (by repeat (first | (with_reducible first | exact HB.out | apply below_alloc | apply pw_below_drewN | apply below_drew1) | exact HB.out)) hb); clear HB; have HB := n0_; clear n0_; (try clear hb); (try clear hb2); (try clear hk); (try clear hi)) | ((with_reducible refine gate_callee (f := 14) rfl ?_); refine goesL_ (some 18) rfl rfl Try.func14 (by kernel_rfl) rfl #[.string a0] rfl (by (try simp only [List.map_toArray, List.map_cons, List.map_nil]); first | done | rfl | (simp only [List.length_drop, List.length_take]; rfl)) ?_; (with_reducible refine (frame_Put.calls k a0 t289 _ A8.out).mono ?_); rintro e w63 ⟨v290, rfl, ho0, hb⟩; refine ⟨_, rfl, ?_⟩; have n0_ := Aside0.mk (Kd.R_lower ho0 (below_size (by repeat (first | (with_reducible first | exact HB.out | apply below_alloc | apply pw_below_drewN | apply below_drew1) | exact HB.out)))); have n1_ := Aside0.mk (below_step (by repeat (first | (with_reducible first | exact HB.out | apply below_alloc | apply pw_below_drewN | apply below_drew1) | exact HB.out)) hb); clear HB; have HO291 := n0_; have HB := n1_; clear n0_ n1_; (try clear hb); (try clear hb2); (try clear hk); (try clear hi); (try clear ho0); obtain ⟨Ao64, co64, eo64⟩ := Kd.R_slice HO291.out; subst eo64; have p292 : 0 ≤ ((ji11) : Int) := of_decide_eq_true (by first | (with_reducible assumption) | assumption); have q292 : (ji11) < (t289.length : Int) := of_decide_eq_true (by first | (with_reducible assumption) | assumption); obtain ⟨ad292, e292, hx292_0⟩ := Kd.at_int (Kd.R_reads' HO291.out).2.2 (ji11) p292 q292; cases e292; replace p292 := eq_true p292; replace q292 := eq_true q292; have p19 : 0 ≤ ((ji11) : Int) := of_decide_eq_true (by first | (with_reducible assumption) | assumption); have q19 : ((ji11) : Int) < ((t289.length : Int) : Int) := of_decide_eq_true (by first | (with_reducible assumption) | assumption); obtain ⟨go19, co19, eo19, gb19, gl19, cl19, HG19⟩ := Kd.R_form HO291.out (by omega); (first | cases eo19 | (injection eo19 with ea_ en_ ec_; (first | subst ea_ | (injection ea_ with ea_; subst ea_)); subst ec_; clear en_)); have GB19 := Aside0.mk gb19; have GG19 := Aside0.mk HG19; clear gb19 gl19 HG19; (first | simp only [add_plain] at hx292_0 | skip); obtain ⟨hx19_0, hf19_0⟩ := Kd.R_celln 0 HO291.out ((ji11) : Int) p19 q19; replace p19 := eq_true p19; replace q19 := eq_true q19; obtain ⟨hy65_, hz65_⟩ := Kd.R_celln 0 HO291.out ((ji11) : Int) (of_decide_eq_true (by first | (with_reducible assumption) | assumption)) (of_decide_eq_true (by first | (with_reducible assumption) | assumption)); have HP65 := Kd.R_putg HO291.out ((ji11) : Int) a2) | ((with_reducible refine gate_store (t := 5) (p := 37) rfl ?_); refine store_event (t := 5) (p := 37) (v := ?vo_w66) (w1 := (w63.setCell ⟨go19, ((ji11) : Int).toNat, none⟩ (.int .u8 a2))) ?hg ?ho ?hn ?hr ?_; (case ho => rfl); (case hg => rfl); (case hn => rfl); (case hr => first | (go_simp; done) | (go_simp; rfl)); intro w66 hw; have hg : w63.grownBy w66 (some go19) := (by rw [hw]; exact HP65.2); have hp_ : Kd.R (Kd.int .u8) 5 w66 w.heap.size (fun _ => True) (.slice (some ⟨go19, 0, none⟩) t289.length co64) y293 := (by rw [hw, Ny293.out]; exact HP65.1); clear HP65; have n0_ := Aside0.mk (hp_); have n1_ := Aside0.mk ((by rw [hw]; exact below_set (HB.out) GB19.out : Below w.heap.size w w66)); clear HO291; clear HB; have HO291 := n0_; have HB := n1_; clear n0_ n1_; clear hg hw hp_) | ((with_reducible refine gate_callee (f := 10) rfl ?_); refine goesL_ (some 40) rfl rfl Try.func10 (by kernel_rfl) rfl #[.slice (some ⟨go19, 0, none⟩) y293.length co64] rfl (by (try simp only [List.map_toArray, List.map_cons, List.map_nil]); first | done | (rw [show y293.length = t289.length from (Kd.R_reads' HO291.out).1.symm] <;> rfl) | rfl | (simp only [List.length_drop, List.length_take]; rfl)) ?_; (with_reducible refine (frame_Cut.calls k _ _ y293 t294 t295 _ ?side1 ?side2 A20.out).mono ?_); (case side1 => repeat (first | exact (Kd.R_reads' HO291.out).2.2 | (with_reducible refine Kd.C_alloc ?_ _) | (with_reducible refine Kd.C_drewN ?_ _) | (with_reducible refine Kd.C_drew ?_))); (case side2 => rw [show y293.length = t289.length from (Kd.R_reads' HO291.out).1.symm]; exact (Kd.R_reads' HO291.out).2.1); rintro e w67 ⟨v296, rfl, ho0, hb⟩; refine ⟨_, rfl, ?_⟩; have n0_ := Aside0.mk (Kd.R_below (by (with_reducible repeat (first | apply Kd.R_alloc | apply Kd.R_drewN | apply Kd.R_drew)); exact HO291.out) hb); have n1_ := Aside0.mk (Kd.R_lower ho0 (below_size (by repeat (first | (with_reducible first | exact HB.out | apply below_alloc | apply pw_below_drewN | apply below_drew1) | exact HB.out)))); have n2_ := Aside0.mk (below_step (by repeat (first | (with_reducible first | exact HB.out | apply below_alloc | apply pw_below_drewN | apply below_drew1) | exact HB.out)) hb); clear HO291; clear HB; have HO291 := n0_; have HO297 := n1_; have HB := n2_; clear n0_ n1_ n2_; (try clear hb); (try clear hb2); (try clear hk); (try clear hi); (try clear ho0)))
                        go_ret
                        exact ⟨by first | rfl | (simp [errW_none, errW_some] <;> rfl) | (simp only [← hji11]; first | rfl | (simp [errW_none, errW_some] <;> rfl)) | (simp [*, errW_none, errW_some] <;> rfl), by repeat (first | (with_reducible first | exact HB.out | apply below_alloc | apply pw_below_drewN | apply below_drew1) | exact HB.out)⟩
                      · rw [if_neg c61] at H
                        exact absurd H (by simp)
                    · rw [if_neg c60] at H
                      exact absurd H (by simp)
                · replace c41 := Bool.eq_false_iff.mpr c41
                  subst c41
                  have H1 : (none) = some r := by rw [if_neg (show ¬ (false = true) by decide)] at H; exact H
                  clear H
                  have H := H1
                  clear H1
                  exact absurd H (by simp)
          · rw [if_neg c13] at H
            exact absurd H (by simp)
        · rw [if_neg c12] at H
          exact absurd H (by simp)

/-- THE ONE PURE STATEMENT of augurylaw02_FrameWrong: yours. -/
def augurylaw02_FrameWrong.Pure : Prop := ∀ (a0 : ByteArray) (a1 : Int) (a2 : Int), a0.size ≤ 140737488351232 → (Lit.int .u16 a1).wf = true → (Lit.int .u8 a2).wf = true → ∃ k, augurylaw02_FrameWrong.f k a0 a1 a2 = some true
theorem augurylaw02_FrameWrong.walk (P : augurylaw02_FrameWrong.Pure) (a0 : ByteArray) (a1 : Int) (a2 : Int) (w : World) (w0 : a0.size ≤ 140737488351232) (w1 : (Lit.int .u16 a1).wf = true) (w2 : (Lit.int .u8 a2).wf = true) :
    Calls Try.prog 7 #[.string a0, .int .u16 a1, .int .u8 a2] w fun e w' => e = .returned (.bool true) ∧ Below w.heap.size w w' := by
  obtain ⟨k, h⟩ := P a0 a1 a2 w0 w1 w2
  refine (augurylaw02_FrameWrong.calls k a0 a1 a2 true w h).mono ?_
  rintro e w' ⟨rfl, hd⟩
  exact ⟨rfl, hd⟩

end Go.Proofs.Ytkljljjmphneiaa.PAll
