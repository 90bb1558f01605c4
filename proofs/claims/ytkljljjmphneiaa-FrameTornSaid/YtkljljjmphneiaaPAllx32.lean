/- Written by this session's own program (wip/xprint): functions of the Go program as Lean functions, and proofs that the Go code computes them. -/
import Derived.Test.YtkljljjmphneiaaPAllx0
import Derived.Test.YtkljljjmphneiaaPAllx20
import Derived.Test.YtkljljjmphneiaaPAllx22
import Derived.Test.YtkljljjmphneiaaPAllx23
import Derived.Test.YtkljljjmphneiaaPAllx27
import Derived.Test.YtkljljjmphneiaaPAllx29
import Derived.Test.YtkljljjmphneiaaPAllx30
namespace Go.Proofs.Ytkljljjmphneiaa.PAll
open Go.RowKit Go.Proofs.YtkljljjmphneiaaW.PrintWords Go.Proofs.YtkljljjmphneiaaW.PrintLast Go.Proofs.YtkljljjmphneiaaW.PrintMore
attribute [local go_sem] max2_int min2_int max_two min_two max_three min_three max_four min_four   -- for this text's walks alone
set_option linter.unusedVariables false
set_option linter.unusedSimpArgs false

/-! ### augurylaw02_FrameTorn: function 5 -/
def augurylaw02_FrameTorn.l0 : Nat → List ByteArray → Bool → Int → List ByteArray → Int → List ByteArray → Int → Int → Option (Bool)
  | 0, _, _, _, _, _, _, _, _ => none
  | k + 1, x0, x5, x7, x8, x9, x10, x11, x12 => if x12 < (x0.length : Int) then (if 0 ≤ x12 then ((frame_Put.f k (rdOf ByteArray.empty x0 x12)).bind fun t266 => (if (t266.length : Int) = 0 then (augurylaw02_FrameTorn.l0 k x0 x5 x7 x8 x9 x10 x11 (wrap64 (x12 + 1))) else (if (wrap64 (x11 + (t266.length : Int))) > x7 then (if x5 = true then ((auguryref02_Same.f k x8 x10).bind fun t269 => (if t269 = true then (if x9 = x11 then (some true) else (none)) else (none))) else (none)) else (if x10.length < 8796093022208 then (augurylaw02_FrameTorn.l0 k x0 x5 x7 x8 x9 (x10 ++ [rdOf ByteArray.empty x0 x12]) (wrap64 (x11 + (t266.length : Int))) (wrap64 (x12 + 1))) else (none))))) else (none)) else (if x5 = true then ((auguryref02_Same.f k x8 x10).bind fun t264 => (if t264 = true then (if x9 = x11 then (some true) else (none)) else (none))) else (none))
def augurylaw02_FrameTorn.f (k : Nat) (l0 : List ByteArray) (a1 : Int) : Option (Bool) := (augurylaw02_head.f k).bind fun t251 => ((augurylaw02_great.f k l0).bind fun t252 => (if t252 = true then (if t251 = true then (some true) else (none)) else ((augurylaw02_all.f k l0).bind fun t253 => (if (wrap64 ((t253.length : Int) + 1)) = 0 then (none) else (if 0 ≤ (Int.tmod (wrap64 (a1)) (wrap64 ((t253.length : Int) + 1))) then (if (Int.tmod (wrap64 (a1)) (wrap64 ((t253.length : Int) + 1))) ≤ (t253.length : Int) then ((frame_Cut.f k (t253.take ((Int.tmod (wrap64 (a1)) (wrap64 ((t253.length : Int) + 1))) : Int).toNat)).bind fun bt260 => (augurylaw02_FrameTorn.l0 k l0 t251 (Int.tmod (wrap64 (a1)) (wrap64 ((t253.length : Int) + 1))) bt260.1 bt260.2 ([] : List ByteArray) 0 0)) else (none)) else (none))))))
theorem augurylaw02_FrameTorn.mono_l : ∀ k, (∀ y0 y1 y2 y3 y4 y5 y6 y7, LeO (augurylaw02_FrameTorn.l0 k y0 y1 y2 y3 y4 y5 y6 y7) (augurylaw02_FrameTorn.l0 (k + 1) y0 y1 y2 y3 y4 y5 y6 y7))
  | 0 => fun _ _ _ _ _ _ _ _ r h => by simp [augurylaw02_FrameTorn.l0] at h
  | k + 1 => by
    have ih0 := augurylaw02_FrameTorn.mono_l k
    · intro y0 y1 y2 y3 y4 y5 y6 y7
      unfold augurylaw02_FrameTorn.l0
      repeat' first
      | (with_reducible exact ih0 _ _ _ _ _ _ _ _)
      | (with_reducible exact augurylaw02_all.mono _ _)
      | (with_reducible exact augurylaw02_great.mono _ _)
      | (with_reducible exact augurylaw02_head.mono _)
      | (with_reducible exact auguryref02_Same.mono _ _ _)
      | (with_reducible exact frame_Cut.mono _ _)
      | (with_reducible exact frame_Put.mono _ _)
      | (with_reducible exact LeO.refl _)
      | (with_reducible exact LeO.none _)
      | (with_reducible refine LeO.ite ?_ ?_)
      | (with_reducible refine LeO.bind ?_ (fun _ => ?_))
      | exact ih0 _ _ _ _ _ _ _ _
      | exact augurylaw02_all.mono _ _
      | exact augurylaw02_great.mono _ _
      | exact augurylaw02_head.mono _
      | exact auguryref02_Same.mono _ _ _
      | exact frame_Cut.mono _ _
      | exact frame_Put.mono _ _
      | exact LeO.none _
      | refine LeO.ite ?_ ?_
      | refine LeO.bind ?_ (fun _ => ?_)
theorem augurylaw02_FrameTorn.mono : ∀ a0 a1 k, LeO (augurylaw02_FrameTorn.f k a0 a1) (augurylaw02_FrameTorn.f (k + 1) a0 a1) := by
  intro a0 a1 k
  have ih0 := augurylaw02_FrameTorn.mono_l k
  unfold augurylaw02_FrameTorn.f
  repeat' first
      | (with_reducible exact ih0 _ _ _ _ _ _ _ _)
      | (with_reducible exact augurylaw02_all.mono _ _)
      | (with_reducible exact augurylaw02_great.mono _ _)
      | (with_reducible exact augurylaw02_head.mono _)
      | (with_reducible exact auguryref02_Same.mono _ _ _)
      | (with_reducible exact frame_Cut.mono _ _)
      | (with_reducible exact frame_Put.mono _ _)
      | (with_reducible exact LeO.refl _)
      | (with_reducible exact LeO.none _)
      | (with_reducible refine LeO.ite ?_ ?_)
      | (with_reducible refine LeO.bind ?_ (fun _ => ?_))
      | exact ih0 _ _ _ _ _ _ _ _
      | exact augurylaw02_all.mono _ _
      | exact augurylaw02_great.mono _ _
      | exact augurylaw02_head.mono _
      | exact auguryref02_Same.mono _ _ _
      | exact frame_Cut.mono _ _
      | exact frame_Put.mono _ _
      | exact LeO.none _
      | refine LeO.ite ?_ ?_
      | refine LeO.bind ?_ (fun _ => ?_)
set_option maxHeartbeats 8000000 in
set_option maxRecDepth 100000 in
theorem augurylaw02_FrameTorn.calls (k : Nat) (A0 : Option Addr) (c0 : Nat) (l0 : List ByteArray) (a1 : Int) (r : Bool) (w : World) (hr0 : Kd.C Kd.string w A0 l0.length l0) (hc0 : l0.length ≤ c0) (h : augurylaw02_FrameTorn.f k l0 a1 = some r) :
    Calls Try.prog 5 #[.slice A0 l0.length c0, .int .u16 a1] w fun e w' => e = .returned (.bool r) ∧ Below w.heap.size w w' := by
  have HR0 := Aside0.mk hr0
  have HC0 := Aside0.mk hc0
  clear hr0 hc0
  have HB := Aside0.mk (Below.refl w.heap.size w)
  have H : ((augurylaw02_head.f k).bind fun t251 => ((augurylaw02_great.f k l0).bind fun t252 => (if t252 = true then (if t251 = true then (some true) else (none)) else ((augurylaw02_all.f k l0).bind fun t253 => (if (wrap64 ((t253.length : Int) + 1)) = 0 then (none) else (if 0 ≤ (Int.tmod (wrap64 (a1)) (wrap64 ((t253.length : Int) + 1))) then (if (Int.tmod (wrap64 (a1)) (wrap64 ((t253.length : Int) + 1))) ≤ (t253.length : Int) then ((frame_Cut.f k (t253.take ((Int.tmod (wrap64 (a1)) (wrap64 ((t253.length : Int) + 1))) : Int).toNat)).bind fun bt260 => (augurylaw02_FrameTorn.l0 k l0 t251 (Int.tmod (wrap64 (a1)) (wrap64 ((t253.length : Int) + 1))) bt260.1 bt260.2 ([] : List ByteArray) 0 0)) else (none)) else (none))))))) = some r := h
  clear h
  replace H := Option.bind_eq_some_iff.mp H
  obtain ⟨t251, A30, H⟩ := H
  replace H : ((augurylaw02_great.f k l0).bind fun t252 => (if t252 = true then (if t251 = true then (some true) else (none)) else ((augurylaw02_all.f k l0).bind fun t253 => (if (wrap64 ((t253.length : Int) + 1)) = 0 then (none) else (if 0 ≤ (Int.tmod (wrap64 (a1)) (wrap64 ((t253.length : Int) + 1))) then (if (Int.tmod (wrap64 (a1)) (wrap64 ((t253.length : Int) + 1))) ≤ (t253.length : Int) then ((frame_Cut.f k (t253.take ((Int.tmod (wrap64 (a1)) (wrap64 ((t253.length : Int) + 1))) : Int).toNat)).bind fun bt260 => (augurylaw02_FrameTorn.l0 k l0 t251 (Int.tmod (wrap64 (a1)) (wrap64 ((t253.length : Int) + 1))) bt260.1 bt260.2 ([] : List ByteArray) 0 0)) else (none)) else (none)))))) = some r := H
  have A3 := Aside0.mk A30
  clear A30
  replace H := Option.bind_eq_some_iff.mp H
  obtain ⟨t252, A40, H⟩ := H
  replace H : (if t252 = true then (if t251 = true then (some true) else (none)) else ((augurylaw02_all.f k l0).bind fun t253 => (if (wrap64 ((t253.length : Int) + 1)) = 0 then (none) else (if 0 ≤ (Int.tmod (wrap64 (a1)) (wrap64 ((t253.length : Int) + 1))) then (if (Int.tmod (wrap64 (a1)) (wrap64 ((t253.length : Int) + 1))) ≤ (t253.length : Int) then ((frame_Cut.f k (t253.take ((Int.tmod (wrap64 (a1)) (wrap64 ((t253.length : Int) + 1))) : Int).toNat)).bind fun bt260 => (augurylaw02_FrameTorn.l0 k l0 t251 (Int.tmod (wrap64 (a1)) (wrap64 ((t253.length : Int) + 1))) bt260.1 bt260.2 ([] : List ByteArray) 0 0)) else (none)) else (none))))) = some r := H
  have A4 := Aside0.mk A40
  clear A40
  by_cases c5 : t252 = true
  · subst c5
    have H1 : (if t251 = true then (some true) else (none)) = some r := by rw [if_pos rfl] at H; exact H
    clear H
    have H := H1
    clear H1
    by_cases c6 : t251 = true
    · subst c6
      have H1 : (some true) = some r := by rw [if_pos rfl] at H; exact H
      clear H
      have H := H1
      clear H1
      obtain rfl := Option.some.inj H
      go_enter Try.func5, Try.ntmps5
      go_wp2_with (first | ((with_reducible refine gate_callee (f := 9) rfl ?_); refine goesL_ (some 14) rfl rfl Try.func9 (by kernel_rfl) rfl #[] rfl (by (try simp only [List.map_toArray, List.map_cons, List.map_nil]); first | done | rfl | (simp only [List.length_drop, List.length_take]; rfl)) ?_; (with_reducible refine (augurylaw02_head.calls k  true _ A3.out).mono ?_); rintro e w7 ⟨rfl, hb⟩; refine ⟨_, rfl, ?_⟩; have n0_ := Aside0.mk (below_step (by repeat (first | (with_reducible first | exact HB.out | apply below_alloc | apply pw_below_drewN | apply below_drew1) | exact HB.out)) hb); clear HB; have HB := n0_; clear n0_; (try clear hb); (try clear hb2); (try clear hk); (try clear hi)) | ((with_reducible refine gate_callee (f := 17) rfl ?_); refine goesL_ (some 16) rfl rfl Try.func17 (by kernel_rfl) rfl #[.slice A0 l0.length c0] rfl (by (try simp only [List.map_toArray, List.map_cons, List.map_nil]); first | done | rfl | (simp only [List.length_drop, List.length_take]; rfl)) ?_; (with_reducible refine (augurylaw02_great.calls k _ _ l0 true _ ?side1 ?side2 A4.out).mono ?_); (case side1 => repeat (first | exact (Kd.C_below HR0.out HB.out) | (with_reducible refine Kd.C_alloc ?_ _) | (with_reducible refine Kd.C_drewN ?_ _) | (with_reducible refine Kd.C_drew ?_))); (case side2 => exact HC0.out); rintro e w8 ⟨rfl, hb⟩; refine ⟨_, rfl, ?_⟩; have n0_ := Aside0.mk (below_step (by repeat (first | (with_reducible first | exact HB.out | apply below_alloc | apply pw_below_drewN | apply below_drew1) | exact HB.out)) hb); clear HB; have HB := n0_; clear n0_; (try clear hb); (try clear hb2); (try clear hk); (try clear hi)))
      go_ret
      exact ⟨by first | rfl | (simp [errW_none, errW_some] <;> rfl) | (simp [*, errW_none, errW_some] <;> rfl), by repeat (first | (with_reducible first | exact HB.out | apply below_alloc | apply pw_below_drewN | apply below_drew1) | exact HB.out)⟩
    · replace c6 := Bool.eq_false_iff.mpr c6
      subst c6
      have H1 : (none) = some r := by rw [if_neg (show ¬ (false = true) by decide)] at H; exact H
      clear H
      have H := H1
      clear H1
      exact absurd H (by simp)
  · replace c5 := Bool.eq_false_iff.mpr c5
    subst c5
    have H1 : ((augurylaw02_all.f k l0).bind fun t253 => (if (wrap64 ((t253.length : Int) + 1)) = 0 then (none) else (if 0 ≤ (Int.tmod (wrap64 (a1)) (wrap64 ((t253.length : Int) + 1))) then (if (Int.tmod (wrap64 (a1)) (wrap64 ((t253.length : Int) + 1))) ≤ (t253.length : Int) then ((frame_Cut.f k (t253.take ((Int.tmod (wrap64 (a1)) (wrap64 ((t253.length : Int) + 1))) : Int).toNat)).bind fun bt260 => (augurylaw02_FrameTorn.l0 k l0 t251 (Int.tmod (wrap64 (a1)) (wrap64 ((t253.length : Int) + 1))) bt260.1 bt260.2 ([] : List ByteArray) 0 0)) else (none)) else (none)))) = some r := by rw [if_neg (show ¬ (false = true) by decide)] at H; exact H
    clear H
    have H := H1
    clear H1
    replace H := Option.bind_eq_some_iff.mp H
    obtain ⟨t253, A90, H⟩ := H
    replace H : (if (wrap64 ((t253.length : Int) + 1)) = 0 then (none) else (if 0 ≤ (Int.tmod (wrap64 (a1)) (wrap64 ((t253.length : Int) + 1))) then (if (Int.tmod (wrap64 (a1)) (wrap64 ((t253.length : Int) + 1))) ≤ (t253.length : Int) then ((frame_Cut.f k (t253.take ((Int.tmod (wrap64 (a1)) (wrap64 ((t253.length : Int) + 1))) : Int).toNat)).bind fun bt260 => (augurylaw02_FrameTorn.l0 k l0 t251 (Int.tmod (wrap64 (a1)) (wrap64 ((t253.length : Int) + 1))) bt260.1 bt260.2 ([] : List ByteArray) 0 0)) else (none)) else (none))) = some r := H
    have A9 := Aside0.mk A90
    clear A90
    by_cases c10 : (wrap64 ((t253.length : Int) + 1)) = 0
    · rw [if_pos c10] at H
      exact absurd H (by simp)
    · rw [if_neg c10] at H
      have c10b0 : ((wrap64 ((t253.length : Int) + 1)) == 0) = false := beq_eq_false_iff_ne.mpr c10
      have c10b1 : ((wrap64 ((t253.length : Int) + 1)) != 0) = true := bne_iff_ne.mpr c10
      obtain ⟨ji11, hji11⟩ : ∃ j_ : Int, (Int.tmod (wrap64 (a1)) (wrap64 ((t253.length : Int) + 1))) = j_ := ⟨_, rfl⟩
      replace H : (if 0 ≤ (ji11) then (if (ji11) ≤ (t253.length : Int) then ((frame_Cut.f k (t253.take ((ji11) : Int).toNat)).bind fun bt260 => (augurylaw02_FrameTorn.l0 k l0 t251 ji11 bt260.1 bt260.2 ([] : List ByteArray) 0 0)) else (none)) else (none)) = some r := by first | (rw [hji11] at H; exact H) | (simp only [hji11] at H ⊢; exact H)
      (try rw [hji11] at A3)
      (try rw [hji11] at A4)
      (try rw [hji11] at A9)
      by_cases c12 : 0 ≤ (ji11)
      · rw [if_pos c12] at H
        have c12b0 := eq_true c12
        have c12b1 : decide (0 ≤ (ji11)) = true := decide_eq_true c12
        clear c12
        by_cases c13 : (ji11) ≤ (t253.length : Int)
        · rw [if_pos c13] at H
          have c13b0 := eq_true c13
          have c13b1 : decide ((ji11) ≤ (t253.length : Int)) = true := decide_eq_true c13
          clear c13
          obtain ⟨y256, hy256⟩ : ∃ y_ : List Int, y_ = (t253.take ((ji11) : Int).toNat) := ⟨_, rfl⟩
          replace H : ((frame_Cut.f k y256).bind fun bt260 => (augurylaw02_FrameTorn.l0 k l0 t251 ji11 bt260.1 bt260.2 ([] : List ByteArray) 0 0)) = some r := by first | (rw [hy256]; with_reducible exact H) | (have H2_ := (Option.bind_some _ _).symm.trans H; rw [hy256]; with_reducible exact H2_) | (have H2_ := (Option.bind_some _ _).symm.trans H; with_reducible exact H2_) | with_reducible exact H | (rw [hy256]; exact H) | exact H
          have Ny256 := Aside0.mk hy256
          clear hy256
          replace H := Option.bind_eq_some_iff.mp H
          obtain ⟨⟨t260, t261⟩, A140, H⟩ := H
          replace H : (augurylaw02_FrameTorn.l0 k l0 t251 ji11 t260 t261 ([] : List ByteArray) 0 0) = some r := H
          have A14 := Aside0.mk A140
          clear A140
          have H' := Aside0.mk H
          clear H
          go_enter Try.func5, Try.ntmps5
          go_wp2_with (first | ((with_reducible refine gate_callee (f := 9) rfl ?_); refine goesL_ (some 14) rfl rfl Try.func9 (by kernel_rfl) rfl #[] rfl (by (try simp only [List.map_toArray, List.map_cons, List.map_nil]); first | done | rfl | (simp only [List.length_drop, List.length_take]; rfl)) ?_; (with_reducible refine (augurylaw02_head.calls k  t251 _ A3.out).mono ?_); rintro e w15 ⟨rfl, hb⟩; refine ⟨_, rfl, ?_⟩; have n0_ := Aside0.mk (below_step (by repeat (first | (with_reducible first | exact HB.out | apply below_alloc | apply pw_below_drewN | apply below_drew1) | exact HB.out)) hb); clear HB; have HB := n0_; clear n0_; (try clear hb); (try clear hb2); (try clear hk); (try clear hi)) | ((with_reducible refine gate_callee (f := 17) rfl ?_); refine goesL_ (some 16) rfl rfl Try.func17 (by kernel_rfl) rfl #[.slice A0 l0.length c0] rfl (by (try simp only [List.map_toArray, List.map_cons, List.map_nil]); first | done | rfl | (simp only [List.length_drop, List.length_take]; rfl)) ?_; (with_reducible refine (augurylaw02_great.calls k _ _ l0 false _ ?side1 ?side2 A4.out).mono ?_); (case side1 => repeat (first | exact (Kd.C_below HR0.out HB.out) | (with_reducible refine Kd.C_alloc ?_ _) | (with_reducible refine Kd.C_drewN ?_ _) | (with_reducible refine Kd.C_drew ?_))); (case side2 => exact HC0.out); rintro e w16 ⟨rfl, hb⟩; refine ⟨_, rfl, ?_⟩; have n0_ := Aside0.mk (below_step (by repeat (first | (with_reducible first | exact HB.out | apply below_alloc | apply pw_below_drewN | apply below_drew1) | exact HB.out)) hb); clear HB; have HB := n0_; clear n0_; (try clear hb); (try clear hb2); (try clear hk); (try clear hi)) | ((with_reducible refine gate_callee (f := 18) rfl ?_); refine goesL_ (some 19) rfl rfl Try.func18 (by kernel_rfl) rfl #[.slice A0 l0.length c0] rfl (by (try simp only [List.map_toArray, List.map_cons, List.map_nil]); first | done | rfl | (simp only [List.length_drop, List.length_take]; rfl)) ?_; (with_reducible refine (augurylaw02_all.calls k _ _ l0 t253 _ ?side1 ?side2 A9.out).mono ?_); (case side1 => repeat (first | exact (Kd.C_below HR0.out HB.out) | (with_reducible refine Kd.C_alloc ?_ _) | (with_reducible refine Kd.C_drewN ?_ _) | (with_reducible refine Kd.C_drew ?_))); (case side2 => exact HC0.out); rintro e w17 ⟨v254, rfl, ho0, hb⟩; refine ⟨_, rfl, ?_⟩; have n0_ := Aside0.mk (Kd.R_lower ho0 (below_size (by repeat (first | (with_reducible first | exact HB.out | apply below_alloc | apply pw_below_drewN | apply below_drew1) | exact HB.out)))); have n1_ := Aside0.mk (below_step (by repeat (first | (with_reducible first | exact HB.out | apply below_alloc | apply pw_below_drewN | apply below_drew1) | exact HB.out)) hb); clear HB; have HO255 := n0_; have HB := n1_; clear n0_ n1_; (try clear hb); (try clear hb2); (try clear hk); (try clear hi); (try clear ho0); obtain ⟨Ao18, co18, eo18⟩ := Kd.R_slice HO255.out; subst eo18; have q19 : ((ji11) : Int) ≤ ((t253.length : Int) : Int) := of_decide_eq_true (by first | (with_reducible assumption) | assumption); obtain ⟨i019, hi019, _, hsz19, _⟩ := info_parts info5; have hroom19 : t253.length ≤ co18 := (Kd.R_reads' HO255.out).2.1; have hC19 : Kd.C (Kd.int .u8) _ Ao18 t253.length t253 := (Kd.R_reads' HO255.out).2.2; have hcut19 := cut_to (P := Try.prog) 22 5 .i64 Try.underlying22 hi019 Ao18 t253.length co18 (ji11) (of_decide_eq_true (by first | (with_reducible assumption) | assumption)) q19 hroom19; have hr19 := Kd.C_take (m := ((ji11) : Int).toNat) hC19 (by omega); have hy19 : y256.length = ((ji11) : Int).toNat := (by rw [Ny256.out, List.length_take]; omega); rw [← Ny256.out] at hr19; rw [← hy19] at hcut19; have HR259 := Aside0.mk hr19; have HC259 := Aside0.mk (show y256.length ≤ co18 from by omega); clear hr19 hC19 hroom19 hi019 hsz19; have KY19 := Aside0.mk hy19; clear hy19; have KL19 := Aside0.mk (show ((ji11) : Int).toNat ≤ t253.length from by omega); replace q19 := eq_true q19) | ((with_reducible refine gate_callee (f := 10) rfl ?_); refine goesL_ (some 30) rfl rfl Try.func10 (by kernel_rfl) rfl #[.slice Ao18 y256.length co18] rfl (by (try simp only [List.map_toArray, List.map_cons, List.map_nil]); first | done | rfl | (simp only [List.length_drop, List.length_take]; rfl)) ?_; (with_reducible refine (frame_Cut.calls k _ _ y256 t260 t261 _ ?side1 ?side2 A14.out).mono ?_); (case side1 => repeat (first | exact (by repeat (first | (with_reducible exact HR259.out) | (with_reducible refine Kd.C_alloc ?_ _) | (with_reducible refine Kd.C_drewN ?_ _) | (with_reducible refine Kd.C_drew ?_) | exact HR259.out)) | (with_reducible refine Kd.C_alloc ?_ _) | (with_reducible refine Kd.C_drewN ?_ _) | (with_reducible refine Kd.C_drew ?_))); (case side2 => exact HC259.out); rintro e w20 ⟨v262, rfl, ho0, hb⟩; refine ⟨_, rfl, ?_⟩; have n0_ := Aside0.mk (Kd.R_below (by (with_reducible repeat (first | apply Kd.R_alloc | apply Kd.R_drewN | apply Kd.R_drew)); exact HO255.out) hb); have n1_ := Aside0.mk (Kd.R_lower ho0 (below_size (by repeat (first | (with_reducible first | exact HB.out | apply below_alloc | apply pw_below_drewN | apply below_drew1) | exact HB.out)))); have n2_ := Aside0.mk (Kd.C_below (by repeat (first | (with_reducible exact HR259.out) | (with_reducible refine Kd.C_alloc ?_ _) | (with_reducible refine Kd.C_drewN ?_ _) | (with_reducible refine Kd.C_drew ?_) | exact HR259.out)) hb); have n3_ := Aside0.mk (below_step (by repeat (first | (with_reducible first | exact HB.out | apply below_alloc | apply pw_below_drewN | apply below_drew1) | exact HB.out)) hb); clear HO255; clear HR259; clear HB; have HO255 := n0_; have HO263 := n1_; have HR259 := n2_; have HB := n3_; clear n0_ n1_ n2_ n3_; (try clear hb); (try clear hb2); (try clear hk); (try clear hi); (try clear ho0)))
          go_loopg [10, 11, 12] k (fun kq v10 v11 v12 w' => ∃ (x10_1 : List ByteArray) (x11_1 : Int) (x12_1 : Int), v11 = .int .i64 x11_1 ∧ v12 = .int .i64 x12_1 ∧ Aside0 (augurylaw02_FrameTorn.l0 kq l0 t251 ji11 t260 t261 x10_1 x11_1 x12_1 = some r) ∧ Aside0 (kq ≤ k) ∧ Aside0 (Kd.R Kd.string 9 w' w.heap.size (fun k_ => some k_ ≠ (v10 : Value).ownBlock) v262 t260) ∧ Aside0 (Kd.R Kd.string 9 w' w.heap.size (fun k_ => some k_ ≠ (v262 : Value).ownBlock) v10 x10_1) ∧ Aside0 (Below w.heap.size w w'))
          case atStart => exact ⟨(([] : List ByteArray)), (0), (0), (by first | rfl | (simp; done) | (simp [*]; done) | grind), (by first | rfl | (simp; done) | (simp [*]; done) | grind), H', ⟨Nat.le_refl _⟩, ⟨by (with_reducible repeat (first | apply Kd.R_alloc | apply Kd.R_drewN | apply Kd.R_drew)); exact Kd.R_mono HO263.out (fun _ hk => (by simp [Value.ownBlock]))⟩, ⟨by first | exact Kd.R_nil _ _ _ _ _ | exact Kd.N_nil _ _ _ _ _ | exact Kd.V_nil _ _ _ _ _ | exact Kd.Q_nil _ _ _ _ _ | exact Kd.S_nil _ _ _ _ _⟩, ⟨by repeat (first | (with_reducible first | exact HB.out | apply below_alloc | apply pw_below_drewN | apply below_drew1) | exact HB.out)⟩⟩
          case round =>
            clear H'
            try clear c1
            try clear q1
            try clear p2
            try clear c5
            try clear c6
            try clear p6
            try clear c9
            try clear c10
            try clear c10b0
            try clear c10b1
            try clear c12
            try clear c12b0
            try clear c12b1
            try clear c13
            try clear c13b0
            try clear c13b1
            try clear c17
            try clear c18
            try clear q19
            try clear q19
            obtain ⟨x10_1, x11_1, x12_1, rfl, rfl, HA, HK1, HO_8, HO_10, HB⟩ := hrel
            cases gk with
            | zero => exact absurd HA.out (by simp [augurylaw02_FrameTorn.l0])
            | succ k1 =>
              have H := HA.out
              clear HA
              simp only [augurylaw02_FrameTorn.l0] at H
              by_cases c21 : x12_1 < (l0.length : Int)
              · rw [if_pos c21] at H
                have c21b0 : decide (x12_1 < (l0.length : Int)) = true := decide_eq_true c21
                clear c21
                by_cases c22 : 0 ≤ x12_1
                · rw [if_pos c22] at H
                  have c22b0 : decide (0 ≤ x12_1) = true := decide_eq_true c22
                  clear c22
                  replace H := Option.bind_eq_some_iff.mp H
                  obtain ⟨t266, A230, H⟩ := H
                  replace H : (if (t266.length : Int) = 0 then (augurylaw02_FrameTorn.l0 k1 l0 t251 ji11 t260 t261 x10_1 x11_1 (wrap64 (x12_1 + 1))) else (if (wrap64 (x11_1 + (t266.length : Int))) > ji11 then (if t251 = true then ((auguryref02_Same.f k1 t260 x10_1).bind fun t269 => (if t269 = true then (if t261 = x11_1 then (some true) else (none)) else (none))) else (none)) else (if x10_1.length < 8796093022208 then (augurylaw02_FrameTorn.l0 k1 l0 t251 ji11 t260 t261 (x10_1 ++ [rdOf ByteArray.empty l0 x12_1]) (wrap64 (x11_1 + (t266.length : Int))) (wrap64 (x12_1 + 1))) else (none)))) = some r := H
                  have A23 := Aside0.mk A230
                  clear A230
                  by_cases c24 : (t266.length : Int) = 0
                  · rw [if_pos c24] at H
                    have c24b0 : ((t266.length : Int) == 0) = true := beq_iff_eq.mpr c24
                    have c24b1 : ((t266.length : Int) != 0) = false := bne_eq_false_iff_eq.mpr c24
                    clear c24
                    have H' := Aside0.mk H
                    clear H
                    have p265 : 0 ≤ (x12_1 : Int) := of_decide_eq_true (by first | (with_reducible assumption) | assumption)
                    have q265 : x12_1 < (l0.length : Int) := of_decide_eq_true (by first | (with_reducible assumption) | assumption)
                    obtain ⟨ad265, e265, hx265_0⟩ := Kd.at_string HR0.out x12_1 p265 q265
                    cases e265
                    replace hx265_0 := (HB.out.cell (World.block_lt_of_cell? w _ hx265_0)).trans hx265_0
                    replace p265 := eq_true p265
                    replace q265 := eq_true q265
                    go_wp2_with (first | ((with_reducible refine gate_callee (f := 14) rfl ?_); refine goesL_ (some 43) rfl rfl Try.func14 (by kernel_rfl) rfl #[.string (rdOf ByteArray.empty l0 x12_1)] rfl (by (try simp only [List.map_toArray, List.map_cons, List.map_nil]); first | done | rfl | (simp only [List.length_drop, List.length_take]; rfl)) ?_; (with_reducible refine (frame_Put.calls k1 (rdOf ByteArray.empty l0 x12_1) t266 _ A23.out).mono ?_); rintro e w25 ⟨v267, rfl, ho0, hb⟩; refine ⟨_, rfl, ?_⟩; have n0_ := Aside0.mk (Kd.R_below (by (with_reducible repeat (first | apply Kd.R_alloc | apply Kd.R_drewN | apply Kd.R_drew)); exact HO_8.out) hb); have n1_ := Aside0.mk (Kd.R_below (by (with_reducible repeat (first | apply Kd.R_alloc | apply Kd.R_drewN | apply Kd.R_drew)); exact HO_10.out) hb); have n2_ := Aside0.mk (Kd.R_lower ho0 (below_size (by repeat (first | (with_reducible first | exact HB.out | apply below_alloc | apply pw_below_drewN | apply below_drew1) | exact HB.out)))); have n3_ := Aside0.mk (below_step (by repeat (first | (with_reducible first | exact HB.out | apply below_alloc | apply pw_below_drewN | apply below_drew1) | exact HB.out)) hb); clear HO_8; clear HO_10; clear HB; have HO_8 := n0_; have HO_10 := n1_; have HO268 := n2_; have HB := n3_; clear n0_ n1_ n2_ n3_; (try clear hb); (try clear hb2); (try clear hk); (try clear hi); (try clear ho0); obtain ⟨Ao26, co26, eo26⟩ := Kd.R_slice HO268.out; subst eo26))
                    go_roundg k1
                    case measure => have := HK1.out; omega
                    case rel => exact ⟨(x10_1), (x11_1), (wrap64 (x12_1 + 1)), (by first | rfl | (simp; done) | (simp [*]; done) | grind), (by first | rfl | (simp; done) | (simp [*]; done) | grind), H', ⟨by have := HK1.out; omega⟩, ⟨by (with_reducible repeat (first | apply Kd.R_alloc | apply Kd.R_drewN | apply Kd.R_drew)); exact HO_8.out⟩, ⟨by (with_reducible repeat (first | apply Kd.R_alloc | apply Kd.R_drewN | apply Kd.R_drew)); exact HO_10.out⟩, ⟨by repeat (first | (with_reducible first | exact HB.out | apply below_alloc | apply pw_below_drewN | apply below_drew1) | exact HB.out)⟩⟩
                  · rw [if_neg c24] at H
                    have c24b0 : ((t266.length : Int) == 0) = false := beq_eq_false_iff_ne.mpr c24
                    have c24b1 : ((t266.length : Int) != 0) = true := bne_iff_ne.mpr c24
                    have c24b2 : ¬ (t266 = []) := fun h_ => c24 (by rw [h_]; rfl)
                    by_cases c27 : (wrap64 (x11_1 + (t266.length : Int))) > ji11
                    · rw [if_pos c27] at H
                      have c27b0 : decide (ji11 < (wrap64 (x11_1 + (t266.length : Int)))) = true := decide_eq_true c27
                      clear c27
                      by_cases c28 : t251 = true
                      · subst c28
                        have H1 : ((auguryref02_Same.f k1 t260 x10_1).bind fun t269 => (if t269 = true then (if t261 = x11_1 then (some true) else (none)) else (none))) = some r := by rw [if_pos rfl] at H; exact H
                        clear H
                        have H := H1
                        clear H1
                        replace H := Option.bind_eq_some_iff.mp H
                        obtain ⟨t269, A290, H⟩ := H
                        replace H : (if t269 = true then (if t261 = x11_1 then (some true) else (none)) else (none)) = some r := H
                        have A29 := Aside0.mk A290
                        clear A290
                        by_cases c30 : t269 = true
                        · subst c30
                          have H1 : (if t261 = x11_1 then (some true) else (none)) = some r := by rw [if_pos rfl] at H; exact H
                          clear H
                          have H := H1
                          clear H1
                          by_cases c31 : t261 = x11_1
                          · rw [if_pos c31] at H
                            have c31b0 : (t261 == x11_1) = true := beq_iff_eq.mpr c31
                            have c31b1 : (t261 != x11_1) = false := bne_eq_false_iff_eq.mpr c31
                            clear c31
                            obtain rfl := Option.some.inj H
                            have p265 : 0 ≤ (x12_1 : Int) := of_decide_eq_true (by first | (with_reducible assumption) | assumption)
                            have q265 : x12_1 < (l0.length : Int) := of_decide_eq_true (by first | (with_reducible assumption) | assumption)
                            obtain ⟨ad265, e265, hx265_0⟩ := Kd.at_string HR0.out x12_1 p265 q265
                            cases e265
                            replace hx265_0 := (HB.out.cell (World.block_lt_of_cell? w _ hx265_0)).trans hx265_0
                            replace p265 := eq_true p265
                            replace q265 := eq_true q265
                            go_wp2_with (first | ((with_reducible refine gate_callee (f := 14) rfl ?_); refine goesL_ (some 43) rfl rfl Try.func14 (by kernel_rfl) rfl #[.string (rdOf ByteArray.empty l0 x12_1)] rfl (by (try simp only [List.map_toArray, List.map_cons, List.map_nil]); first | done | rfl | (simp only [List.length_drop, List.length_take]; rfl)) ?_; (with_reducible refine (frame_Put.calls k1 (rdOf ByteArray.empty l0 x12_1) t266 _ A23.out).mono ?_); rintro e w32 ⟨v267, rfl, ho0, hb⟩; refine ⟨_, rfl, ?_⟩; have n0_ := Aside0.mk (Kd.R_below (by (with_reducible repeat (first | apply Kd.R_alloc | apply Kd.R_drewN | apply Kd.R_drew)); exact HO_8.out) hb); have n1_ := Aside0.mk (Kd.R_below (by (with_reducible repeat (first | apply Kd.R_alloc | apply Kd.R_drewN | apply Kd.R_drew)); exact HO_10.out) hb); have n2_ := Aside0.mk (Kd.R_lower ho0 (below_size (by repeat (first | (with_reducible first | exact HB.out | apply below_alloc | apply pw_below_drewN | apply below_drew1) | exact HB.out)))); have n3_ := Aside0.mk (below_step (by repeat (first | (with_reducible first | exact HB.out | apply below_alloc | apply pw_below_drewN | apply below_drew1) | exact HB.out)) hb); clear HO_8; clear HO_10; clear HB; have HO_8 := n0_; have HO_10 := n1_; have HO268 := n2_; have HB := n3_; clear n0_ n1_ n2_ n3_; (try clear hb); (try clear hb2); (try clear hk); (try clear hi); (try clear ho0); obtain ⟨Ao33, co33, eo33⟩ := Kd.R_slice HO268.out; subst eo33; obtain ⟨Ao34, co34, eo34⟩ := Kd.R_slice HO_8.out; subst eo34; obtain ⟨Ao35, co35, eo35⟩ := Kd.R_slice HO_10.out; subst eo35) | (go_at_call 16; (with_reducible refine (auguryref02_Same.calls k1 _ _ t260 _ _ x10_1 true _ ?side1 ?side2 ?side3 ?side4 A29.out).mono ?_); (case side1 => repeat (first | exact (Kd.R_reads' HO_8.out).2.2 | (with_reducible refine Kd.C_alloc ?_ _) | (with_reducible refine Kd.C_drewN ?_ _) | (with_reducible refine Kd.C_drew ?_))); (case side2 => exact (Kd.R_reads' HO_8.out).2.1); (case side3 => repeat (first | exact (Kd.R_reads' HO_10.out).2.2 | (with_reducible refine Kd.C_alloc ?_ _) | (with_reducible refine Kd.C_drewN ?_ _) | (with_reducible refine Kd.C_drew ?_))); (case side4 => exact (Kd.R_reads' HO_10.out).2.1); rintro e w' ⟨rfl, ⟨nd, rfl⟩⟩))
                            go_ret
                            exact ⟨by first | rfl | (simp [errW_none, errW_some] <;> rfl) | (simp only [← hji11]; first | rfl | (simp [errW_none, errW_some] <;> rfl)) | (simp [*, errW_none, errW_some] <;> rfl), by repeat (first | (with_reducible first | exact HB.out | apply below_alloc | apply pw_below_drewN | apply below_drew1) | exact HB.out)⟩
                          · rw [if_neg c31] at H
                            exact absurd H (by simp)
                        · replace c30 := Bool.eq_false_iff.mpr c30
                          subst c30
                          have H1 : (none) = some r := by rw [if_neg (show ¬ (false = true) by decide)] at H; exact H
                          clear H
                          have H := H1
                          clear H1
                          exact absurd H (by simp)
                      · replace c28 := Bool.eq_false_iff.mpr c28
                        subst c28
                        have H1 : (none) = some r := by rw [if_neg (show ¬ (false = true) by decide)] at H; exact H
                        clear H
                        have H := H1
                        clear H1
                        exact absurd H (by simp)
                    · rw [if_neg c27] at H
                      have c27b0 : decide (ji11 < (wrap64 (x11_1 + (t266.length : Int)))) = false := decide_eq_false c27
                      clear c27
                      by_cases c36 : x10_1.length < 8796093022208
                      · rw [if_pos c36] at H
                        have LMc36 := Aside0.mk c36
                        clear c36
                        obtain ⟨y271, hy271⟩ : ∃ y_ : List ByteArray, y_ = (x10_1 ++ [rdOf ByteArray.empty l0 x12_1]) := ⟨_, rfl⟩
                        replace H : (augurylaw02_FrameTorn.l0 k1 l0 t251 ji11 t260 t261 y271 (wrap64 (x11_1 + (t266.length : Int))) (wrap64 (x12_1 + 1))) = some r := by first | (rw [hy271]; with_reducible exact H) | (have H2_ := (Option.bind_some _ _).symm.trans H; rw [hy271]; with_reducible exact H2_) | (have H2_ := (Option.bind_some _ _).symm.trans H; with_reducible exact H2_) | with_reducible exact H | (rw [hy271]; exact H) | exact H
                        have Ny271 := Aside0.mk hy271
                        clear hy271
                        have H' := Aside0.mk H
                        clear H
                        have p265 : 0 ≤ (x12_1 : Int) := of_decide_eq_true (by first | (with_reducible assumption) | assumption)
                        have q265 : x12_1 < (l0.length : Int) := of_decide_eq_true (by first | (with_reducible assumption) | assumption)
                        obtain ⟨ad265, e265, hx265_0⟩ := Kd.at_string HR0.out x12_1 p265 q265
                        cases e265
                        replace hx265_0 := (HB.out.cell (World.block_lt_of_cell? w _ hx265_0)).trans hx265_0
                        replace p265 := eq_true p265
                        replace q265 := eq_true q265
                        go_wp2_with (first | ((with_reducible refine gate_callee (f := 14) rfl ?_); refine goesL_ (some 43) rfl rfl Try.func14 (by kernel_rfl) rfl #[.string (rdOf ByteArray.empty l0 x12_1)] rfl (by (try simp only [List.map_toArray, List.map_cons, List.map_nil]); first | done | rfl | (simp only [List.length_drop, List.length_take]; rfl)) ?_; (with_reducible refine (frame_Put.calls k1 (rdOf ByteArray.empty l0 x12_1) t266 _ A23.out).mono ?_); rintro e w37 ⟨v267, rfl, ho0, hb⟩; refine ⟨_, rfl, ?_⟩; have n0_ := Aside0.mk (Kd.R_below (by (with_reducible repeat (first | apply Kd.R_alloc | apply Kd.R_drewN | apply Kd.R_drew)); exact HO_8.out) hb); have n1_ := Aside0.mk (Kd.R_below (by (with_reducible repeat (first | apply Kd.R_alloc | apply Kd.R_drewN | apply Kd.R_drew)); exact HO_10.out) hb); have n2_ := Aside0.mk (Kd.R_lower ho0 (below_size (by repeat (first | (with_reducible first | exact HB.out | apply below_alloc | apply pw_below_drewN | apply below_drew1) | exact HB.out)))); have n3_ := Aside0.mk (below_step (by repeat (first | (with_reducible first | exact HB.out | apply below_alloc | apply pw_below_drewN | apply below_drew1) | exact HB.out)) hb); clear HO_8; clear HO_10; clear HB; have HO_8 := n0_; have HO_10 := n1_; have HO268 := n2_; have HB := n3_; clear n0_ n1_ n2_ n3_; (try clear hb); (try clear hb2); (try clear hk); (try clear hi); (try clear ho0); obtain ⟨Ao38, co38, eo38⟩ := Kd.R_slice HO268.out; subst eo38; have p270 : 0 ≤ (x12_1 : Int) := of_decide_eq_true (by first | (with_reducible assumption) | assumption); have q270 : x12_1 < (l0.length : Int) := of_decide_eq_true (by first | (with_reducible assumption) | assumption); obtain ⟨ad270, e270, hx270_0⟩ := Kd.at_string HR0.out x12_1 p270 q270; obtain rfl : ad265 = ad270 := (by injection e270); replace hx270_0 := (HB.out.cell (World.block_lt_of_cell? w _ hx270_0)).trans hx270_0; replace p270 := eq_true p270; replace q270 := eq_true q270) | ((with_reducible refine gate_builtin (b := .append) (xs := #[.tmp 53, .tmp 58]) rfl ?_); at_builtin; refine Kd.R_append Kd.string (w0 := w) w.heap.size rfl (.tmp 53) (.tmp 58) 24 9 (.string ⟨#[]⟩) 16 rfl Try.underlying24 info9 rfl (by decide) (by omega) u10 x10_1 (rdOf ByteArray.empty l0 x12_1) [.string (rdOf ByteArray.empty l0 x12_1)] (fun k_ => some k_ ≠ (v262 : Value).ownBlock) (fun _ => False) rfl rfl ?aP (fun _ hk => hk.elim) ?aF ?aO ?aB ?aS ?aL ?_; (case aP => exact rfl); (case aB => exact (by repeat (first | (with_reducible first | exact HB.out | apply below_alloc | apply pw_below_drewN | apply below_drew1) | exact HB.out))); (case aF => exact (fun k_ hk => Kd.fresh' (Kd.R_lt (by (with_reducible repeat (first | apply Kd.R_alloc | apply Kd.R_drewN | apply Kd.R_drew)); exact HO_8.out)) k_ hk)); (case aO => exact (by (with_reducible repeat (first | apply Kd.R_alloc | apply Kd.R_drewN | apply Kd.R_drew)); exact HO_10.out)); (case aS => exact (below_size (by repeat (first | (with_reducible first | exact HB.out | apply below_alloc | apply pw_below_drewN | apply below_drew1) | exact HB.out)))); (case aL => have := LMc36.out; omega); intro v272 w39 ho hb hg hat; rw [← Ny271.out] at ho; have n0_ := Aside0.mk (Kd.R_after (ok := (fun _ => True)) (by (with_reducible repeat (first | apply Kd.R_alloc | apply Kd.R_drewN | apply Kd.R_drew)); exact Kd.R_mono HO_8.out (fun _ hk => ⟨trivial, hk⟩)) hg hat); have n1_ := Aside0.mk (Kd.R_over' (by (with_reducible repeat (first | apply Kd.R_alloc | apply Kd.R_drewN | apply Kd.R_drew)); exact HO268.out) (Kd.R_typed (by (with_reducible repeat (first | apply Kd.R_alloc | apply Kd.R_drewN | apply Kd.R_drew)); exact HO_10.out)) (by decide) hg); have n2_ := Aside0.mk (hb); have n3_ := Aside0.mk (ho); clear HO_8; clear HO268; clear HB; clear HO_10; have HO_8 := n0_; have HO268 := n1_; have HB := n2_; have HO273 := n3_; clear n0_ n1_ n2_ n3_; clear ho hb hg hat))
                        go_roundg k1
                        case measure => have := HK1.out; omega
                        case rel => exact ⟨(y271), (wrap64 (x11_1 + (t266.length : Int))), (wrap64 (x12_1 + 1)), (by first | rfl | (simp; done) | (simp [*]; done) | grind), (by first | rfl | (simp; done) | (simp [*]; done) | grind), H', ⟨by have := HK1.out; omega⟩, ⟨by (with_reducible repeat (first | apply Kd.R_alloc | apply Kd.R_drewN | apply Kd.R_drew)); exact Kd.R_mono HO_8.out (fun _ hk => hk.2)⟩, ⟨by (with_reducible repeat (first | apply Kd.R_alloc | apply Kd.R_drewN | apply Kd.R_drew)); exact HO273.out⟩, ⟨by repeat (first | (with_reducible first | exact HB.out | apply below_alloc | apply pw_below_drewN | apply below_drew1) | exact HB.out)⟩⟩
                      · rw [if_neg c36] at H
                        exact absurd H (by simp)
                · rw [if_neg c22] at H
                  exact absurd H (by simp)
              · rw [if_neg c21] at H
                have c21b0 : decide (x12_1 < (l0.length : Int)) = false := decide_eq_false c21
                clear c21
                by_cases c40 : t251 = true
                · subst c40
                  have H1 : ((auguryref02_Same.f k1 t260 x10_1).bind fun t264 => (if t264 = true then (if t261 = x11_1 then (some true) else (none)) else (none))) = some r := by rw [if_pos rfl] at H; exact H
                  clear H
                  have H := H1
                  clear H1
                  replace H := Option.bind_eq_some_iff.mp H
                  obtain ⟨t264, A410, H⟩ := H
                  replace H : (if t264 = true then (if t261 = x11_1 then (some true) else (none)) else (none)) = some r := H
                  have A41 := Aside0.mk A410
                  clear A410
                  by_cases c42 : t264 = true
                  · subst c42
                    have H1 : (if t261 = x11_1 then (some true) else (none)) = some r := by rw [if_pos rfl] at H; exact H
                    clear H
                    have H := H1
                    clear H1
                    by_cases c43 : t261 = x11_1
                    · rw [if_pos c43] at H
                      have c43b0 : (t261 == x11_1) = true := beq_iff_eq.mpr c43
                      have c43b1 : (t261 != x11_1) = false := bne_eq_false_iff_eq.mpr c43
                      clear c43
                      obtain rfl := Option.some.inj H
                      obtain ⟨Ao44, co44, eo44⟩ := Kd.R_slice HO_8.out
                      subst eo44
                      obtain ⟨Ao45, co45, eo45⟩ := Kd.R_slice HO_10.out
                      subst eo45
                      go_wp2_with (first | (go_at_call 16; (with_reducible refine (auguryref02_Same.calls k1 _ _ t260 _ _ x10_1 true _ ?side1 ?side2 ?side3 ?side4 A41.out).mono ?_); (case side1 => repeat (first | exact (Kd.R_reads' HO_8.out).2.2 | (with_reducible refine Kd.C_alloc ?_ _) | (with_reducible refine Kd.C_drewN ?_ _) | (with_reducible refine Kd.C_drew ?_))); (case side2 => exact (Kd.R_reads' HO_8.out).2.1); (case side3 => repeat (first | exact (Kd.R_reads' HO_10.out).2.2 | (with_reducible refine Kd.C_alloc ?_ _) | (with_reducible refine Kd.C_drewN ?_ _) | (with_reducible refine Kd.C_drew ?_))); (case side4 => exact (Kd.R_reads' HO_10.out).2.1); rintro e w' ⟨rfl, ⟨nd, rfl⟩⟩))
                      go_ret
                      exact ⟨by first | rfl | (simp [errW_none, errW_some] <;> rfl) | (simp only [← hji11]; first | rfl | (simp [errW_none, errW_some] <;> rfl)) | (simp [*, errW_none, errW_some] <;> rfl), by repeat (first | (with_reducible first | exact HB.out | apply below_alloc | apply pw_below_drewN | apply below_drew1) | exact HB.out)⟩
                    · rw [if_neg c43] at H
                      exact absurd H (by simp)
                  · replace c42 := Bool.eq_false_iff.mpr c42
                    subst c42
                    have H1 : (none) = some r := by rw [if_neg (show ¬ (false = true) by decide)] at H; exact H
                    clear H
                    have H := H1
                    clear H1
                    exact absurd H (by simp)
                · replace c40 := Bool.eq_false_iff.mpr c40
                  subst c40
                  have H1 : (none) = some r := by rw [if_neg (show ¬ (false = true) by decide)] at H; exact H
                  clear H
                  have H := H1
                  clear H1
                  exact absurd H (by simp)
        · rw [if_neg c13] at H
          exact absurd H (by simp)
      · rw [if_neg c12] at H
        exact absurd H (by simp)

/-- THE ONE PURE STATEMENT of augurylaw02_FrameTorn: yours. -/
def augurylaw02_FrameTorn.Pure : Prop := ∀ (l0 : List ByteArray) (a1 : Int), (l0.length ≤ maxLen ∧ ∀ x ∈ l0, x.size ≤ maxLen) → (Lit.int .u16 a1).wf = true → ∃ k, augurylaw02_FrameTorn.f k l0 a1 = some true

end Go.Proofs.Ytkljljjmphneiaa.PAll
