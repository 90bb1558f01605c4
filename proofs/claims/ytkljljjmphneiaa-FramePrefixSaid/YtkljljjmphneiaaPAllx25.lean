/- Written by this session's own program (wip/xprint): functions of the Go program as Lean functions, and proofs that the Go code computes them. -/
import Derived.Test.YtkljljjmphneiaaPAllx0
import Derived.Test.YtkljljjmphneiaaPAllx24
namespace Go.Proofs.Ytkljljjmphneiaa.PAll
open Go.RowKit Go.Proofs.YtkljljjmphneiaaW.PrintWords Go.Proofs.YtkljljjmphneiaaW.PrintLast Go.Proofs.YtkljljjmphneiaaW.PrintMore
attribute [local go_sem] max2_int min2_int max_two min_two max_three min_three max_four min_four   -- for this text's walks alone
set_option linter.unusedVariables false
set_option linter.unusedSimpArgs false

/-! ### auguryref02_Cut: function 11 -/
mutual
def auguryref02_Cut.l0 : Nat → List Int → List ByteArray → Int → Option (List ByteArray × Int)
  | 0, _, _, _ => none
  | k + 1, x0, x4, x5 => if (wrap64 ((x0.length : Int) - x5)) ≥ 5 then (if 0 ≤ x5 then (if x5 < (x0.length : Int) then (auguryref02_Cut.j1 k x0 x4 x5 ((rd x0 x5) == 82)) else (none)) else (none)) else (auguryref02_Cut.j1 k x0 x4 x5 false)
def auguryref02_Cut.j1 : Nat → List Int → List ByteArray → Int → Bool → Option (List ByteArray × Int)
  | 0, _, _, _, _ => none
  | k + 1, x0, x4, x5, x19 => if x19 = true then (if 0 ≤ (wrap64 (x5 + 1)) then (if (wrap64 (x5 + 1)) < (x0.length : Int) then (if 0 ≤ (wrap64 (x5 + 2)) then (if (wrap64 (x5 + 2)) < (x0.length : Int) then (if (wrap64 ((wrap64 ((wrap64 (rd x0 (wrap64 (x5 + 1)))) * 256)) + (wrap64 (rd x0 (wrap64 (x5 + 2)))))) > 4096 then (auguryref02_Cut.j2 k x0 x4 x5 (wrap64 ((wrap64 ((wrap64 (rd x0 (wrap64 (x5 + 1)))) * 256)) + (wrap64 (rd x0 (wrap64 (x5 + 2)))))) true) else (auguryref02_Cut.j2 k x0 x4 x5 (wrap64 ((wrap64 ((wrap64 (rd x0 (wrap64 (x5 + 1)))) * 256)) + (wrap64 (rd x0 (wrap64 (x5 + 2)))))) (decide ((wrap64 ((wrap64 ((wrap64 (rd x0 (wrap64 (x5 + 1)))) * 256)) + (wrap64 (rd x0 (wrap64 (x5 + 2)))))) > (wrap64 ((wrap64 ((x0.length : Int) - x5)) - 5)))))) else (none)) else (none)) else (none)) else (none)) else (some (x4, x5))
def auguryref02_Cut.j2 : Nat → List Int → List ByteArray → Int → Int → Bool → Option (List ByteArray × Int)
  | 0, _, _, _, _, _ => none
  | k + 1, x0, x4, x5, x6, x44 => if x44 = true then (some (x4, x5)) else (if 0 ≤ (wrap64 (x5 + 5)) then (if (wrap64 (x5 + 5)) ≤ (wrap64 ((wrap64 (x5 + 5)) + x6)) then (if (wrap64 ((wrap64 (x5 + 5)) + x6)) ≤ (x0.length : Int) then ((auguryref02_Sum.f k (strOfNums ((x0.take ((wrap64 ((wrap64 (x5 + 5)) + x6)) : Int).toNat).drop ((wrap64 (x5 + 5)) : Int).toNat))).bind fun t190 => (if 0 ≤ (wrap64 (x5 + 3)) then (if (wrap64 (x5 + 3)) < (x0.length : Int) then (if 0 ≤ (wrap64 (x5 + 4)) then (if (wrap64 (x5 + 4)) < (x0.length : Int) then (if t190 = (wrap64 ((wrap64 ((wrap64 (rd x0 (wrap64 (x5 + 3)))) * 256)) + (wrap64 (rd x0 (wrap64 (x5 + 4)))))) then (if x4.length < 8796093022208 then (auguryref02_Cut.l0 k x0 (x4 ++ [strOfNums ((x0.take ((wrap64 ((wrap64 (x5 + 5)) + x6)) : Int).toNat).drop ((wrap64 (x5 + 5)) : Int).toNat)]) (wrap64 ((wrap64 (x5 + 5)) + x6))) else (none)) else (some (x4, x5))) else (none)) else (none)) else (none)) else (none))) else (none)) else (none)) else (none))
end
def auguryref02_Cut.f (k : Nat) (l0 : List Int) : Option (List ByteArray × Int) := auguryref02_Cut.l0 k l0 ([] : List ByteArray) 0
theorem auguryref02_Cut.mono_l : ∀ k, (∀ y0 y1 y2, LeO (auguryref02_Cut.l0 k y0 y1 y2) (auguryref02_Cut.l0 (k + 1) y0 y1 y2)) ∧ (∀ y0 y1 y2 y3, LeO (auguryref02_Cut.j1 k y0 y1 y2 y3) (auguryref02_Cut.j1 (k + 1) y0 y1 y2 y3)) ∧ (∀ y0 y1 y2 y3 y4, LeO (auguryref02_Cut.j2 k y0 y1 y2 y3 y4) (auguryref02_Cut.j2 (k + 1) y0 y1 y2 y3 y4))
  | 0 => ⟨fun _ _ _ r h => by simp [auguryref02_Cut.l0] at h, fun _ _ _ _ r h => by simp [auguryref02_Cut.j1] at h, fun _ _ _ _ _ r h => by simp [auguryref02_Cut.j2] at h⟩
  | k + 1 => by
    obtain ⟨ih0, ih1, ih2⟩ := auguryref02_Cut.mono_l k
    refine ⟨?_, ?_, ?_⟩
    · intro y0 y1 y2
      unfold auguryref02_Cut.l0
      repeat' first
      | (with_reducible exact ih0 _ _ _)
      | (with_reducible exact ih1 _ _ _ _)
      | (with_reducible exact ih2 _ _ _ _ _)
      | (with_reducible exact auguryref02_Sum.mono _ _)
      | (with_reducible exact LeO.refl _)
      | (with_reducible exact LeO.none _)
      | (with_reducible refine LeO.ite ?_ ?_)
      | (with_reducible refine LeO.bind ?_ (fun _ => ?_))
      | exact ih0 _ _ _
      | exact ih1 _ _ _ _
      | exact ih2 _ _ _ _ _
      | exact auguryref02_Sum.mono _ _
      | exact LeO.none _
      | refine LeO.ite ?_ ?_
      | refine LeO.bind ?_ (fun _ => ?_)
    · intro y0 y1 y2 y3
      unfold auguryref02_Cut.j1
      repeat' first
      | (with_reducible exact ih0 _ _ _)
      | (with_reducible exact ih1 _ _ _ _)
      | (with_reducible exact ih2 _ _ _ _ _)
      | (with_reducible exact auguryref02_Sum.mono _ _)
      | (with_reducible exact LeO.refl _)
      | (with_reducible exact LeO.none _)
      | (with_reducible refine LeO.ite ?_ ?_)
      | (with_reducible refine LeO.bind ?_ (fun _ => ?_))
      | exact ih0 _ _ _
      | exact ih1 _ _ _ _
      | exact ih2 _ _ _ _ _
      | exact auguryref02_Sum.mono _ _
      | exact LeO.none _
      | refine LeO.ite ?_ ?_
      | refine LeO.bind ?_ (fun _ => ?_)
    · intro y0 y1 y2 y3 y4
      unfold auguryref02_Cut.j2
      repeat' first
      | (with_reducible exact ih0 _ _ _)
      | (with_reducible exact ih1 _ _ _ _)
      | (with_reducible exact ih2 _ _ _ _ _)
      | (with_reducible exact auguryref02_Sum.mono _ _)
      | (with_reducible exact LeO.refl _)
      | (with_reducible exact LeO.none _)
      | (with_reducible refine LeO.ite ?_ ?_)
      | (with_reducible refine LeO.bind ?_ (fun _ => ?_))
      | exact ih0 _ _ _
      | exact ih1 _ _ _ _
      | exact ih2 _ _ _ _ _
      | exact auguryref02_Sum.mono _ _
      | exact LeO.none _
      | refine LeO.ite ?_ ?_
      | refine LeO.bind ?_ (fun _ => ?_)
theorem auguryref02_Cut.mono : ∀ a0 k, LeO (auguryref02_Cut.f k a0) (auguryref02_Cut.f (k + 1) a0) := by
  intro a0 k
  obtain ⟨ih0, ih1, ih2⟩ := auguryref02_Cut.mono_l k
  unfold auguryref02_Cut.f
  repeat' first
      | (with_reducible exact ih0 _ _ _)
      | (with_reducible exact ih1 _ _ _ _)
      | (with_reducible exact ih2 _ _ _ _ _)
      | (with_reducible exact auguryref02_Sum.mono _ _)
      | (with_reducible exact LeO.refl _)
      | (with_reducible exact LeO.none _)
      | (with_reducible refine LeO.ite ?_ ?_)
      | (with_reducible refine LeO.bind ?_ (fun _ => ?_))
      | exact ih0 _ _ _
      | exact ih1 _ _ _ _
      | exact ih2 _ _ _ _ _
      | exact auguryref02_Sum.mono _ _
      | exact LeO.none _
      | refine LeO.ite ?_ ?_
      | refine LeO.bind ?_ (fun _ => ?_)
set_option maxHeartbeats 8000000 in
set_option maxRecDepth 100000 in
theorem auguryref02_Cut.calls (k : Nat) (A0 : Option Addr) (c0 : Nat) (l0 : List Int) (r1 : List ByteArray) (r2 : Int) (w : World) (hr0 : Kd.C (Kd.int .u8) w A0 l0.length l0) (hc0 : l0.length ≤ c0) (h : auguryref02_Cut.f k l0 = some (r1, r2)) :
    Calls Try.prog 11 #[.slice A0 l0.length c0] w fun e w' => ∃ v0_ : Value, e = .returned (.tuple #[v0_, .int .i64 r2]) ∧ Kd.R Kd.string 9 w' w.heap.size (fun _ => True) v0_ r1 ∧ Below w.heap.size w w' := by
  have HR0 := Aside0.mk hr0
  have HC0 := Aside0.mk hc0
  clear hr0 hc0
  have HB := Aside0.mk (Below.refl w.heap.size w)
  have H : (auguryref02_Cut.l0 k l0 ([] : List ByteArray) 0) = some (r1, r2) := h
  clear h
  have H' := Aside0.mk H
  clear H
  go_enter Try.func11, Try.ntmps11
  go_wp2
  repeat (go_quiet (fail); try go_wp2)
  go_loopg [4, 5] k (fun kq v4 v5 w' => ∃ (x4_1 : List ByteArray) (x5_1 : Int), v5 = .int .i64 x5_1 ∧ Aside0 (auguryref02_Cut.l0 kq l0 x4_1 x5_1 = some (r1, r2)) ∧ Aside0 (kq ≤ k) ∧ Aside0 (Kd.R Kd.string 9 w' w.heap.size (fun _ => True) v4 x4_1) ∧ Aside0 (Below w.heap.size w w'))
  case atStart => exact ⟨(([] : List ByteArray)), (0), (by first | rfl | (simp; done) | (simp [*]; done) | grind), H', ⟨Nat.le_refl _⟩, ⟨by first | exact Kd.R_nil _ _ _ _ _ | exact Kd.N_nil _ _ _ _ _ | exact Kd.V_nil _ _ _ _ _ | exact Kd.Q_nil _ _ _ _ _ | exact Kd.S_nil _ _ _ _ _⟩, ⟨by repeat (first | (with_reducible first | exact HB.out | apply below_alloc | apply pw_below_drewN | apply below_drew1) | exact HB.out)⟩⟩
  case round =>
    clear H'
    try clear c1
    obtain ⟨x4_1, x5_1, rfl, HA, HK1, HO_4, HB⟩ := hrel
    cases gk with
    | zero => exact absurd HA.out (by simp [auguryref02_Cut.l0])
    | succ k1 =>
      have H := HA.out
      clear HA
      simp only [auguryref02_Cut.l0] at H
      have HC2 := Aside0.mk H
      clear H
      go_upto_region 3 with (fail)
      repeat (go_quiet (fail); go_upto_region 3 with (fail))
      go_cut [19] (fun v19 wc => ∃ (kq : Nat) (x19_1 : Bool), v19 = .bool x19_1 ∧ Aside0 (auguryref02_Cut.j1 kq l0 x4_1 x5_1 x19_1 = some (r1, r2)) ∧ Aside0 (kq ≤ k1) ∧ Aside0 (Kd.R Kd.string 9 wc w.heap.size (fun _ => True) u4 x4_1) ∧ Aside0 (Below w.heap.size w wc))
      case first =>
        have H := HC2.out
        clear HC2
        by_cases c3 : (wrap64 ((l0.length : Int) - x5_1)) ≥ 5
        · rw [if_pos c3] at H
          have c3b0 : decide (5 ≤ (wrap64 ((l0.length : Int) - x5_1))) = true := decide_eq_true c3
          clear c3
          (first | rw [c3b0] | (simp only [i64_w, i32_w]; rw [c3b0]) | skip)
          by_cases c4 : 0 ≤ x5_1
          · rw [if_pos c4] at H
            have c4b0 : decide (0 ≤ x5_1) = true := decide_eq_true c4
            clear c4
            by_cases c5 : x5_1 < (l0.length : Int)
            · rw [if_pos c5] at H
              have c5b0 : decide (x5_1 < (l0.length : Int)) = true := decide_eq_true c5
              clear c5
              have H' := Aside0.mk H
              clear H
              have p186 : 0 ≤ (x5_1 : Int) := of_decide_eq_true (by first | (with_reducible assumption) | assumption)
              have q186 : x5_1 < (l0.length : Int) := of_decide_eq_true (by first | (with_reducible assumption) | assumption)
              obtain ⟨ad186, e186, hx186_0⟩ := Kd.at_int HR0.out x5_1 p186 q186
              cases e186
              replace hx186_0 := (HB.out.cell (World.block_lt_of_cell? w _ hx186_0)).trans hx186_0
              replace p186 := eq_true p186
              replace q186 := eq_true q186
              go_wp2
              repeat (go_quiet (fail); try go_wp2)
              go_meet
              case rel => exact ⟨_, (((rd l0 x5_1) == 82)), (by first | rfl | (simp; done) | (simp [*]; done) | grind), H', ⟨by have := HK1.out; first | omega | exact Nat.le_refl _⟩, ⟨by (with_reducible repeat (first | apply Kd.R_alloc | apply Kd.R_drewN | apply Kd.R_drew)); exact HO_4.out⟩, ⟨by repeat (first | (with_reducible first | exact HB.out | apply below_alloc | apply pw_below_drewN | apply below_drew1) | exact HB.out)⟩⟩
            · rw [if_neg c5] at H
              exact absurd H (by simp)
          · rw [if_neg c4] at H
            exact absurd H (by simp)
        · rw [if_neg c3] at H
          have c3b0 : decide (5 ≤ (wrap64 ((l0.length : Int) - x5_1))) = false := decide_eq_false c3
          clear c3
          (first | rw [c3b0] | (simp only [i64_w, i32_w]; rw [c3b0]) | skip)
          have H' := Aside0.mk H
          clear H
          go_wp2
          repeat (go_quiet (fail); try go_wp2)
          go_meet
          case rel => exact ⟨_, (false), (by first | rfl | (simp; done) | (simp [*]; done) | grind), H', ⟨by have := HK1.out; first | omega | exact Nat.le_refl _⟩, ⟨by (with_reducible repeat (first | apply Kd.R_alloc | apply Kd.R_drewN | apply Kd.R_drew)); exact HO_4.out⟩, ⟨by repeat (first | (with_reducible first | exact HB.out | apply below_alloc | apply pw_below_drewN | apply below_drew1) | exact HB.out)⟩⟩
      case rest =>
        clear HC2
        try clear c1
        try clear p1
        try clear q1
        try clear hx1
        try clear p2
        try clear c3
        try clear c3b0
        try clear c4
        try clear c4b0
        try clear c5
        try clear c5b0
        try clear hx186_0
        try clear p186
        try clear q186
        obtain ⟨kq, x19_1, rfl, HA, HJ1, HO_4, HB⟩ := hcut
        cases kq with
        | zero => exact absurd HA.out (by simp [auguryref02_Cut.j1])
        | succ kj1 =>
          have H := HA.out
          clear HA
          simp only [auguryref02_Cut.j1] at H
          by_cases c6 : x19_1 = true
          · subst c6
            have H1 : (if 0 ≤ (wrap64 (x5_1 + 1)) then (if (wrap64 (x5_1 + 1)) < (l0.length : Int) then (if 0 ≤ (wrap64 (x5_1 + 2)) then (if (wrap64 (x5_1 + 2)) < (l0.length : Int) then (if (wrap64 ((wrap64 ((wrap64 (rd l0 (wrap64 (x5_1 + 1)))) * 256)) + (wrap64 (rd l0 (wrap64 (x5_1 + 2)))))) > 4096 then (auguryref02_Cut.j2 kj1 l0 x4_1 x5_1 (wrap64 ((wrap64 ((wrap64 (rd l0 (wrap64 (x5_1 + 1)))) * 256)) + (wrap64 (rd l0 (wrap64 (x5_1 + 2)))))) true) else (auguryref02_Cut.j2 kj1 l0 x4_1 x5_1 (wrap64 ((wrap64 ((wrap64 (rd l0 (wrap64 (x5_1 + 1)))) * 256)) + (wrap64 (rd l0 (wrap64 (x5_1 + 2)))))) (decide ((wrap64 ((wrap64 ((wrap64 (rd l0 (wrap64 (x5_1 + 1)))) * 256)) + (wrap64 (rd l0 (wrap64 (x5_1 + 2)))))) > (wrap64 ((wrap64 ((l0.length : Int) - x5_1)) - 5)))))) else (none)) else (none)) else (none)) else (none)) = some (r1, r2) := by rw [if_pos rfl] at H; exact H
            clear H
            have H := H1
            clear H1
            obtain ⟨ji7, hji7⟩ : ∃ j_ : Int, (wrap64 (x5_1 + 1)) = j_ := ⟨_, rfl⟩
            replace H : (if 0 ≤ (ji7) then (if (ji7) < (l0.length : Int) then (if 0 ≤ (wrap64 (x5_1 + 2)) then (if (wrap64 (x5_1 + 2)) < (l0.length : Int) then (if (wrap64 ((wrap64 ((wrap64 (rd l0 (ji7))) * 256)) + (wrap64 (rd l0 (wrap64 (x5_1 + 2)))))) > 4096 then (auguryref02_Cut.j2 kj1 l0 x4_1 x5_1 (wrap64 ((wrap64 ((wrap64 (rd l0 (ji7))) * 256)) + (wrap64 (rd l0 (wrap64 (x5_1 + 2)))))) true) else (auguryref02_Cut.j2 kj1 l0 x4_1 x5_1 (wrap64 ((wrap64 ((wrap64 (rd l0 (ji7))) * 256)) + (wrap64 (rd l0 (wrap64 (x5_1 + 2)))))) (decide ((wrap64 ((wrap64 ((wrap64 (rd l0 (ji7))) * 256)) + (wrap64 (rd l0 (wrap64 (x5_1 + 2)))))) > (wrap64 ((wrap64 ((l0.length : Int) - x5_1)) - 5)))))) else (none)) else (none)) else (none)) else (none)) = some (r1, r2) := by first | (rw [hji7] at H; exact H) | (simp only [hji7] at H ⊢; exact H)
            have hji7w : (IntKind.i64.wrap (x5_1 + 1)) = ji7 := (i64_w _).trans hji7
            by_cases c8 : 0 ≤ (ji7)
            · rw [if_pos c8] at H
              have c8b0 : decide (0 ≤ (ji7)) = true := decide_eq_true c8
              clear c8
              by_cases c9 : (ji7) < (l0.length : Int)
              · rw [if_pos c9] at H
                have c9b0 : decide ((ji7) < (l0.length : Int)) = true := decide_eq_true c9
                clear c9
                obtain ⟨ji10, hji10⟩ : ∃ j_ : Int, (wrap64 (x5_1 + 2)) = j_ := ⟨_, rfl⟩
                replace H : (if 0 ≤ (ji10) then (if (ji10) < (l0.length : Int) then (if (wrap64 ((wrap64 ((wrap64 (rd l0 (ji7))) * 256)) + (wrap64 (rd l0 (ji10))))) > 4096 then (auguryref02_Cut.j2 kj1 l0 x4_1 x5_1 (wrap64 ((wrap64 ((wrap64 (rd l0 (ji7))) * 256)) + (wrap64 (rd l0 (ji10))))) true) else (auguryref02_Cut.j2 kj1 l0 x4_1 x5_1 (wrap64 ((wrap64 ((wrap64 (rd l0 (ji7))) * 256)) + (wrap64 (rd l0 (ji10))))) (decide ((wrap64 ((wrap64 ((wrap64 (rd l0 (ji7))) * 256)) + (wrap64 (rd l0 (ji10))))) > (wrap64 ((wrap64 ((l0.length : Int) - x5_1)) - 5)))))) else (none)) else (none)) = some (r1, r2) := by first | (rw [hji10] at H; exact H) | (simp only [hji10] at H ⊢; exact H)
                have hji10w : (IntKind.i64.wrap (x5_1 + 2)) = ji10 := (i64_w _).trans hji10
                by_cases c11 : 0 ≤ (ji10)
                · rw [if_pos c11] at H
                  have c11b0 : decide (0 ≤ (ji10)) = true := decide_eq_true c11
                  clear c11
                  by_cases c12 : (ji10) < (l0.length : Int)
                  · rw [if_pos c12] at H
                    have c12b0 : decide ((ji10) < (l0.length : Int)) = true := decide_eq_true c12
                    clear c12
                    have HC13 := Aside0.mk H
                    clear H
                    have p187 : 0 ≤ ((ji7) : Int) := of_decide_eq_true (by first | (with_reducible assumption) | assumption)
                    have q187 : (ji7) < (l0.length : Int) := of_decide_eq_true (by first | (with_reducible assumption) | assumption)
                    obtain ⟨ad187, e187, hx187_0⟩ := Kd.at_int HR0.out (ji7) p187 q187
                    cases e187
                    replace hx187_0 := (HB.out.cell (World.block_lt_of_cell? w _ hx187_0)).trans hx187_0
                    replace p187 := eq_true p187
                    replace q187 := eq_true q187
                    have p188 : 0 ≤ ((ji10) : Int) := of_decide_eq_true (by first | (with_reducible assumption) | assumption)
                    have q188 : (ji10) < (l0.length : Int) := of_decide_eq_true (by first | (with_reducible assumption) | assumption)
                    obtain ⟨ad188, e188, hx188_0⟩ := Kd.at_int HR0.out (ji10) p188 q188
                    obtain rfl : ad187 = ad188 := (by injection e188)
                    replace hx188_0 := (HB.out.cell (World.block_lt_of_cell? w _ hx188_0)).trans hx188_0
                    replace p188 := eq_true p188
                    replace q188 := eq_true q188
                    go_upto_region 5 with (fail)
                    repeat (go_quiet (fail); go_upto_region 5 with (fail))
                    go_cut [44] (fun v44 wc => ∃ (kq : Nat) (x44_12 : Bool), v44 = .bool x44_12 ∧ Aside0 (auguryref02_Cut.j2 kq l0 x4_1 x5_1 (wrap64 ((wrap64 ((wrap64 (rd l0 (ji7))) * 256)) + (wrap64 (rd l0 (ji10))))) x44_12 = some (r1, r2)) ∧ Aside0 (kq ≤ kj1) ∧ Aside0 (Kd.R Kd.string 9 wc w.heap.size (fun _ => True) u4 x4_1) ∧ Aside0 (Below w.heap.size w wc))
                    case first =>
                      have H := HC13.out
                      clear HC13
                      by_cases c14 : (wrap64 ((wrap64 ((wrap64 (rd l0 (ji7))) * 256)) + (wrap64 (rd l0 (ji10))))) > 4096
                      · rw [if_pos c14] at H
                        have c14b0 : decide (4096 < (wrap64 ((wrap64 ((wrap64 (rd l0 (ji7))) * 256)) + (wrap64 (rd l0 (ji10)))))) = true := decide_eq_true c14
                        clear c14
                        (first | rw [c14b0] | (simp only [i64_w, i32_w]; rw [c14b0]) | skip)
                        have H' := Aside0.mk H
                        clear H
                        go_wp2
                        repeat (go_quiet (fail); try go_wp2)
                        go_meet
                        case rel => exact ⟨_, (true), (by first | rfl | (simp; done) | (simp [*]; done) | grind), H', ⟨by have := HK1.out; have := HJ1.out; first | omega | exact Nat.le_refl _⟩, ⟨by (with_reducible repeat (first | apply Kd.R_alloc | apply Kd.R_drewN | apply Kd.R_drew)); exact HO_4.out⟩, ⟨by repeat (first | (with_reducible first | exact HB.out | apply below_alloc | apply pw_below_drewN | apply below_drew1) | exact HB.out)⟩⟩
                      · rw [if_neg c14] at H
                        have c14b0 : decide (4096 < (wrap64 ((wrap64 ((wrap64 (rd l0 (ji7))) * 256)) + (wrap64 (rd l0 (ji10)))))) = false := decide_eq_false c14
                        clear c14
                        (first | rw [c14b0] | (simp only [i64_w, i32_w]; rw [c14b0]) | skip)
                        have H' := Aside0.mk H
                        clear H
                        go_wp2
                        repeat (go_quiet (fail); try go_wp2)
                        go_meet
                        case rel => exact ⟨_, (decide ((wrap64 ((wrap64 ((wrap64 (rd l0 (ji7))) * 256)) + (wrap64 (rd l0 (ji10))))) > (wrap64 ((wrap64 ((l0.length : Int) - x5_1)) - 5)))), (by first | rfl | (simp; done) | (simp only [← hji7, ← hji10] <;> (first | rfl | simp)) | (simp [*]; done)), H', ⟨by have := HK1.out; have := HJ1.out; first | omega | exact Nat.le_refl _⟩, ⟨by (with_reducible repeat (first | apply Kd.R_alloc | apply Kd.R_drewN | apply Kd.R_drew)); exact HO_4.out⟩, ⟨by repeat (first | (with_reducible first | exact HB.out | apply below_alloc | apply pw_below_drewN | apply below_drew1) | exact HB.out)⟩⟩
                    case rest =>
                      clear HC13
                      try clear c1
                      try clear p1
                      try clear q1
                      try clear hx1
                      try clear p2
                      try clear c3
                      try clear c3b0
                      try clear c4
                      try clear c4b0
                      try clear c5
                      try clear c5b0
                      try clear c6
                      try clear p6
                      try clear c8
                      try clear c8b0
                      try clear c9
                      try clear c9b0
                      try clear c11
                      try clear c11b0
                      try clear c12
                      try clear c12b0
                      try clear c14
                      try clear c14b0
                      try clear hx186_0
                      try clear hx187_0
                      try clear hx188_0
                      try clear p1
                      try clear p186
                      try clear p187
                      try clear p188
                      try clear p2
                      try clear q1
                      try clear q186
                      try clear q187
                      try clear q188
                      obtain ⟨kq, x44_12, rfl, HA, HJ12, HO_4, HB⟩ := hcut
                      cases kq with
                      | zero => exact absurd HA.out (by simp [auguryref02_Cut.j2])
                      | succ kj12 =>
                        have H := HA.out
                        clear HA
                        simp only [auguryref02_Cut.j2] at H
                        by_cases c15 : x44_12 = true
                        · subst c15
                          have H1 : (some (x4_1, x5_1)) = some (r1, r2) := by rw [if_pos rfl] at H; exact H
                          clear H
                          have H := H1
                          clear H1
                          simp only [Option.some.injEq, Prod.mk.injEq] at H
                          obtain ⟨rfl, rfl⟩ := H
                          go_wp2
                          repeat (go_quiet (fail); try go_wp2)
                          go_ret2
                          exact ⟨_, by first | rfl | (simp [errW_none, errW_some] <;> rfl) | (simp only [← hji7, ← hji10]; first | rfl | (simp [errW_none, errW_some] <;> rfl)) | (simp [*, errW_none, errW_some] <;> rfl), by (with_reducible repeat (first | apply Kd.R_alloc | apply Kd.R_drewN | apply Kd.R_drew)); exact HO_4.out, by repeat (first | (with_reducible first | exact HB.out | apply below_alloc | apply pw_below_drewN | apply below_drew1) | exact HB.out)⟩
                        · replace c15 := Bool.eq_false_iff.mpr c15
                          subst c15
                          have H1 : (if 0 ≤ (wrap64 (x5_1 + 5)) then (if (wrap64 (x5_1 + 5)) ≤ (wrap64 ((wrap64 (x5_1 + 5)) + (wrap64 ((wrap64 ((wrap64 (rd l0 (ji7))) * 256)) + (wrap64 (rd l0 (ji10))))))) then (if (wrap64 ((wrap64 (x5_1 + 5)) + (wrap64 ((wrap64 ((wrap64 (rd l0 (ji7))) * 256)) + (wrap64 (rd l0 (ji10))))))) ≤ (l0.length : Int) then ((auguryref02_Sum.f kj12 (strOfNums ((l0.take ((wrap64 ((wrap64 (x5_1 + 5)) + (wrap64 ((wrap64 ((wrap64 (rd l0 (ji7))) * 256)) + (wrap64 (rd l0 (ji10))))))) : Int).toNat).drop ((wrap64 (x5_1 + 5)) : Int).toNat))).bind fun t190 => (if 0 ≤ (wrap64 (x5_1 + 3)) then (if (wrap64 (x5_1 + 3)) < (l0.length : Int) then (if 0 ≤ (wrap64 (x5_1 + 4)) then (if (wrap64 (x5_1 + 4)) < (l0.length : Int) then (if t190 = (wrap64 ((wrap64 ((wrap64 (rd l0 (wrap64 (x5_1 + 3)))) * 256)) + (wrap64 (rd l0 (wrap64 (x5_1 + 4)))))) then (if x4_1.length < 8796093022208 then (auguryref02_Cut.l0 kj12 l0 (x4_1 ++ [strOfNums ((l0.take ((wrap64 ((wrap64 (x5_1 + 5)) + (wrap64 ((wrap64 ((wrap64 (rd l0 (ji7))) * 256)) + (wrap64 (rd l0 (ji10))))))) : Int).toNat).drop ((wrap64 (x5_1 + 5)) : Int).toNat)]) (wrap64 ((wrap64 (x5_1 + 5)) + (wrap64 ((wrap64 ((wrap64 (rd l0 (ji7))) * 256)) + (wrap64 (rd l0 (ji10)))))))) else (none)) else (some (x4_1, x5_1))) else (none)) else (none)) else (none)) else (none))) else (none)) else (none)) else (none)) = some (r1, r2) := by rw [if_neg (show ¬ (false = true) by decide)] at H; exact H
                          clear H
                          have H := H1
                          clear H1
                          obtain ⟨ji16, hji16⟩ : ∃ j_ : Int, (wrap64 (x5_1 + 5)) = j_ := ⟨_, rfl⟩
                          replace H : (if 0 ≤ (ji16) then (if (ji16) ≤ (wrap64 ((ji16) + (wrap64 ((wrap64 ((wrap64 (rd l0 (ji7))) * 256)) + (wrap64 (rd l0 (ji10))))))) then (if (wrap64 ((ji16) + (wrap64 ((wrap64 ((wrap64 (rd l0 (ji7))) * 256)) + (wrap64 (rd l0 (ji10))))))) ≤ (l0.length : Int) then ((auguryref02_Sum.f kj12 (strOfNums ((l0.take ((wrap64 ((ji16) + (wrap64 ((wrap64 ((wrap64 (rd l0 (ji7))) * 256)) + (wrap64 (rd l0 (ji10))))))) : Int).toNat).drop ((ji16) : Int).toNat))).bind fun t190 => (if 0 ≤ (wrap64 (x5_1 + 3)) then (if (wrap64 (x5_1 + 3)) < (l0.length : Int) then (if 0 ≤ (wrap64 (x5_1 + 4)) then (if (wrap64 (x5_1 + 4)) < (l0.length : Int) then (if t190 = (wrap64 ((wrap64 ((wrap64 (rd l0 (wrap64 (x5_1 + 3)))) * 256)) + (wrap64 (rd l0 (wrap64 (x5_1 + 4)))))) then (if x4_1.length < 8796093022208 then (auguryref02_Cut.l0 kj12 l0 (x4_1 ++ [strOfNums ((l0.take ((wrap64 ((ji16) + (wrap64 ((wrap64 ((wrap64 (rd l0 (ji7))) * 256)) + (wrap64 (rd l0 (ji10))))))) : Int).toNat).drop ((ji16) : Int).toNat)]) (wrap64 ((ji16) + (wrap64 ((wrap64 ((wrap64 (rd l0 (ji7))) * 256)) + (wrap64 (rd l0 (ji10)))))))) else (none)) else (some (x4_1, x5_1))) else (none)) else (none)) else (none)) else (none))) else (none)) else (none)) else (none)) = some (r1, r2) := by first | (rw [hji16] at H; exact H) | (simp only [hji16] at H ⊢; exact H)
                          have hji16w : (IntKind.i64.wrap (x5_1 + 5)) = ji16 := (i64_w _).trans hji16
                          by_cases c17 : 0 ≤ (ji16)
                          · rw [if_pos c17] at H
                            have c17b0 := eq_true c17
                            have c17b1 : decide (0 ≤ (ji16)) = true := decide_eq_true c17
                            clear c17
                            by_cases c18 : (ji16) ≤ (wrap64 ((ji16) + (wrap64 ((wrap64 ((wrap64 (rd l0 (ji7))) * 256)) + (wrap64 (rd l0 (ji10)))))))
                            · rw [if_pos c18] at H
                              have c18b0 := eq_true c18
                              have c18b1 : decide ((ji16) ≤ (wrap64 ((ji16) + (wrap64 ((wrap64 ((wrap64 (rd l0 (ji7))) * 256)) + (wrap64 (rd l0 (ji10)))))))) = true := decide_eq_true c18
                              by_cases c19 : (wrap64 ((ji16) + (wrap64 ((wrap64 ((wrap64 (rd l0 (ji7))) * 256)) + (wrap64 (rd l0 (ji10))))))) ≤ (l0.length : Int)
                              · rw [if_pos c19] at H
                                have c19b0 := eq_true c19
                                have c19b1 : decide ((wrap64 ((ji16) + (wrap64 ((wrap64 ((wrap64 (rd l0 (ji7))) * 256)) + (wrap64 (rd l0 (ji10))))))) ≤ (l0.length : Int)) = true := decide_eq_true c19
                                replace H := Option.bind_eq_some_iff.mp H
                                obtain ⟨t190, A200, H⟩ := H
                                replace H : (if 0 ≤ (wrap64 (x5_1 + 3)) then (if (wrap64 (x5_1 + 3)) < (l0.length : Int) then (if 0 ≤ (wrap64 (x5_1 + 4)) then (if (wrap64 (x5_1 + 4)) < (l0.length : Int) then (if t190 = (wrap64 ((wrap64 ((wrap64 (rd l0 (wrap64 (x5_1 + 3)))) * 256)) + (wrap64 (rd l0 (wrap64 (x5_1 + 4)))))) then (if x4_1.length < 8796093022208 then (auguryref02_Cut.l0 kj12 l0 (x4_1 ++ [strOfNums ((l0.take ((wrap64 ((ji16) + (wrap64 ((wrap64 ((wrap64 (rd l0 (ji7))) * 256)) + (wrap64 (rd l0 (ji10))))))) : Int).toNat).drop ((ji16) : Int).toNat)]) (wrap64 ((ji16) + (wrap64 ((wrap64 ((wrap64 (rd l0 (ji7))) * 256)) + (wrap64 (rd l0 (ji10)))))))) else (none)) else (some (x4_1, x5_1))) else (none)) else (none)) else (none)) else (none)) = some (r1, r2) := H
                                have A20 := Aside0.mk A200
                                clear A200
                                obtain ⟨ji21, hji21⟩ : ∃ j_ : Int, (wrap64 (x5_1 + 3)) = j_ := ⟨_, rfl⟩
                                replace H : (if 0 ≤ (ji21) then (if (ji21) < (l0.length : Int) then (if 0 ≤ (wrap64 (x5_1 + 4)) then (if (wrap64 (x5_1 + 4)) < (l0.length : Int) then (if t190 = (wrap64 ((wrap64 ((wrap64 (rd l0 (ji21))) * 256)) + (wrap64 (rd l0 (wrap64 (x5_1 + 4)))))) then (if x4_1.length < 8796093022208 then (auguryref02_Cut.l0 kj12 l0 (x4_1 ++ [strOfNums ((l0.take ((wrap64 ((ji16) + (wrap64 ((wrap64 ((wrap64 (rd l0 (ji7))) * 256)) + (wrap64 (rd l0 (ji10))))))) : Int).toNat).drop ((ji16) : Int).toNat)]) (wrap64 ((ji16) + (wrap64 ((wrap64 ((wrap64 (rd l0 (ji7))) * 256)) + (wrap64 (rd l0 (ji10)))))))) else (none)) else (some (x4_1, x5_1))) else (none)) else (none)) else (none)) else (none)) = some (r1, r2) := by first | (rw [hji21] at H; exact H) | (simp only [hji21] at H ⊢; exact H)
                                (try rw [hji21] at A20)
                                have hji21w : (IntKind.i64.wrap (x5_1 + 3)) = ji21 := (i64_w _).trans hji21
                                by_cases c22 : 0 ≤ (ji21)
                                · rw [if_pos c22] at H
                                  have c22b0 : decide (0 ≤ (ji21)) = true := decide_eq_true c22
                                  clear c22
                                  by_cases c23 : (ji21) < (l0.length : Int)
                                  · rw [if_pos c23] at H
                                    have c23b0 : decide ((ji21) < (l0.length : Int)) = true := decide_eq_true c23
                                    clear c23
                                    obtain ⟨ji24, hji24⟩ : ∃ j_ : Int, (wrap64 (x5_1 + 4)) = j_ := ⟨_, rfl⟩
                                    replace H : (if 0 ≤ (ji24) then (if (ji24) < (l0.length : Int) then (if t190 = (wrap64 ((wrap64 ((wrap64 (rd l0 (ji21))) * 256)) + (wrap64 (rd l0 (ji24))))) then (if x4_1.length < 8796093022208 then (auguryref02_Cut.l0 kj12 l0 (x4_1 ++ [strOfNums ((l0.take ((wrap64 ((ji16) + (wrap64 ((wrap64 ((wrap64 (rd l0 (ji7))) * 256)) + (wrap64 (rd l0 (ji10))))))) : Int).toNat).drop ((ji16) : Int).toNat)]) (wrap64 ((ji16) + (wrap64 ((wrap64 ((wrap64 (rd l0 (ji7))) * 256)) + (wrap64 (rd l0 (ji10)))))))) else (none)) else (some (x4_1, x5_1))) else (none)) else (none)) = some (r1, r2) := by first | (rw [hji24] at H; exact H) | (simp only [hji24] at H ⊢; exact H)
                                    (try rw [hji24] at A20)
                                    have hji24w : (IntKind.i64.wrap (x5_1 + 4)) = ji24 := (i64_w _).trans hji24
                                    by_cases c25 : 0 ≤ (ji24)
                                    · rw [if_pos c25] at H
                                      have c25b0 : decide (0 ≤ (ji24)) = true := decide_eq_true c25
                                      clear c25
                                      by_cases c26 : (ji24) < (l0.length : Int)
                                      · rw [if_pos c26] at H
                                        have c26b0 : decide ((ji24) < (l0.length : Int)) = true := decide_eq_true c26
                                        clear c26
                                        by_cases c27 : t190 = (wrap64 ((wrap64 ((wrap64 (rd l0 (ji21))) * 256)) + (wrap64 (rd l0 (ji24)))))
                                        · rw [if_pos c27] at H
                                          have c27b0 : (t190 == (wrap64 ((wrap64 ((wrap64 (rd l0 (ji21))) * 256)) + (wrap64 (rd l0 (ji24)))))) = true := beq_iff_eq.mpr c27
                                          have c27b1 : (t190 != (wrap64 ((wrap64 ((wrap64 (rd l0 (ji21))) * 256)) + (wrap64 (rd l0 (ji24)))))) = false := bne_eq_false_iff_eq.mpr c27
                                          (try (have c27w0 := c27b0; simp only [← i64_w] at c27w0))
                                          (try (have c27w1 := c27b1; simp only [← i64_w] at c27w1))
                                          clear c27
                                          by_cases c28 : x4_1.length < 8796093022208
                                          · rw [if_pos c28] at H
                                            have LMc28 := Aside0.mk c28
                                            clear c28
                                            obtain ⟨y193, hy193⟩ : ∃ y_ : List ByteArray, y_ = (x4_1 ++ [strOfNums ((l0.take ((wrap64 ((ji16) + (wrap64 ((wrap64 ((wrap64 (rd l0 (ji7))) * 256)) + (wrap64 (rd l0 (ji10))))))) : Int).toNat).drop ((ji16) : Int).toNat)]) := ⟨_, rfl⟩
                                            replace H : (auguryref02_Cut.l0 kj12 l0 y193 (wrap64 ((ji16) + (wrap64 ((wrap64 ((wrap64 (rd l0 (ji7))) * 256)) + (wrap64 (rd l0 (ji10)))))))) = some (r1, r2) := by first | (rw [hy193]; with_reducible exact H) | (have H2_ := (Option.bind_some _ _).symm.trans H; rw [hy193]; with_reducible exact H2_) | (have H2_ := (Option.bind_some _ _).symm.trans H; with_reducible exact H2_) | with_reducible exact H | (rw [hy193]; exact H) | exact H
                                            have Ny193 := Aside0.mk hy193
                                            clear hy193
                                            have H' := Aside0.mk H
                                            clear H
                                            obtain ⟨i029, hi029, _, hsz29, _⟩ := info_parts info5
                                            obtain ⟨A29, hcut29, hA29, hC29⟩ := print_mid_of (P := Try.prog) (Value.int .u8) 0 22 5 .i64 .i64 Try.underlying22 hi029 hsz29 (some ad187) c0 l0 (ji16) (wrap64 ((ji16) + (wrap64 ((wrap64 ((wrap64 (rd l0 (ji7))) * 256)) + (wrap64 (rd l0 (ji10))))))) (of_decide_eq_true (by first | (with_reducible assumption) | assumption)) (by first | omega | exact of_decide_eq_true (by first | (with_reducible assumption) | assumption)) (of_decide_eq_true (by first | (with_reducible assumption) | assumption)) HC0.out
                                            have HR189 := Aside0.mk (Kd.C_of_reads (h1 := fun _ => rfl) (hA29 _ (Kd.reads_of_C HR0.out)))
                                            have HC189 := Aside0.mk hC29
                                            clear hA29 hC29 hi029 hsz29
                                            have hcv30 : ∀ n_ : Nat, n_ = ((l0.take ((wrap64 ((ji16) + (wrap64 ((wrap64 ((wrap64 (rd l0 (ji7))) * 256)) + (wrap64 (rd l0 (ji10))))))) : Int).toNat).drop ((ji16) : Int).toNat).length → (convert 22 9 (.slice A29 n_ (c0 - (ji16).toNat))).run Try.prog wc = .ok (.string (strOfNums ((l0.take ((wrap64 ((ji16) + (wrap64 ((wrap64 ((wrap64 (rd l0 (ji7))) * 256)) + (wrap64 (rd l0 (ji10))))))) : Int).toNat).drop ((ji16) : Int).toNat))) wc := fun n_ hn_ => (by subst hn_; exact Kd.C_string (P := Try.prog) Try.underlying22 Try.underlying5 Try.underlying9 (Kd.C_below HR189.out (show Below w.heap.size w wc from (by repeat (first | (with_reducible first | exact HB.out | apply below_alloc | apply pw_below_drewN | apply below_drew1) | exact HB.out)))))
                                            go_wp2_with (first | (go_at_call 13; (with_reducible refine (auguryref02_Sum.calls kj12 (strOfNums ((l0.take ((wrap64 ((ji16) + (wrap64 ((wrap64 ((wrap64 (rd l0 (ji7))) * 256)) + (wrap64 (rd l0 (ji10))))))) : Int).toNat).drop ((ji16) : Int).toNat)) t190 _ A20.out).mono ?_); rintro e w' ⟨rfl, ⟨nd, rfl⟩⟩; (try first | exact ⟨rfl, _, World.drewN_drewN _ _ _⟩ | exact ⟨rfl, _, Eq.trans (World.drewN_drewN _ _ _) (congrArg (World.drewN _) (Nat.add_assoc _ _ _))⟩); have p191 : 0 ≤ ((ji21) : Int) := of_decide_eq_true (by first | (with_reducible assumption) | assumption); have q191 : (ji21) < (l0.length : Int) := of_decide_eq_true (by first | (with_reducible assumption) | assumption); obtain ⟨ad191, e191, hx191_0⟩ := Kd.at_int HR0.out (ji21) p191 q191; obtain rfl : ad187 = ad191 := (by injection e191); replace hx191_0 := (HB.out.cell (World.block_lt_of_cell? w _ hx191_0)).trans hx191_0; replace p191 := eq_true p191; replace q191 := eq_true q191; have p192 : 0 ≤ ((ji24) : Int) := of_decide_eq_true (by first | (with_reducible assumption) | assumption); have q192 : (ji24) < (l0.length : Int) := of_decide_eq_true (by first | (with_reducible assumption) | assumption); obtain ⟨ad192, e192, hx192_0⟩ := Kd.at_int HR0.out (ji24) p192 q192; obtain rfl : ad187 = ad192 := (by injection e192); replace hx192_0 := (HB.out.cell (World.block_lt_of_cell? w _ hx192_0)).trans hx192_0; replace p192 := eq_true p192; replace q192 := eq_true q192) | ((with_reducible refine gate_builtin (b := .append) (xs := #[.tmp 71, .tmp 73]) rfl ?_); (try (refine gate_guard (by rfl) ?_; dsimp only)); at_builtin; refine Kd.R_append Kd.string (w0 := w) w.heap.size rfl (.tmp 71) (.tmp 73) 24 9 (.string ⟨#[]⟩) 16 rfl Try.underlying24 info9 rfl (by decide) (by omega) u4 x4_1 (strOfNums ((l0.take ((wrap64 ((ji16) + (wrap64 ((wrap64 ((wrap64 (rd l0 (ji7))) * 256)) + (wrap64 (rd l0 (ji10))))))) : Int).toNat).drop ((ji16) : Int).toNat)) [.string (strOfNums ((l0.take ((wrap64 ((ji16) + (wrap64 ((wrap64 ((wrap64 (rd l0 (ji7))) * 256)) + (wrap64 (rd l0 (ji10))))))) : Int).toNat).drop ((ji16) : Int).toNat))] (fun _ => True) (fun _ => False) rfl rfl ?aP (fun _ hk => hk.elim) ?aF ?aO ?aB ?aS ?aL ?_; (case aP => exact rfl); (case aB => exact (by repeat (first | (with_reducible first | exact HB.out | apply below_alloc | apply pw_below_drewN | apply below_drew1) | exact HB.out))); (case aF => exact (fun _ _ => trivial)); (case aO => exact (by (with_reducible repeat (first | apply Kd.R_alloc | apply Kd.R_drewN | apply Kd.R_drew)); exact HO_4.out)); (case aS => exact (below_size (by repeat (first | (with_reducible first | exact HB.out | apply below_alloc | apply pw_below_drewN | apply below_drew1) | exact HB.out)))); (case aL => have := LMc28.out; omega); intro v194 w31 ho hb hg hat; rw [← Ny193.out] at ho; have n0_ := Aside0.mk (hb); have n1_ := Aside0.mk (ho); clear HB; clear HO_4; have HB := n0_; have HO195 := n1_; clear n0_ n1_; clear ho hb hg hat))
                                            repeat (go_quiet (first | (go_at_call 13; (with_reducible refine (auguryref02_Sum.calls kj12 (strOfNums ((l0.take ((wrap64 ((ji16) + (wrap64 ((wrap64 ((wrap64 (rd l0 (ji7))) * 256)) + (wrap64 (rd l0 (ji10))))))) : Int).toNat).drop ((ji16) : Int).toNat)) t190 _ A20.out).mono ?_); rintro e w' ⟨rfl, ⟨nd, rfl⟩⟩; (try first | exact ⟨rfl, _, World.drewN_drewN _ _ _⟩ | exact ⟨rfl, _, Eq.trans (World.drewN_drewN _ _ _) (congrArg (World.drewN _) (Nat.add_assoc _ _ _))⟩); have p191 : 0 ≤ ((ji21) : Int) := of_decide_eq_true (by first | (with_reducible assumption) | assumption); have q191 : (ji21) < (l0.length : Int) := of_decide_eq_true (by first | (with_reducible assumption) | assumption); obtain ⟨ad191, e191, hx191_0⟩ := Kd.at_int HR0.out (ji21) p191 q191; obtain rfl : ad187 = ad191 := (by injection e191); replace hx191_0 := (HB.out.cell (World.block_lt_of_cell? w _ hx191_0)).trans hx191_0; replace p191 := eq_true p191; replace q191 := eq_true q191; have p192 : 0 ≤ ((ji24) : Int) := of_decide_eq_true (by first | (with_reducible assumption) | assumption); have q192 : (ji24) < (l0.length : Int) := of_decide_eq_true (by first | (with_reducible assumption) | assumption); obtain ⟨ad192, e192, hx192_0⟩ := Kd.at_int HR0.out (ji24) p192 q192; obtain rfl : ad187 = ad192 := (by injection e192); replace hx192_0 := (HB.out.cell (World.block_lt_of_cell? w _ hx192_0)).trans hx192_0; replace p192 := eq_true p192; replace q192 := eq_true q192) | ((with_reducible refine gate_builtin (b := .append) (xs := #[.tmp 71, .tmp 73]) rfl ?_); (try (refine gate_guard (by rfl) ?_; dsimp only)); at_builtin; refine Kd.R_append Kd.string (w0 := w) w.heap.size rfl (.tmp 71) (.tmp 73) 24 9 (.string ⟨#[]⟩) 16 rfl Try.underlying24 info9 rfl (by decide) (by omega) u4 x4_1 (strOfNums ((l0.take ((wrap64 ((ji16) + (wrap64 ((wrap64 ((wrap64 (rd l0 (ji7))) * 256)) + (wrap64 (rd l0 (ji10))))))) : Int).toNat).drop ((ji16) : Int).toNat)) [.string (strOfNums ((l0.take ((wrap64 ((ji16) + (wrap64 ((wrap64 ((wrap64 (rd l0 (ji7))) * 256)) + (wrap64 (rd l0 (ji10))))))) : Int).toNat).drop ((ji16) : Int).toNat))] (fun _ => True) (fun _ => False) rfl rfl ?aP (fun _ hk => hk.elim) ?aF ?aO ?aB ?aS ?aL ?_; (case aP => exact rfl); (case aB => exact (by repeat (first | (with_reducible first | exact HB.out | apply below_alloc | apply pw_below_drewN | apply below_drew1) | exact HB.out))); (case aF => exact (fun _ _ => trivial)); (case aO => exact (by (with_reducible repeat (first | apply Kd.R_alloc | apply Kd.R_drewN | apply Kd.R_drew)); exact HO_4.out)); (case aS => exact (below_size (by repeat (first | (with_reducible first | exact HB.out | apply below_alloc | apply pw_below_drewN | apply below_drew1) | exact HB.out)))); (case aL => have := LMc28.out; omega); intro v194 w31 ho hb hg hat; rw [← Ny193.out] at ho; have n0_ := Aside0.mk (hb); have n1_ := Aside0.mk (ho); clear HB; clear HO_4; have HB := n0_; have HO195 := n1_; clear n0_ n1_; clear ho hb hg hat)); try go_wp2_with (first | (go_at_call 13; (with_reducible refine (auguryref02_Sum.calls kj12 (strOfNums ((l0.take ((wrap64 ((ji16) + (wrap64 ((wrap64 ((wrap64 (rd l0 (ji7))) * 256)) + (wrap64 (rd l0 (ji10))))))) : Int).toNat).drop ((ji16) : Int).toNat)) t190 _ A20.out).mono ?_); rintro e w' ⟨rfl, ⟨nd, rfl⟩⟩; (try first | exact ⟨rfl, _, World.drewN_drewN _ _ _⟩ | exact ⟨rfl, _, Eq.trans (World.drewN_drewN _ _ _) (congrArg (World.drewN _) (Nat.add_assoc _ _ _))⟩); have p191 : 0 ≤ ((ji21) : Int) := of_decide_eq_true (by first | (with_reducible assumption) | assumption); have q191 : (ji21) < (l0.length : Int) := of_decide_eq_true (by first | (with_reducible assumption) | assumption); obtain ⟨ad191, e191, hx191_0⟩ := Kd.at_int HR0.out (ji21) p191 q191; obtain rfl : ad187 = ad191 := (by injection e191); replace hx191_0 := (HB.out.cell (World.block_lt_of_cell? w _ hx191_0)).trans hx191_0; replace p191 := eq_true p191; replace q191 := eq_true q191; have p192 : 0 ≤ ((ji24) : Int) := of_decide_eq_true (by first | (with_reducible assumption) | assumption); have q192 : (ji24) < (l0.length : Int) := of_decide_eq_true (by first | (with_reducible assumption) | assumption); obtain ⟨ad192, e192, hx192_0⟩ := Kd.at_int HR0.out (ji24) p192 q192; obtain rfl : ad187 = ad192 := (by injection e192); replace hx192_0 := (HB.out.cell (World.block_lt_of_cell? w _ hx192_0)).trans hx192_0; replace p192 := eq_true p192; replace q192 := eq_true q192) | ((with_reducible refine gate_builtin (b := .append) (xs := #[.tmp 71, .tmp 73]) rfl ?_); (try (refine gate_guard (by rfl) ?_; dsimp only)); at_builtin; refine Kd.R_append Kd.string (w0 := w) w.heap.size rfl (.tmp 71) (.tmp 73) 24 9 (.string ⟨#[]⟩) 16 rfl Try.underlying24 info9 rfl (by decide) (by omega) u4 x4_1 (strOfNums ((l0.take ((wrap64 ((ji16) + (wrap64 ((wrap64 ((wrap64 (rd l0 (ji7))) * 256)) + (wrap64 (rd l0 (ji10))))))) : Int).toNat).drop ((ji16) : Int).toNat)) [.string (strOfNums ((l0.take ((wrap64 ((ji16) + (wrap64 ((wrap64 ((wrap64 (rd l0 (ji7))) * 256)) + (wrap64 (rd l0 (ji10))))))) : Int).toNat).drop ((ji16) : Int).toNat))] (fun _ => True) (fun _ => False) rfl rfl ?aP (fun _ hk => hk.elim) ?aF ?aO ?aB ?aS ?aL ?_; (case aP => exact rfl); (case aB => exact (by repeat (first | (with_reducible first | exact HB.out | apply below_alloc | apply pw_below_drewN | apply below_drew1) | exact HB.out))); (case aF => exact (fun _ _ => trivial)); (case aO => exact (by (with_reducible repeat (first | apply Kd.R_alloc | apply Kd.R_drewN | apply Kd.R_drew)); exact HO_4.out)); (case aS => exact (below_size (by repeat (first | (with_reducible first | exact HB.out | apply below_alloc | apply pw_below_drewN | apply below_drew1) | exact HB.out)))); (case aL => have := LMc28.out; omega); intro v194 w31 ho hb hg hat; rw [← Ny193.out] at ho; have n0_ := Aside0.mk (hb); have n1_ := Aside0.mk (ho); clear HB; clear HO_4; have HB := n0_; have HO195 := n1_; clear n0_ n1_; clear ho hb hg hat)))
                                            go_roundg kj12
                                            case measure => have := HK1.out; have := HJ1.out; have := HJ12.out; omega
                                            case rel => exact ⟨(y193), (wrap64 ((ji16) + (wrap64 ((wrap64 ((wrap64 (rd l0 (ji7))) * 256)) + (wrap64 (rd l0 (ji10))))))), (by first | rfl | (simp; done) | (simp only [← hji7, ← hji10, ← hji16] <;> (first | rfl | simp)) | (simp [*]; done)), H', ⟨by have := HK1.out; have := HJ1.out; have := HJ12.out; omega⟩, ⟨by (with_reducible repeat (first | apply Kd.R_alloc | apply Kd.R_drewN | apply Kd.R_drew)); exact HO195.out⟩, ⟨by repeat (first | (with_reducible first | exact HB.out | apply below_alloc | apply pw_below_drewN | apply below_drew1) | exact HB.out)⟩⟩
                                          · rw [if_neg c28] at H
                                            exact absurd H (by simp)
                                        · rw [if_neg c27] at H
                                          have c27b0 : (t190 == (wrap64 ((wrap64 ((wrap64 (rd l0 (ji21))) * 256)) + (wrap64 (rd l0 (ji24)))))) = false := beq_eq_false_iff_ne.mpr c27
                                          have c27b1 : (t190 != (wrap64 ((wrap64 ((wrap64 (rd l0 (ji21))) * 256)) + (wrap64 (rd l0 (ji24)))))) = true := bne_iff_ne.mpr c27
                                          (try (have c27w0 := c27b0; simp only [← i64_w] at c27w0))
                                          (try (have c27w1 := c27b1; simp only [← i64_w] at c27w1))
                                          simp only [Option.some.injEq, Prod.mk.injEq] at H
                                          obtain ⟨rfl, rfl⟩ := H
                                          obtain ⟨i032, hi032, _, hsz32, _⟩ := info_parts info5
                                          obtain ⟨A32, hcut32, hA32, hC32⟩ := print_mid_of (P := Try.prog) (Value.int .u8) 0 22 5 .i64 .i64 Try.underlying22 hi032 hsz32 (some ad187) c0 l0 (ji16) (wrap64 ((ji16) + (wrap64 ((wrap64 ((wrap64 (rd l0 (ji7))) * 256)) + (wrap64 (rd l0 (ji10))))))) (of_decide_eq_true (by first | (with_reducible assumption) | assumption)) (by first | omega | exact of_decide_eq_true (by first | (with_reducible assumption) | assumption)) (of_decide_eq_true (by first | (with_reducible assumption) | assumption)) HC0.out
                                          have HR189 := Aside0.mk (Kd.C_of_reads (h1 := fun _ => rfl) (hA32 _ (Kd.reads_of_C HR0.out)))
                                          have HC189 := Aside0.mk hC32
                                          clear hA32 hC32 hi032 hsz32
                                          have hcv33 : ∀ n_ : Nat, n_ = ((l0.take ((wrap64 ((ji16) + (wrap64 ((wrap64 ((wrap64 (rd l0 (ji7))) * 256)) + (wrap64 (rd l0 (ji10))))))) : Int).toNat).drop ((ji16) : Int).toNat).length → (convert 22 9 (.slice A32 n_ (c0 - (ji16).toNat))).run Try.prog wc = .ok (.string (strOfNums ((l0.take ((wrap64 ((ji16) + (wrap64 ((wrap64 ((wrap64 (rd l0 (ji7))) * 256)) + (wrap64 (rd l0 (ji10))))))) : Int).toNat).drop ((ji16) : Int).toNat))) wc := fun n_ hn_ => (by subst hn_; exact Kd.C_string (P := Try.prog) Try.underlying22 Try.underlying5 Try.underlying9 (Kd.C_below HR189.out (show Below w.heap.size w wc from (by repeat (first | (with_reducible first | exact HB.out | apply below_alloc | apply pw_below_drewN | apply below_drew1) | exact HB.out)))))
                                          go_wp2_with (first | (go_at_call 13; (with_reducible refine (auguryref02_Sum.calls kj12 (strOfNums ((l0.take ((wrap64 ((ji16) + (wrap64 ((wrap64 ((wrap64 (rd l0 (ji7))) * 256)) + (wrap64 (rd l0 (ji10))))))) : Int).toNat).drop ((ji16) : Int).toNat)) t190 _ A20.out).mono ?_); rintro e w' ⟨rfl, ⟨nd, rfl⟩⟩; (try first | exact ⟨rfl, _, World.drewN_drewN _ _ _⟩ | exact ⟨rfl, _, Eq.trans (World.drewN_drewN _ _ _) (congrArg (World.drewN _) (Nat.add_assoc _ _ _))⟩); have p191 : 0 ≤ ((ji21) : Int) := of_decide_eq_true (by first | (with_reducible assumption) | assumption); have q191 : (ji21) < (l0.length : Int) := of_decide_eq_true (by first | (with_reducible assumption) | assumption); obtain ⟨ad191, e191, hx191_0⟩ := Kd.at_int HR0.out (ji21) p191 q191; obtain rfl : ad187 = ad191 := (by injection e191); replace hx191_0 := (HB.out.cell (World.block_lt_of_cell? w _ hx191_0)).trans hx191_0; replace p191 := eq_true p191; replace q191 := eq_true q191; have p192 : 0 ≤ ((ji24) : Int) := of_decide_eq_true (by first | (with_reducible assumption) | assumption); have q192 : (ji24) < (l0.length : Int) := of_decide_eq_true (by first | (with_reducible assumption) | assumption); obtain ⟨ad192, e192, hx192_0⟩ := Kd.at_int HR0.out (ji24) p192 q192; obtain rfl : ad187 = ad192 := (by injection e192); replace hx192_0 := (HB.out.cell (World.block_lt_of_cell? w _ hx192_0)).trans hx192_0; replace p192 := eq_true p192; replace q192 := eq_true q192))
                                          repeat (go_quiet (first | (go_at_call 13; (with_reducible refine (auguryref02_Sum.calls kj12 (strOfNums ((l0.take ((wrap64 ((ji16) + (wrap64 ((wrap64 ((wrap64 (rd l0 (ji7))) * 256)) + (wrap64 (rd l0 (ji10))))))) : Int).toNat).drop ((ji16) : Int).toNat)) t190 _ A20.out).mono ?_); rintro e w' ⟨rfl, ⟨nd, rfl⟩⟩; (try first | exact ⟨rfl, _, World.drewN_drewN _ _ _⟩ | exact ⟨rfl, _, Eq.trans (World.drewN_drewN _ _ _) (congrArg (World.drewN _) (Nat.add_assoc _ _ _))⟩); have p191 : 0 ≤ ((ji21) : Int) := of_decide_eq_true (by first | (with_reducible assumption) | assumption); have q191 : (ji21) < (l0.length : Int) := of_decide_eq_true (by first | (with_reducible assumption) | assumption); obtain ⟨ad191, e191, hx191_0⟩ := Kd.at_int HR0.out (ji21) p191 q191; obtain rfl : ad187 = ad191 := (by injection e191); replace hx191_0 := (HB.out.cell (World.block_lt_of_cell? w _ hx191_0)).trans hx191_0; replace p191 := eq_true p191; replace q191 := eq_true q191; have p192 : 0 ≤ ((ji24) : Int) := of_decide_eq_true (by first | (with_reducible assumption) | assumption); have q192 : (ji24) < (l0.length : Int) := of_decide_eq_true (by first | (with_reducible assumption) | assumption); obtain ⟨ad192, e192, hx192_0⟩ := Kd.at_int HR0.out (ji24) p192 q192; obtain rfl : ad187 = ad192 := (by injection e192); replace hx192_0 := (HB.out.cell (World.block_lt_of_cell? w _ hx192_0)).trans hx192_0; replace p192 := eq_true p192; replace q192 := eq_true q192)); try go_wp2_with (first | (go_at_call 13; (with_reducible refine (auguryref02_Sum.calls kj12 (strOfNums ((l0.take ((wrap64 ((ji16) + (wrap64 ((wrap64 ((wrap64 (rd l0 (ji7))) * 256)) + (wrap64 (rd l0 (ji10))))))) : Int).toNat).drop ((ji16) : Int).toNat)) t190 _ A20.out).mono ?_); rintro e w' ⟨rfl, ⟨nd, rfl⟩⟩; (try first | exact ⟨rfl, _, World.drewN_drewN _ _ _⟩ | exact ⟨rfl, _, Eq.trans (World.drewN_drewN _ _ _) (congrArg (World.drewN _) (Nat.add_assoc _ _ _))⟩); have p191 : 0 ≤ ((ji21) : Int) := of_decide_eq_true (by first | (with_reducible assumption) | assumption); have q191 : (ji21) < (l0.length : Int) := of_decide_eq_true (by first | (with_reducible assumption) | assumption); obtain ⟨ad191, e191, hx191_0⟩ := Kd.at_int HR0.out (ji21) p191 q191; obtain rfl : ad187 = ad191 := (by injection e191); replace hx191_0 := (HB.out.cell (World.block_lt_of_cell? w _ hx191_0)).trans hx191_0; replace p191 := eq_true p191; replace q191 := eq_true q191; have p192 : 0 ≤ ((ji24) : Int) := of_decide_eq_true (by first | (with_reducible assumption) | assumption); have q192 : (ji24) < (l0.length : Int) := of_decide_eq_true (by first | (with_reducible assumption) | assumption); obtain ⟨ad192, e192, hx192_0⟩ := Kd.at_int HR0.out (ji24) p192 q192; obtain rfl : ad187 = ad192 := (by injection e192); replace hx192_0 := (HB.out.cell (World.block_lt_of_cell? w _ hx192_0)).trans hx192_0; replace p192 := eq_true p192; replace q192 := eq_true q192)))
                                          go_ret2
                                          exact ⟨_, by first | rfl | (simp [errW_none, errW_some] <;> rfl) | (simp only [← hji7, ← hji10, ← hji16, ← hji21, ← hji24]; first | rfl | (simp [errW_none, errW_some] <;> rfl)) | (simp [*, errW_none, errW_some] <;> rfl), by (with_reducible repeat (first | apply Kd.R_alloc | apply Kd.R_drewN | apply Kd.R_drew)); exact HO_4.out, by repeat (first | (with_reducible first | exact HB.out | apply below_alloc | apply pw_below_drewN | apply below_drew1) | exact HB.out)⟩
                                      · rw [if_neg c26] at H
                                        exact absurd H (by simp)
                                    · rw [if_neg c25] at H
                                      exact absurd H (by simp)
                                  · rw [if_neg c23] at H
                                    exact absurd H (by simp)
                                · rw [if_neg c22] at H
                                  exact absurd H (by simp)
                              · rw [if_neg c19] at H
                                exact absurd H (by simp)
                            · rw [if_neg c18] at H
                              exact absurd H (by simp)
                          · rw [if_neg c17] at H
                            exact absurd H (by simp)
                  · rw [if_neg c12] at H
                    exact absurd H (by simp)
                · rw [if_neg c11] at H
                  exact absurd H (by simp)
              · rw [if_neg c9] at H
                exact absurd H (by simp)
            · rw [if_neg c8] at H
              exact absurd H (by simp)
          · replace c6 := Bool.eq_false_iff.mpr c6
            subst c6
            have H1 : (some (x4_1, x5_1)) = some (r1, r2) := by rw [if_neg (show ¬ (false = true) by decide)] at H; exact H
            clear H
            have H := H1
            clear H1
            simp only [Option.some.injEq, Prod.mk.injEq] at H
            obtain ⟨rfl, rfl⟩ := H
            go_wp2
            repeat (go_quiet (fail); try go_wp2)
            go_ret2
            exact ⟨_, by first | rfl | (simp [errW_none, errW_some] <;> rfl) | (simp [*, errW_none, errW_some] <;> rfl), by (with_reducible repeat (first | apply Kd.R_alloc | apply Kd.R_drewN | apply Kd.R_drew)); exact HO_4.out, by repeat (first | (with_reducible first | exact HB.out | apply below_alloc | apply pw_below_drewN | apply below_drew1) | exact HB.out)⟩

end Go.Proofs.Ytkljljjmphneiaa.PAll
