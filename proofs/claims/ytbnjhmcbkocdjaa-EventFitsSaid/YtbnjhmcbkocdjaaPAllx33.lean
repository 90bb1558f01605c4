/- Written by this session's own program (wip/xprint): functions of the Go program as Lean functions, and proofs that the Go code computes them. -/
import Derived.Test.YtbnjhmcbkocdjaaPAllx0
namespace Go.Proofs.Ytbnjhmcbkocdjaa.PAll
open Go.RowKit Go.Proofs.YtbnjhmcbkocdjaaW.PrintWords Go.Proofs.YtbnjhmcbkocdjaaW.PrintLast Go.Proofs.YtbnjhmcbkocdjaaW.PrintMore
attribute [local go_sem] max2_int min2_int max_two min_two max_three min_three max_four min_four   -- for this text's walks alone
set_option linter.unusedVariables false
set_option linter.unusedSimpArgs false

/-! ### augurylaw05_GreatSchemas: function 10 -/
mutual
def augurylaw05_GreatSchemas.l0 : Nat → List (S31) → Int → Int → Option (Bool)
  | 0, _, _, _ => none
  | k + 1, x0, x3, x4 => if x4 < (x0.length : Int) then (augurylaw05_GreatSchemas.j1 k x0 x3 x4 (decide (x3 < 9000))) else (augurylaw05_GreatSchemas.j1 k x0 x3 x4 false)
def augurylaw05_GreatSchemas.j1 : Nat → List (S31) → Int → Int → Bool → Option (Bool)
  | 0, _, _, _, _ => none
  | k + 1, x0, x3, x4, x15 => if x15 = true then (if 0 ≤ x4 then (if x4 < (x0.length : Int) then (augurylaw05_GreatSchemas.l1 k x0 (wrap64 ((wrap64 (x3 + (mn (((rd_T31 x0 x4).f0).size : Int) 9000))) + (((rd_T31 x0 x4).f1).length : Int))) x4 0) else (none)) else (none)) else (some (decide (x3 ≥ 9000)))
def augurylaw05_GreatSchemas.l1 : Nat → List (S31) → Int → Int → Int → Option (Bool)
  | 0, _, _, _, _ => none
  | k + 1, x0, x3, x4, x5 => if 0 ≤ x4 then (if x4 < (x0.length : Int) then (if x5 < (((rd_T31 x0 x4).f1).length : Int) then (if x3 < 9000 then (if 0 ≤ x5 then (augurylaw05_GreatSchemas.l1 k x0 (wrap64 (x3 + (mn (((rd_T55 ((rd_T31 x0 x4).f1) x5).f0).size : Int) 9000))) x4 (wrap64 (x5 + 1))) else (none)) else (augurylaw05_GreatSchemas.l0 k x0 x3 (wrap64 (x4 + 1)))) else (augurylaw05_GreatSchemas.l0 k x0 x3 (wrap64 (x4 + 1)))) else (none)) else (none)
end
def augurylaw05_GreatSchemas.f (k : Nat) (l0 : List (S31)) : Option (Bool) := augurylaw05_GreatSchemas.l0 k l0 (l0.length : Int) 0
theorem augurylaw05_GreatSchemas.mono_l : ∀ k, (∀ y0 y1 y2, LeO (augurylaw05_GreatSchemas.l0 k y0 y1 y2) (augurylaw05_GreatSchemas.l0 (k + 1) y0 y1 y2)) ∧ (∀ y0 y1 y2 y3, LeO (augurylaw05_GreatSchemas.j1 k y0 y1 y2 y3) (augurylaw05_GreatSchemas.j1 (k + 1) y0 y1 y2 y3)) ∧ (∀ y0 y1 y2 y3, LeO (augurylaw05_GreatSchemas.l1 k y0 y1 y2 y3) (augurylaw05_GreatSchemas.l1 (k + 1) y0 y1 y2 y3))
  | 0 => ⟨fun _ _ _ r h => by simp [augurylaw05_GreatSchemas.l0] at h, fun _ _ _ _ r h => by simp [augurylaw05_GreatSchemas.j1] at h, fun _ _ _ _ r h => by simp [augurylaw05_GreatSchemas.l1] at h⟩
  | k + 1 => by
    obtain ⟨ih0, ih1, ih2⟩ := augurylaw05_GreatSchemas.mono_l k
    refine ⟨?_, ?_, ?_⟩
    · intro y0 y1 y2
      unfold augurylaw05_GreatSchemas.l0
      repeat' first
      | (with_reducible exact ih0 _ _ _)
      | (with_reducible exact ih1 _ _ _ _)
      | (with_reducible exact ih2 _ _ _ _)
      | (with_reducible exact LeO.refl _)
      | (with_reducible exact LeO.none _)
      | (with_reducible refine LeO.ite ?_ ?_)
      | (with_reducible refine LeO.bind ?_ (fun _ => ?_))
      | exact LeO.none _
      | refine LeO.ite ?_ ?_
      | refine LeO.bind ?_ (fun _ => ?_)
    · intro y0 y1 y2 y3
      unfold augurylaw05_GreatSchemas.j1
      repeat' first
      | (with_reducible exact ih0 _ _ _)
      | (with_reducible exact ih1 _ _ _ _)
      | (with_reducible exact ih2 _ _ _ _)
      | (with_reducible exact LeO.refl _)
      | (with_reducible exact LeO.none _)
      | (with_reducible refine LeO.ite ?_ ?_)
      | (with_reducible refine LeO.bind ?_ (fun _ => ?_))
      | exact LeO.none _
      | refine LeO.ite ?_ ?_
      | refine LeO.bind ?_ (fun _ => ?_)
    · intro y0 y1 y2 y3
      unfold augurylaw05_GreatSchemas.l1
      repeat' first
      | (with_reducible exact ih0 _ _ _)
      | (with_reducible exact ih1 _ _ _ _)
      | (with_reducible exact ih2 _ _ _ _)
      | (with_reducible exact LeO.refl _)
      | (with_reducible exact LeO.none _)
      | (with_reducible refine LeO.ite ?_ ?_)
      | (with_reducible refine LeO.bind ?_ (fun _ => ?_))
      | exact LeO.none _
      | refine LeO.ite ?_ ?_
      | refine LeO.bind ?_ (fun _ => ?_)
theorem augurylaw05_GreatSchemas.mono : ∀ a0 k, LeO (augurylaw05_GreatSchemas.f k a0) (augurylaw05_GreatSchemas.f (k + 1) a0) := by
  intro a0 k
  obtain ⟨ih0, ih1, ih2⟩ := augurylaw05_GreatSchemas.mono_l k
  unfold augurylaw05_GreatSchemas.f
  repeat' first
      | (with_reducible exact ih0 _ _ _)
      | (with_reducible exact ih1 _ _ _ _)
      | (with_reducible exact ih2 _ _ _ _)
      | (with_reducible exact LeO.refl _)
      | (with_reducible exact LeO.none _)
      | (with_reducible refine LeO.ite ?_ ?_)
      | (with_reducible refine LeO.bind ?_ (fun _ => ?_))
      | exact LeO.none _
      | refine LeO.ite ?_ ?_
      | refine LeO.bind ?_ (fun _ => ?_)
set_option maxHeartbeats 8000000 in
set_option maxRecDepth 100000 in
theorem augurylaw05_GreatSchemas.calls (k : Nat) (A0 : Option Addr) (c0 : Nat) (l0 : List (S31)) (r : Bool) (w : World) (hr0 : Kd.C k31 w A0 l0.length l0) (hc0 : l0.length ≤ c0) (h : augurylaw05_GreatSchemas.f k l0 = some r) :
    Calls Try.prog 10 #[.slice A0 l0.length c0] w fun e w' => e = .returned (.bool r) ∧ Below w.heap.size w w' := by
  have HR0 := Aside0.mk hr0
  have HC0 := Aside0.mk hc0
  clear hr0 hc0
  have HB := Aside0.mk (Below.refl w.heap.size w)
  have H : (augurylaw05_GreatSchemas.l0 k l0 (l0.length : Int) 0) = some r := h
  clear h
  have H' := Aside0.mk H
  clear H
  go_enter Try.func10, Try.ntmps10
  go_wp2
  repeat (go_quiet (fail); try go_wp2)
  go_loopg [3, 4] k (fun kq v3 v4 w' => ∃ (x3_1 : Int) (x4_1 : Int), v3 = .int .i64 x3_1 ∧ v4 = .int .i64 x4_1 ∧ Aside0 (augurylaw05_GreatSchemas.l0 kq l0 x3_1 x4_1 = some r) ∧ Aside0 (kq ≤ k) ∧ Aside0 (Below w.heap.size w w'))
  case atStart => exact ⟨((l0.length : Int)), (0), (by first | rfl | (simp; done) | (simp [*]; done) | grind), (by first | rfl | (simp; done) | (simp [*]; done) | grind), H', ⟨Nat.le_refl _⟩, ⟨pl_below HB.out⟩⟩
  case round =>
   clear H'
   (try clear c1)
   obtain ⟨x3_1, x4_1, rfl, rfl, HA, HK1, HB⟩ := hrel
   cases gk with
   | zero => exact absurd HA.out (by simp [augurylaw05_GreatSchemas.l0])
   | succ k1 =>
    have H := HA.out
    clear HA
    simp only [augurylaw05_GreatSchemas.l0] at H
    have HC2 := Aside0.mk H
    clear H
    go_upto_region 3 with (fail)
    repeat (go_quiet (fail); go_upto_region 3 with (fail))
    go_cut [15] (fun v15 wc => ∃ (kq : Nat) (x15_1 : Bool), v15 = .bool x15_1 ∧ Aside0 (augurylaw05_GreatSchemas.j1 kq l0 x3_1 x4_1 x15_1 = some r) ∧ Aside0 (kq ≤ k1) ∧ Aside0 (Below w.heap.size w wc))
    case first =>
     have H := HC2.out
     clear HC2
     by_cases c3 : x4_1 < (l0.length : Int)
     ·rw [if_pos c3] at H
      have c3b0 : decide (x4_1 < (l0.length : Int)) = true := decide_eq_true c3
      clear c3
      (first | rw [c3b0] | (simp only [i64_w, i32_w]; rw [c3b0]) | rw [c3b1] | skip)
      have H' := Aside0.mk H
      clear H
      go_wp2
      repeat (go_quiet (fail); try go_wp2)
      go_meet
      case rel => exact ⟨_, (decide (x3_1 < 9000)), (by first | rfl | (simp; done) | (simp [*]; done) | grind), H', ⟨by have := HK1.out; first | omega | exact Nat.le_refl _⟩, ⟨pl_below HB.out⟩⟩
     ·rw [if_neg c3] at H
      have c3b0 : decide (x4_1 < (l0.length : Int)) = false := decide_eq_false c3
      clear c3
      (first | rw [c3b0] | (simp only [i64_w, i32_w]; rw [c3b0]) | rw [c3b1] | skip)
      have H' := Aside0.mk H
      clear H
      go_wp2
      repeat (go_quiet (fail); try go_wp2)
      go_meet
      case rel => exact ⟨_, (false), (by first | rfl | (simp; done) | (simp [*]; done) | grind), H', ⟨by have := HK1.out; first | omega | exact Nat.le_refl _⟩, ⟨pl_below HB.out⟩⟩
    case rest =>
     clear HC2
     (try clear c1); (try clear p2); (try clear c3); (try clear c3b0); (try clear c3b1)
     obtain ⟨kq, x15_1, rfl, HA, HJ1, HB⟩ := hcut
     cases kq with
     | zero => exact absurd HA.out (by simp [augurylaw05_GreatSchemas.j1])
     | succ kj1 =>
      have H := HA.out
      clear HA
      simp only [augurylaw05_GreatSchemas.j1] at H
      by_cases c4 : x15_1 = true
      ·subst c4
       rw [if_pos rfl] at H
       by_cases c5 : 0 ≤ x4_1; rotate_left
       ·rw [if_neg c5] at H; cases H
       rw [if_pos c5] at H
       have c5b0 : decide (0 ≤ x4_1) = true := decide_eq_true c5
       clear c5
       by_cases c6 : x4_1 < (l0.length : Int); rotate_left
       ·rw [if_neg c6] at H; cases H
       rw [if_pos c6] at H
       have c6b0 : decide (x4_1 < (l0.length : Int)) = true := decide_eq_true c6
       clear c6
       obtain ⟨ji7, hji7⟩ : ∃ j_ : Int, (mn (((rd_T31 l0 x4_1).f0).size : Int) 9000) = j_ := ⟨_, rfl⟩
       first | rw [hji7] at H | simp only [hji7] at H
       have hji7_ : (if 9000 < (((rd_T31 l0 x4_1).f0).size : Int) then 9000 else (((rd_T31 l0 x4_1).f0).size : Int)) = ji7 := hji7
       have H' := Aside0.mk H
       clear H
       have p324 : 0 ≤ (x4_1 : Int) := of_decide_eq_true (by first | (with_reducible assumption) | assumption)
       have q324 : x4_1 < (l0.length : Int) := of_decide_eq_true (by first | (with_reducible assumption) | assumption)
       obtain ⟨ad324, A324_1, c324_1, e324, hx324_0, hx324_1, hl324_1, hi324_1⟩ := at_T31 HR0.out x4_1 p324 q324
       cases e324
       replace hx324_0 := (HB.out.cell (World.block_lt_of_cell? w _ hx324_0)).trans hx324_0
       replace hx324_1 := (HB.out.cell (World.block_lt_of_cell? w _ hx324_1)).trans hx324_1
       have HR324_1 := Aside0.mk hi324_1
       have HC324_1 := Aside0.mk hl324_1
       clear hi324_1 hl324_1
       replace p324 := eq_true p324
       replace q324 := eq_true q324
       have p325 : 0 ≤ (x4_1 : Int) := of_decide_eq_true (by first | (with_reducible assumption) | assumption)
       have q325 : x4_1 < (l0.length : Int) := of_decide_eq_true (by first | (with_reducible assumption) | assumption)
       obtain ⟨ad325, A325_1, c325_1, e325, hx325_0, hx325_1, hl325_1, hi325_1⟩ := at_T31 HR0.out x4_1 p325 q325
       obtain rfl : ad324 = ad325 := (by injection e325)
       replace hx325_0 := (HB.out.cell (World.block_lt_of_cell? w _ hx325_0)).trans hx325_0
       replace hx325_1 := (HB.out.cell (World.block_lt_of_cell? w _ hx325_1)).trans hx325_1
       have HR325_1 := Aside0.mk hi325_1
       have HC325_1 := Aside0.mk hl325_1
       clear hi325_1 hl325_1
       replace p325 := eq_true p325
       replace q325 := eq_true q325
       have ea_ := Option.some.inj (hx324_1.symm.trans hx325_1)
       injection ea_ with ea_ en_ ec_
       subst ea_
       subst ec_
       clear en_
       go_wp2
       repeat (go_quiet (fail); try go_wp2)
       go_loopg [3, 5] kj1 (fun kq v3 v5 w' => ∃ (x3_3 : Int) (x5_3 : Int), v3 = .int .i64 x3_3 ∧ v5 = .int .i64 x5_3 ∧ Aside0 (augurylaw05_GreatSchemas.l1 kq l0 x3_3 x4_1 x5_3 = some r) ∧ Aside0 (kq ≤ kj1) ∧ Aside0 (Below w.heap.size w w'))
       case atStart => exact ⟨(wrap64 ((wrap64 (x3_1 + (ji7))) + (((rd_T31 l0 x4_1).f1).length : Int))), (0), (by first | rfl | (simp; done) | (simp only [← hji7] <;> (first | rfl | simp)) | (simp [*]; done)), (by first | rfl | (simp; done) | (simp [*]; done) | grind), H', ⟨Nat.le_refl _⟩, ⟨pl_below HB.out⟩⟩
       case round =>
        clear H'
        (try clear c1); (try clear p2); (try clear c3); (try clear c3b0); (try clear c3b1); (try clear p3); (try clear q3); (try clear hx3); (try clear c4); (try clear c5); (try clear c5b0); (try clear c6); (try clear c6b0); (try clear p6); (try clear hx324_0); (try clear hx324_1); (try clear hx325_0); (try clear hx325_1); (try clear p324); (try clear p325); (try clear q324); (try clear q325)
        obtain ⟨x3_3, x5_3, rfl, rfl, HA, HK3, HB⟩ := hrel
        cases gk with
        | zero => exact absurd HA.out (by simp [augurylaw05_GreatSchemas.l1])
        | succ k3 =>
         have H := HA.out
         clear HA
         simp only [augurylaw05_GreatSchemas.l1] at H
         by_cases c8 : 0 ≤ x4_1; rotate_left
         ·rw [if_neg c8] at H; cases H
         rw [if_pos c8] at H
         have c8b0 : decide (0 ≤ x4_1) = true := decide_eq_true c8
         clear c8
         by_cases c9 : x4_1 < (l0.length : Int); rotate_left
         ·rw [if_neg c9] at H; cases H
         rw [if_pos c9] at H
         have c9b0 : decide (x4_1 < (l0.length : Int)) = true := decide_eq_true c9
         clear c9
         by_cases c10 : x5_3 < (((rd_T31 l0 x4_1).f1).length : Int)
         ·rw [if_pos c10] at H
          have c10b0 : decide (x5_3 < (((rd_T31 l0 x4_1).f1).length : Int)) = true := decide_eq_true c10
          clear c10
          by_cases c11 : x3_3 < 9000
          ·rw [if_pos c11] at H
           have c11b0 : decide (x3_3 < 9000) = true := decide_eq_true c11
           clear c11
           by_cases c12 : 0 ≤ x5_3; rotate_left
           ·rw [if_neg c12] at H; cases H
           rw [if_pos c12] at H
           have c12b0 : decide (0 ≤ x5_3) = true := decide_eq_true c12
           clear c12
           obtain ⟨ji13, hji13⟩ : ∃ j_ : Int, (mn (((rd_T55 ((rd_T31 l0 x4_1).f1) x5_3).f0).size : Int) 9000) = j_ := ⟨_, rfl⟩
           first | rw [hji13] at H | simp only [hji13] at H
           have hji13_ : (if 9000 < (((rd_T55 ((rd_T31 l0 x4_1).f1) x5_3).f0).size : Int) then 9000 else (((rd_T55 ((rd_T31 l0 x4_1).f1) x5_3).f0).size : Int)) = ji13 := hji13
           have H' := Aside0.mk H
           clear H
           have p326 : 0 ≤ (x4_1 : Int) := of_decide_eq_true (by first | (with_reducible assumption) | assumption)
           have q326 : x4_1 < (l0.length : Int) := of_decide_eq_true (by first | (with_reducible assumption) | assumption)
           obtain ⟨ad326, A326_1, c326_1, e326, hx326_0, hx326_1, hl326_1, hi326_1⟩ := at_T31 HR0.out x4_1 p326 q326
           obtain rfl : ad324 = ad326 := (by injection e326)
           replace hx326_0 := (HB.out.cell (World.block_lt_of_cell? w _ hx326_0)).trans hx326_0
           replace hx326_1 := (HB.out.cell (World.block_lt_of_cell? w _ hx326_1)).trans hx326_1
           have HR326_1 := Aside0.mk hi326_1
           have HC326_1 := Aside0.mk hl326_1
           clear hi326_1 hl326_1
           replace p326 := eq_true p326
           replace q326 := eq_true q326
           have p327 : 0 ≤ (x4_1 : Int) := of_decide_eq_true (by first | (with_reducible assumption) | assumption)
           have q327 : x4_1 < (l0.length : Int) := of_decide_eq_true (by first | (with_reducible assumption) | assumption)
           obtain ⟨ad327, A327_1, c327_1, e327, hx327_0, hx327_1, hl327_1, hi327_1⟩ := at_T31 HR0.out x4_1 p327 q327
           obtain rfl : ad324 = ad327 := (by injection e327)
           replace hx327_0 := (HB.out.cell (World.block_lt_of_cell? w _ hx327_0)).trans hx327_0
           replace hx327_1 := (HB.out.cell (World.block_lt_of_cell? w _ hx327_1)).trans hx327_1
           have HR327_1 := Aside0.mk hi327_1
           have HC327_1 := Aside0.mk hl327_1
           clear hi327_1 hl327_1
           replace p327 := eq_true p327
           replace q327 := eq_true q327
           have ea_ := Option.some.inj (hx326_1.symm.trans hx327_1)
           injection ea_ with ea_ en_ ec_
           subst ea_
           subst ec_
           clear en_
           have p328 : 0 ≤ (x5_3 : Int) := of_decide_eq_true (by first | (with_reducible assumption) | assumption)
           have q328 : x5_3 < (((rd_T31 l0 x4_1).f1).length : Int) := of_decide_eq_true (by first | (with_reducible assumption) | assumption)
           obtain ⟨ad328, e328, hx328_0, hx328_1⟩ := at_T55 HR327_1.out x5_3 p328 q328
           cases e328
           replace hx328_0 := (HB.out.cell (World.block_lt_of_cell? w _ hx328_0)).trans hx328_0
           replace hx328_1 := (HB.out.cell (World.block_lt_of_cell? w _ hx328_1)).trans hx328_1
           replace p328 := eq_true p328
           replace q328 := eq_true q328
           go_wp2
           repeat (go_quiet (fail); try go_wp2)
           go_roundg k3
           case measure => have := HK1.out; have := HJ1.out; have := HK3.out; omega
           case rel => exact ⟨(wrap64 (x3_3 + (ji13))), (wrap64 (x5_3 + 1)), (by first | rfl | (simp; done) | (simp only [← hji13] <;> (first | rfl | simp)) | (simp [*]; done)), (by first | rfl | (simp; done) | (simp [*]; done) | grind), H', ⟨by have := HK1.out; have := HJ1.out; have := HK3.out; omega⟩, ⟨pl_below HB.out⟩⟩
          ·rw [if_neg c11] at H
           have c11b0 : decide (x3_3 < 9000) = false := decide_eq_false c11
           clear c11
           have H' := Aside0.mk H
           clear H
           have p326 : 0 ≤ (x4_1 : Int) := of_decide_eq_true (by first | (with_reducible assumption) | assumption)
           have q326 : x4_1 < (l0.length : Int) := of_decide_eq_true (by first | (with_reducible assumption) | assumption)
           obtain ⟨ad326, A326_1, c326_1, e326, hx326_0, hx326_1, hl326_1, hi326_1⟩ := at_T31 HR0.out x4_1 p326 q326
           obtain rfl : ad324 = ad326 := (by injection e326)
           replace hx326_0 := (HB.out.cell (World.block_lt_of_cell? w _ hx326_0)).trans hx326_0
           replace hx326_1 := (HB.out.cell (World.block_lt_of_cell? w _ hx326_1)).trans hx326_1
           have HR326_1 := Aside0.mk hi326_1
           have HC326_1 := Aside0.mk hl326_1
           clear hi326_1 hl326_1
           replace p326 := eq_true p326
           replace q326 := eq_true q326
           go_wp2
           repeat (go_quiet (fail); try go_wp2)
           go_roundg k3
           case measure => have := HK1.out; have := HJ1.out; have := HK3.out; omega
           case rel => exact ⟨(x3_3), (wrap64 (x4_1 + 1)), (by first | rfl | (simp; done) | (simp [*]; done) | grind), (by first | rfl | (simp; done) | (simp [*]; done) | grind), H', ⟨by have := HK1.out; have := HJ1.out; have := HK3.out; omega⟩, ⟨pl_below HB.out⟩⟩
         ·rw [if_neg c10] at H
          have c10b0 : decide (x5_3 < (((rd_T31 l0 x4_1).f1).length : Int)) = false := decide_eq_false c10
          clear c10
          have H' := Aside0.mk H
          clear H
          have p326 : 0 ≤ (x4_1 : Int) := of_decide_eq_true (by first | (with_reducible assumption) | assumption)
          have q326 : x4_1 < (l0.length : Int) := of_decide_eq_true (by first | (with_reducible assumption) | assumption)
          obtain ⟨ad326, A326_1, c326_1, e326, hx326_0, hx326_1, hl326_1, hi326_1⟩ := at_T31 HR0.out x4_1 p326 q326
          obtain rfl : ad324 = ad326 := (by injection e326)
          replace hx326_0 := (HB.out.cell (World.block_lt_of_cell? w _ hx326_0)).trans hx326_0
          replace hx326_1 := (HB.out.cell (World.block_lt_of_cell? w _ hx326_1)).trans hx326_1
          have HR326_1 := Aside0.mk hi326_1
          have HC326_1 := Aside0.mk hl326_1
          clear hi326_1 hl326_1
          replace p326 := eq_true p326
          replace q326 := eq_true q326
          go_wp2
          repeat (go_quiet (fail); try go_wp2)
          go_roundg k3
          case measure => have := HK1.out; have := HJ1.out; have := HK3.out; omega
          case rel => exact ⟨(x3_3), (wrap64 (x4_1 + 1)), (by first | rfl | (simp; done) | (simp [*]; done) | grind), (by first | rfl | (simp; done) | (simp [*]; done) | grind), H', ⟨by have := HK1.out; have := HJ1.out; have := HK3.out; omega⟩, ⟨pl_below HB.out⟩⟩
      ·replace c4 := Bool.eq_false_iff.mpr c4
       subst c4
       rw [if_neg (show ¬ (false = true) by decide)] at H
       obtain rfl := Option.some.inj H
       go_wp2
       repeat (go_quiet (fail); try go_wp2)
       go_ret
       exact ⟨by first | rfl | (simp [errW_none, errW_some] <;> rfl) | (simp [*, errW_none, errW_some] <;> rfl), pl_below HB.out⟩

end Go.Proofs.Ytbnjhmcbkocdjaa.PAll
