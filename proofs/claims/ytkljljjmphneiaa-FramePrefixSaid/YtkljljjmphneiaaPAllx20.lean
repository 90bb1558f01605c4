/- Written by this session's own program (wip/xprint): functions of the Go program as Lean functions, and proofs that the Go code computes them. -/
import Derived.Test.YtkljljjmphneiaaPAllx0
import Derived.Test.YtkljljjmphneiaaPAllx19
namespace Go.Proofs.Ytkljljjmphneiaa.PAll
open Go.RowKit Go.Proofs.YtkljljjmphneiaaW.PrintWords Go.Proofs.YtkljljjmphneiaaW.PrintLast Go.Proofs.YtkljljjmphneiaaW.PrintMore
attribute [local go_sem] max2_int min2_int max_two min_two max_three min_three max_four min_four   -- for this text's walks alone
set_option linter.unusedVariables false
set_option linter.unusedSimpArgs false

/-! ### frame_Cut: function 10 -/
mutual
def frame_Cut.l0 : Nat → List Int → List ByteArray → Int → Int → Option (List ByteArray × Int)
  | 0, _, _, _, _ => none
  | k + 1, x0, x4, x5, x6 => if (wrap64 ((x0.length : Int) - (wrap64 (x5 + x6)))) < 5 then (frame_Cut.j1 k x0 x4 (wrap64 (x5 + x6)) true) else (if 0 ≤ (wrap64 (x5 + x6)) then (if (wrap64 (x5 + x6)) < (x0.length : Int) then (frame_Cut.j1 k x0 x4 (wrap64 (x5 + x6)) ((rd x0 (wrap64 (x5 + x6))) != 82)) else (none)) else (none))
def frame_Cut.j1 : Nat → List Int → List ByteArray → Int → Bool → Option (List ByteArray × Int)
  | 0, _, _, _, _ => none
  | k + 1, x0, x4, x5, x22 => if x22 = true then (some (x4, x5)) else (if 0 ≤ (wrap64 (x5 + 1)) then (if (wrap64 (x5 + 1)) < (x0.length : Int) then (if 0 ≤ (wrap64 (x5 + 2)) then (if (wrap64 (x5 + 2)) < (x0.length : Int) then (if (Go.bits .or .i64 (wrap64 ((wrap64 (rd x0 (wrap64 (x5 + 1)))) * 256)) (wrap64 (rd x0 (wrap64 (x5 + 2))))) > 4096 then (frame_Cut.j2 k x0 x4 x5 (Go.bits .or .i64 (wrap64 ((wrap64 (rd x0 (wrap64 (x5 + 1)))) * 256)) (wrap64 (rd x0 (wrap64 (x5 + 2))))) true) else (frame_Cut.j2 k x0 x4 x5 (Go.bits .or .i64 (wrap64 ((wrap64 (rd x0 (wrap64 (x5 + 1)))) * 256)) (wrap64 (rd x0 (wrap64 (x5 + 2))))) (decide ((Go.bits .or .i64 (wrap64 ((wrap64 (rd x0 (wrap64 (x5 + 1)))) * 256)) (wrap64 (rd x0 (wrap64 (x5 + 2))))) > (wrap64 ((wrap64 ((x0.length : Int) - x5)) - 5)))))) else (none)) else (none)) else (none)) else (none))
def frame_Cut.j2 : Nat → List Int → List ByteArray → Int → Int → Bool → Option (List ByteArray × Int)
  | 0, _, _, _, _, _ => none
  | k + 1, x0, x4, x5, x6, x47 => if x47 = true then (some (x4, x5)) else (if 0 ≤ (wrap64 (x5 + 5)) then (if (wrap64 (x5 + 5)) ≤ (wrap64 ((wrap64 (x5 + 5)) + x6)) then (if (wrap64 ((wrap64 (x5 + 5)) + x6)) ≤ (x0.length : Int) then ((frame_Sum.f k (strOfNums ((x0.take ((wrap64 ((wrap64 (x5 + 5)) + x6)) : Int).toNat).drop ((wrap64 (x5 + 5)) : Int).toNat))).bind fun t135 => (if 0 ≤ (wrap64 (x5 + 3)) then (if (wrap64 (x5 + 3)) < (x0.length : Int) then (if 0 ≤ (wrap64 (x5 + 4)) then (if (wrap64 (x5 + 4)) < (x0.length : Int) then (if t135 = (Go.bits .or .i64 (wrap64 ((wrap64 (rd x0 (wrap64 (x5 + 3)))) * 256)) (wrap64 (rd x0 (wrap64 (x5 + 4))))) then (if x4.length < 8796093022208 then (frame_Cut.l0 k x0 (x4 ++ [strOfNums ((x0.take ((wrap64 ((wrap64 (x5 + 5)) + x6)) : Int).toNat).drop ((wrap64 (x5 + 5)) : Int).toNat)]) x5 (wrap64 (x6 + 5))) else (none)) else (some (x4, x5))) else (none)) else (none)) else (none)) else (none))) else (none)) else (none)) else (none))
end
def frame_Cut.f (k : Nat) (l0 : List Int) : Option (List ByteArray × Int) := frame_Cut.l0 k l0 ([] : List ByteArray) 0 0
theorem frame_Cut.mono_l : ∀ k, (∀ y0 y1 y2 y3, LeO (frame_Cut.l0 k y0 y1 y2 y3) (frame_Cut.l0 (k + 1) y0 y1 y2 y3)) ∧ (∀ y0 y1 y2 y3, LeO (frame_Cut.j1 k y0 y1 y2 y3) (frame_Cut.j1 (k + 1) y0 y1 y2 y3)) ∧ (∀ y0 y1 y2 y3 y4, LeO (frame_Cut.j2 k y0 y1 y2 y3 y4) (frame_Cut.j2 (k + 1) y0 y1 y2 y3 y4))
  | 0 => ⟨fun _ _ _ _ r h => by simp [frame_Cut.l0] at h, fun _ _ _ _ r h => by simp [frame_Cut.j1] at h, fun _ _ _ _ _ r h => by simp [frame_Cut.j2] at h⟩
  | k + 1 => by
    obtain ⟨ih0, ih1, ih2⟩ := frame_Cut.mono_l k
    refine ⟨?_, ?_, ?_⟩
    · intro y0 y1 y2 y3
      unfold frame_Cut.l0
      repeat' first
      | (with_reducible exact ih0 _ _ _ _)
      | (with_reducible exact ih1 _ _ _ _)
      | (with_reducible exact ih2 _ _ _ _ _)
      | (with_reducible exact frame_Sum.mono _ _)
      | (with_reducible exact LeO.refl _)
      | (with_reducible exact LeO.none _)
      | (with_reducible refine LeO.ite ?_ ?_)
      | (with_reducible refine LeO.bind ?_ (fun _ => ?_))
      | exact ih0 _ _ _ _
      | exact ih1 _ _ _ _
      | exact ih2 _ _ _ _ _
      | exact frame_Sum.mono _ _
      | exact LeO.none _
      | refine LeO.ite ?_ ?_
      | refine LeO.bind ?_ (fun _ => ?_)
    · intro y0 y1 y2 y3
      unfold frame_Cut.j1
      repeat' first
      | (with_reducible exact ih0 _ _ _ _)
      | (with_reducible exact ih1 _ _ _ _)
      | (with_reducible exact ih2 _ _ _ _ _)
      | (with_reducible exact frame_Sum.mono _ _)
      | (with_reducible exact LeO.refl _)
      | (with_reducible exact LeO.none _)
      | (with_reducible refine LeO.ite ?_ ?_)
      | (with_reducible refine LeO.bind ?_ (fun _ => ?_))
      | exact ih0 _ _ _ _
      | exact ih1 _ _ _ _
      | exact ih2 _ _ _ _ _
      | exact frame_Sum.mono _ _
      | exact LeO.none _
      | refine LeO.ite ?_ ?_
      | refine LeO.bind ?_ (fun _ => ?_)
    · intro y0 y1 y2 y3 y4
      unfold frame_Cut.j2
      repeat' first
      | (with_reducible exact ih0 _ _ _ _)
      | (with_reducible exact ih1 _ _ _ _)
      | (with_reducible exact ih2 _ _ _ _ _)
      | (with_reducible exact frame_Sum.mono _ _)
      | (with_reducible exact LeO.refl _)
      | (with_reducible exact LeO.none _)
      | (with_reducible refine LeO.ite ?_ ?_)
      | (with_reducible refine LeO.bind ?_ (fun _ => ?_))
      | exact ih0 _ _ _ _
      | exact ih1 _ _ _ _
      | exact ih2 _ _ _ _ _
      | exact frame_Sum.mono _ _
      | exact LeO.none _
      | refine LeO.ite ?_ ?_
      | refine LeO.bind ?_ (fun _ => ?_)
theorem frame_Cut.mono : ∀ a0 k, LeO (frame_Cut.f k a0) (frame_Cut.f (k + 1) a0) := by
  intro a0 k
  obtain ⟨ih0, ih1, ih2⟩ := frame_Cut.mono_l k
  unfold frame_Cut.f
  repeat' first
      | (with_reducible exact ih0 _ _ _ _)
      | (with_reducible exact ih1 _ _ _ _)
      | (with_reducible exact ih2 _ _ _ _ _)
      | (with_reducible exact frame_Sum.mono _ _)
      | (with_reducible exact LeO.refl _)
      | (with_reducible exact LeO.none _)
      | (with_reducible refine LeO.ite ?_ ?_)
      | (with_reducible refine LeO.bind ?_ (fun _ => ?_))
      | exact ih0 _ _ _ _
      | exact ih1 _ _ _ _
      | exact ih2 _ _ _ _ _
      | exact frame_Sum.mono _ _
      | exact LeO.none _
      | refine LeO.ite ?_ ?_
      | refine LeO.bind ?_ (fun _ => ?_)
def frame_Cut.T5 : Bool × List (List Nat × List Nat) := (true, [([], []), ([], []), ([1], [1]), ([0, 2], [0, 2]), ([3], [3]), ([4], [4]), ([5], [5]), ([], []), ([], []), ([8], [8]), ([7, 9], [7, 9]), ([10], [10]), ([11], [11]), ([6, 12], [6, 12]), ([13, 0, 1, 2, 3, 4, 5, 6, 7, 8, 9, 10, 11, 12, 13], [13])])
def frame_Cut.B5 : List Nat := [0, 0, 2, 7, 15, 31, 63, 0, 0, 256, 896, 1920, 3968, 8191, 16383]
theorem frame_Cut.tab5 : rtab .any (opsOf Try.f10 5) = frame_Cut.T5 := by kernel_rfl
theorem frame_Cut.bits5 : waitsOk frame_Cut.T5.2 frame_Cut.B5 = true := by kernel_rfl
def frame_Cut.T8 : Bool × List (List Nat × List Nat) := (true, [([], []), ([0], [0]), ([], []), ([], []), ([3], [3]), ([2, 4], [2, 4]), ([5], [5]), ([6], [6]), ([7], [7]), ([], []), ([], []), ([10], [10]), ([9, 11], [9, 11]), ([12], [12]), ([13], [13]), ([8, 14], [8, 14]), ([1, 15], [1, 15])])
def frame_Cut.B8 : List Nat := [0, 1, 0, 0, 8, 28, 60, 124, 252, 0, 0, 1024, 3584, 7680, 15872, 32764, 65535]
theorem frame_Cut.tab8 : rtab .any (opsOf Try.f10 8) = frame_Cut.T8 := by kernel_rfl
theorem frame_Cut.bits8 : waitsOk frame_Cut.T8.2 frame_Cut.B8 = true := by kernel_rfl
set_option maxHeartbeats 8000000 in
set_option maxRecDepth 100000 in
theorem frame_Cut.calls (k : Nat) (A0 : Option Addr) (c0 : Nat) (l0 : List Int) (r1 : List ByteArray) (r2 : Int) (w : World) (hr0 : Kd.C (Kd.int .u8) w A0 l0.length l0) (hc0 : l0.length ≤ c0) (h : frame_Cut.f k l0 = some (r1, r2)) :
    Calls Try.prog 10 #[.slice A0 l0.length c0] w fun e w' => ∃ v0_ : Value, e = .returned (.tuple #[v0_, .int .i64 r2]) ∧ Kd.R Kd.string 9 w' w.heap.size (fun _ => True) v0_ r1 ∧ Below w.heap.size w w' := by
  have HR0 := Aside0.mk hr0
  have HC0 := Aside0.mk hc0
  clear hr0 hc0
  have HB := Aside0.mk (Below.refl w.heap.size w)
  have H : (frame_Cut.l0 k l0 ([] : List ByteArray) 0 0) = some (r1, r2) := h
  clear h
  have H' := Aside0.mk H
  clear H
  go_enter Try.func10, Try.ntmps10
  go_wp2
  refine wp_scope_loop 0 1 rfl rfl (fun _ _ _ h_ => h_) (fun kq a' w' => ∃ u1 u2 u3 u4 u5 u6 u7 u8 u9 u10 u11 u12 u13 u14 u15 u16 u17 u18 u19 u20 u21 u22 u23 u24 u25 u26 u27 u28 u29 u30 u31 u32 u33 u34 u35 u36 u37 u38 u39 u40 u41 u42 u43 u44 u45 u46 u47 u48 u49 u50 u51 u52 u53 u54 u55 u56 u57 u58 u59 u60 u61 u62 u63 u64 u65 u66 u67 u68 u69 u70 u71 u72 u73 u74 u75 u76 u77 u78 u79 u80 u81 : Value, ((fun kq v4 v5 v6 w' => ∃ (x4_1 : List ByteArray) (x5_1 : Int) (x6_1 : Int), v5 = .int .i64 x5_1 ∧ v6 = .int .i64 x6_1 ∧ Aside0 (frame_Cut.l0 kq l0 x4_1 x5_1 x6_1 = some (r1, r2)) ∧ Aside0 (kq ≤ k) ∧ Aside0 (Kd.R Kd.string 9 w' w.heap.size (fun _ => True) v4 x4_1) ∧ Aside0 (Below w.heap.size w w'))) kq u4 u5 u6 w' ∧ a' = { tmps := #[.slice A0 l0.length c0, u1, u2, u3, u4, u5, u6, u7, u8, u9, u10, u11, u12, u13, u14, u15, u16, u17, u18, u19, u20, u21, u22, u23, u24, u25, u26, u27, u28, u29, u30, u31, u32, u33, u34, u35, u36, u37, u38, u39, u40, u41, u42, u43, u44, u45, u46, u47, u48, u49, u50, u51, u52, u53, u54, u55, u56, u57, u58, u59, u60, u61, u62, u63, u64, u65, u66, u67, u68, u69, u70, u71, u72, u73, u74, u75, u76, u77, u78, u79, u80, u81], defers := [] }) k ?_ ?_
  · intro Post_ hs_
    go_wp2
    rename_i K_ hK_
    refine wp_label (hK_ _ _ ?_)
    refine hs_ k _ _ ?_
    (repeat apply Exists.intro)
    refine ⟨?_, rfl⟩
    exact ⟨(([] : List ByteArray)), (0), (0), (by first | rfl | (simp; done) | (simp [*]; done) | grind), (by first | rfl | (simp; done) | (simp [*]; done) | grind), H', ⟨Nat.le_refl _⟩, ⟨by first | exact Kd.R_nil _ _ _ _ _ | exact Kd.N_nil _ _ _ _ _ | exact Kd.V_nil _ _ _ _ _ | exact Kd.Q_nil _ _ _ _ _ | exact Kd.S_nil _ _ _ _ _⟩, ⟨by repeat (first | (with_reducible first | exact HB.out | apply below_alloc | apply pw_below_drewN | apply below_drew1) | exact HB.out)⟩⟩
  · intro gk a_ wr hinv
    obtain ⟨u1, u2, u3, u4, u5, u6, u7, u8, u9, u10, u11, u12, u13, u14, u15, u16, u17, u18, u19, u20, u21, u22, u23, u24, u25, u26, u27, u28, u29, u30, u31, u32, u33, u34, u35, u36, u37, u38, u39, u40, u41, u42, u43, u44, u45, u46, u47, u48, u49, u50, u51, u52, u53, u54, u55, u56, u57, u58, u59, u60, u61, u62, u63, u64, u65, u66, u67, u68, u69, u70, u71, u72, u73, u74, u75, u76, u77, u78, u79, u80, u81, hrel, rfl⟩ := hinv
    (try dsimp only at hrel)
    intro _ _ _ _
    clear H'
    try clear c1
    obtain ⟨x4_1, x5_1, x6_1, rfl, rfl, HA, HK1, HO_4, HB⟩ := hrel
    cases gk with
    | zero => exact absurd HA.out (by simp [frame_Cut.l0])
    | succ k1 =>
      have H := HA.out
      clear HA
      simp only [frame_Cut.l0] at H
      have HC2 := Aside0.mk H
      clear H
      go_upto_region 4 with (fail)
      go_cut [22] (fun v22 wc => ∃ (kq : Nat) (x22_1 : Bool), v22 = .bool x22_1 ∧ Aside0 (frame_Cut.j1 kq l0 x4_1 (wrap64 (x5_1 + x6_1)) x22_1 = some (r1, r2)) ∧ Aside0 (kq ≤ k1) ∧ Aside0 (Kd.R Kd.string 9 wc w.heap.size (fun _ => True) u4 x4_1) ∧ Aside0 (Below w.heap.size w wc))
      case first =>
        have H := HC2.out
        clear HC2
        by_cases c3 : (wrap64 ((l0.length : Int) - (wrap64 (x5_1 + x6_1)))) < 5
        · rw [if_pos c3] at H
          have c3b0 : decide ((wrap64 ((l0.length : Int) - (wrap64 (x5_1 + x6_1)))) < 5) = true := decide_eq_true c3
          clear c3
          (first | rw [c3b0] | (simp only [i64_w, i32_w]; rw [c3b0]) | skip)
          have H' := Aside0.mk H
          clear H
          go_wp2
          go_meet
          case rel => exact ⟨_, (true), (by first | rfl | (simp; done) | (simp [*]; done) | grind), H', ⟨by have := HK1.out; first | omega | exact Nat.le_refl _⟩, ⟨by (with_reducible repeat (first | apply Kd.R_alloc | apply Kd.R_drewN | apply Kd.R_drew)); exact HO_4.out⟩, ⟨by repeat (first | (with_reducible first | exact HB.out | apply below_alloc | apply pw_below_drewN | apply below_drew1) | exact HB.out)⟩⟩
        · rw [if_neg c3] at H
          have c3b0 : decide ((wrap64 ((l0.length : Int) - (wrap64 (x5_1 + x6_1)))) < 5) = false := decide_eq_false c3
          clear c3
          (first | rw [c3b0] | (simp only [i64_w, i32_w]; rw [c3b0]) | skip)
          obtain ⟨ji4, hji4⟩ : ∃ j_ : Int, (wrap64 (x5_1 + x6_1)) = j_ := ⟨_, rfl⟩
          replace H : (if 0 ≤ (ji4) then (if (ji4) < (l0.length : Int) then (frame_Cut.j1 k1 l0 x4_1 ji4 ((rd l0 (ji4)) != 82)) else (none)) else (none)) = some (r1, r2) := by first | (rw [hji4] at H; exact H) | (simp only [hji4] at H ⊢; exact H)
          (try rw [hji4] at c3b0)
          have hji4w : (IntKind.i64.wrap (x5_1 + x6_1)) = ji4 := (i64_w _).trans hji4
          by_cases c5 : 0 ≤ (ji4)
          · rw [if_pos c5] at H
            have c5b0 : decide (0 ≤ (ji4)) = true := decide_eq_true c5
            clear c5
            by_cases c6 : (ji4) < (l0.length : Int)
            · rw [if_pos c6] at H
              have c6b0 : decide ((ji4) < (l0.length : Int)) = true := decide_eq_true c6
              clear c6
              have H' := Aside0.mk H
              clear H
              have p131 : 0 ≤ ((ji4) : Int) := of_decide_eq_true (by first | (with_reducible assumption) | assumption)
              have q131 : (ji4) < (l0.length : Int) := of_decide_eq_true (by first | (with_reducible assumption) | assumption)
              obtain ⟨ad131, e131, hx131_0⟩ := Kd.at_int HR0.out (ji4) p131 q131
              cases e131
              replace hx131_0 := (HB.out.cell (World.block_lt_of_cell? w _ hx131_0)).trans hx131_0
              replace p131 := eq_true p131
              replace q131 := eq_true q131
              go_wp2
              (try subst hji4)
              go_meet
              case rel => exact ⟨_, (((rd l0 ((wrap64 (x5_1 + x6_1)))) != 82)), (by first | rfl | (simp; done) | (simp only [← hji4] <;> (first | rfl | simp)) | (simp [*]; done)), H', ⟨by have := HK1.out; first | omega | exact Nat.le_refl _⟩, ⟨by (with_reducible repeat (first | apply Kd.R_alloc | apply Kd.R_drewN | apply Kd.R_drew)); exact HO_4.out⟩, ⟨by repeat (first | (with_reducible first | exact HB.out | apply below_alloc | apply pw_below_drewN | apply below_drew1) | exact HB.out)⟩⟩
            · rw [if_neg c6] at H
              exact absurd H (by simp)
          · rw [if_neg c5] at H
            exact absurd H (by simp)
      case rest =>
        clear HC2
        try clear c1
        try clear p1
        try clear q1
        try clear hx1
        try clear p2
        try clear c3
        try clear c3b0
        try clear c5
        try clear c5b0
        try clear c6
        try clear c6b0
        try clear p6
        try clear hx131_0
        try clear p131
        try clear q131
        obtain ⟨kq, x22_1, rfl, HA, HJ1, HO_4, HB⟩ := hcut
        cases kq with
        | zero => exact absurd HA.out (by simp [frame_Cut.j1])
        | succ kj1 =>
          have H := HA.out
          clear HA
          simp only [frame_Cut.j1] at H
          by_cases c7 : x22_1 = true
          · subst c7
            have H1 : (some (x4_1, (wrap64 (x5_1 + x6_1)))) = some (r1, r2) := by rw [if_pos rfl] at H; exact H
            clear H
            have H := H1
            clear H1
            simp only [Option.some.injEq, Prod.mk.injEq] at H
            obtain ⟨rfl, rfl⟩ := H
            go_wp2
            (try (apply wp_goto; (try go_wp2); refine goto_1 ?_))
            (try go_step3)
            (try go_wp2)
            (try (refine jumps_ret ?_))
            go_ret2
            exact ⟨_, by first | rfl | (simp [errW_none, errW_some] <;> rfl) | (simp [*, errW_none, errW_some] <;> rfl), by (with_reducible repeat (first | apply Kd.R_alloc | apply Kd.R_drewN | apply Kd.R_drew)); exact HO_4.out, by repeat (first | (with_reducible first | exact HB.out | apply below_alloc | apply pw_below_drewN | apply below_drew1) | exact HB.out)⟩
          · replace c7 := Bool.eq_false_iff.mpr c7
            subst c7
            have H1 : (if 0 ≤ (wrap64 ((wrap64 (x5_1 + x6_1)) + 1)) then (if (wrap64 ((wrap64 (x5_1 + x6_1)) + 1)) < (l0.length : Int) then (if 0 ≤ (wrap64 ((wrap64 (x5_1 + x6_1)) + 2)) then (if (wrap64 ((wrap64 (x5_1 + x6_1)) + 2)) < (l0.length : Int) then (if (Go.bits .or .i64 (wrap64 ((wrap64 (rd l0 (wrap64 ((wrap64 (x5_1 + x6_1)) + 1)))) * 256)) (wrap64 (rd l0 (wrap64 ((wrap64 (x5_1 + x6_1)) + 2))))) > 4096 then (frame_Cut.j2 kj1 l0 x4_1 (wrap64 (x5_1 + x6_1)) (Go.bits .or .i64 (wrap64 ((wrap64 (rd l0 (wrap64 ((wrap64 (x5_1 + x6_1)) + 1)))) * 256)) (wrap64 (rd l0 (wrap64 ((wrap64 (x5_1 + x6_1)) + 2))))) true) else (frame_Cut.j2 kj1 l0 x4_1 (wrap64 (x5_1 + x6_1)) (Go.bits .or .i64 (wrap64 ((wrap64 (rd l0 (wrap64 ((wrap64 (x5_1 + x6_1)) + 1)))) * 256)) (wrap64 (rd l0 (wrap64 ((wrap64 (x5_1 + x6_1)) + 2))))) (decide ((Go.bits .or .i64 (wrap64 ((wrap64 (rd l0 (wrap64 ((wrap64 (x5_1 + x6_1)) + 1)))) * 256)) (wrap64 (rd l0 (wrap64 ((wrap64 (x5_1 + x6_1)) + 2))))) > (wrap64 ((wrap64 ((l0.length : Int) - (wrap64 (x5_1 + x6_1)))) - 5)))))) else (none)) else (none)) else (none)) else (none)) = some (r1, r2) := by rw [if_neg (show ¬ (false = true) by decide)] at H; exact H
            clear H
            have H := H1
            clear H1
            obtain ⟨ji8, hji8⟩ : ∃ j_ : Int, (wrap64 ((wrap64 (x5_1 + x6_1)) + 1)) = j_ := ⟨_, rfl⟩
            replace H : (if 0 ≤ (ji8) then (if (ji8) < (l0.length : Int) then (if 0 ≤ (wrap64 ((wrap64 (x5_1 + x6_1)) + 2)) then (if (wrap64 ((wrap64 (x5_1 + x6_1)) + 2)) < (l0.length : Int) then (if (Go.bits .or .i64 (wrap64 ((wrap64 (rd l0 (ji8))) * 256)) (wrap64 (rd l0 (wrap64 ((wrap64 (x5_1 + x6_1)) + 2))))) > 4096 then (frame_Cut.j2 kj1 l0 x4_1 (wrap64 (x5_1 + x6_1)) (Go.bits .or .i64 (wrap64 ((wrap64 (rd l0 (ji8))) * 256)) (wrap64 (rd l0 (wrap64 ((wrap64 (x5_1 + x6_1)) + 2))))) true) else (frame_Cut.j2 kj1 l0 x4_1 (wrap64 (x5_1 + x6_1)) (Go.bits .or .i64 (wrap64 ((wrap64 (rd l0 (ji8))) * 256)) (wrap64 (rd l0 (wrap64 ((wrap64 (x5_1 + x6_1)) + 2))))) (decide ((Go.bits .or .i64 (wrap64 ((wrap64 (rd l0 (ji8))) * 256)) (wrap64 (rd l0 (wrap64 ((wrap64 (x5_1 + x6_1)) + 2))))) > (wrap64 ((wrap64 ((l0.length : Int) - (wrap64 (x5_1 + x6_1)))) - 5)))))) else (none)) else (none)) else (none)) else (none)) = some (r1, r2) := by first | (rw [hji8] at H; exact H) | (simp only [hji8] at H ⊢; exact H)
            have hji8w : (IntKind.i64.wrap ((wrap64 (x5_1 + x6_1)) + 1)) = ji8 := (i64_w _).trans hji8
            by_cases c9 : 0 ≤ (ji8)
            · rw [if_pos c9] at H
              have c9b0 : decide (0 ≤ (ji8)) = true := decide_eq_true c9
              clear c9
              by_cases c10 : (ji8) < (l0.length : Int)
              · rw [if_pos c10] at H
                have c10b0 : decide ((ji8) < (l0.length : Int)) = true := decide_eq_true c10
                clear c10
                obtain ⟨ji11, hji11⟩ : ∃ j_ : Int, (wrap64 ((wrap64 (x5_1 + x6_1)) + 2)) = j_ := ⟨_, rfl⟩
                replace H : (if 0 ≤ (ji11) then (if (ji11) < (l0.length : Int) then (if (Go.bits .or .i64 (wrap64 ((wrap64 (rd l0 (ji8))) * 256)) (wrap64 (rd l0 (ji11)))) > 4096 then (frame_Cut.j2 kj1 l0 x4_1 (wrap64 (x5_1 + x6_1)) (Go.bits .or .i64 (wrap64 ((wrap64 (rd l0 (ji8))) * 256)) (wrap64 (rd l0 (ji11)))) true) else (frame_Cut.j2 kj1 l0 x4_1 (wrap64 (x5_1 + x6_1)) (Go.bits .or .i64 (wrap64 ((wrap64 (rd l0 (ji8))) * 256)) (wrap64 (rd l0 (ji11)))) (decide ((Go.bits .or .i64 (wrap64 ((wrap64 (rd l0 (ji8))) * 256)) (wrap64 (rd l0 (ji11)))) > (wrap64 ((wrap64 ((l0.length : Int) - (wrap64 (x5_1 + x6_1)))) - 5)))))) else (none)) else (none)) = some (r1, r2) := by first | (rw [hji11] at H; exact H) | (simp only [hji11] at H ⊢; exact H)
                have hji11w : (IntKind.i64.wrap ((wrap64 (x5_1 + x6_1)) + 2)) = ji11 := (i64_w _).trans hji11
                by_cases c12 : 0 ≤ (ji11)
                · rw [if_pos c12] at H
                  have c12b0 : decide (0 ≤ (ji11)) = true := decide_eq_true c12
                  clear c12
                  by_cases c13 : (ji11) < (l0.length : Int)
                  · rw [if_pos c13] at H
                    have c13b0 : decide ((ji11) < (l0.length : Int)) = true := decide_eq_true c13
                    clear c13
                    have HC14 := Aside0.mk H
                    clear H
                    try go_wp2
                    have n0_ := Aside0.mk (Kd.R_drew HO_4.out)
                    have n1_ := Aside0.mk (below_drew1 HB.out)
                    clear HO_4
                    clear HB
                    have HO_4 := n0_
                    have HB := n1_
                    clear n0_ n1_
                    have p132 : 0 ≤ ((ji8) : Int) := of_decide_eq_true (by first | (with_reducible assumption) | assumption)
                    have q132 : (ji8) < (l0.length : Int) := of_decide_eq_true (by first | (with_reducible assumption) | assumption)
                    obtain ⟨ad132, e132, hx132_0⟩ := Kd.at_int HR0.out (ji8) p132 q132
                    have hw132_0 := hx132_0
                    cases e132
                    replace hx132_0 := (HB.out.cell (World.block_lt_of_cell? w _ hx132_0)).trans hx132_0
                    replace p132 := eq_true p132
                    replace q132 := eq_true q132
                    have p133 : 0 ≤ ((ji11) : Int) := of_decide_eq_true (by first | (with_reducible assumption) | assumption)
                    have q133 : (ji11) < (l0.length : Int) := of_decide_eq_true (by first | (with_reducible assumption) | assumption)
                    obtain ⟨ad133, e133, hx133_0⟩ := Kd.at_int HR0.out (ji11) p133 q133
                    have hw133_0 := hx133_0
                    obtain rfl : ad132 = ad133 := (by injection e133)
                    replace hx133_0 := (HB.out.cell (World.block_lt_of_cell? w _ hx133_0)).trans hx133_0
                    replace p133 := eq_true p133
                    replace q133 := eq_true q133
                    refine start_ (n := 15) (S := fun w' => w'.cell? (ad132.add ((ji8)).toNat) = some (.int .u8 (rd l0 (ji8))) ∧ w'.cell? (ad132.add ((ji11)).toNat) = some (.int .u8 (rd l0 (ji11)))) (ds := []) #[false, false, false, false, false, false, false, false, false, false, false, false, false, false, false] (by kernel_rfl) rfl rfl ⟨((HB.out.cell (World.block_lt_of_cell? w _ hw132_0)).trans hw132_0), ((HB.out.cell (World.block_lt_of_cell? w _ hw133_0)).trans hw133_0)⟩ (fun hHeld => ?_); refine with_tabW frame_Cut.tab5 frame_Cut.bits5 (fun HT_ HW_ => ?_)
                    generalize wc.drew = w15 at HO_4 HB hx132_0 hx133_0 hHeld ⊢
                    refine pure_ (i := 0) (N := some 23) (v := ?_) (a' := ?_) #[true, false, false, false, false, false, false, false, false, false, false, false, false, false, false] rfl rfl (any_of HT_.out (by kernel_rfl)) (fun _ _ _ h => h) (Or.inl ⟨by rfl, ?_⟩) ?_ ?_
                    rotate_left
                    · intro w'
                      go_simp
                      with_reducible rfl
                    rotate_left
                    · simp only [Act.put, List.setIfInBounds_toArray, List.set_cons_zero, List.set_cons_succ, i64_w, i32_w]
                      rfl
                    refine pure_ (i := 1) (N := some 24) (v := ?_) (a' := ?_) #[true, true, false, false, false, false, false, false, false, false, false, false, false, false, false] rfl rfl (any_of HT_.out (by kernel_rfl)) (fun _ _ _ h => h) (Or.inl ⟨by rfl, ?_⟩) ?_ ?_
                    rotate_left
                    · intro w'
                      go_simp
                      with_reducible rfl
                    rotate_left
                    · simp only [Act.put, List.setIfInBounds_toArray, List.set_cons_zero, List.set_cons_succ, i64_w, i32_w]
                      rfl
                    refine pure_ (i := 2) (N := some 25) (v := ?_) (a' := ?_) #[true, true, true, false, false, false, false, false, false, false, false, false, false, false, false] rfl rfl (any_of HT_.out (by kernel_rfl)) (fun _ _ _ h => h) (Or.inl ⟨by rfl, ?_⟩) ?_ ?_
                    rotate_left
                    · intro w'
                      go_simp
                      with_reducible rfl
                    rotate_left
                    · simp only [Act.put, List.setIfInBounds_toArray, List.set_cons_zero, List.set_cons_succ, i64_w, i32_w]
                      rfl
                    refine pure_ (i := 3) (N := some 26) (v := ?_) (a' := ?_) #[true, true, true, true, false, false, false, false, false, false, false, false, false, false, false] rfl rfl (any_of HT_.out (by kernel_rfl)) (fun _ _ _ h => h) (Or.inl ⟨by rfl, ?_⟩) ?_ ?_
                    rotate_left
                    · intro w'
                      go_simp
                      with_reducible rfl
                    rotate_left
                    · simp only [Act.put, List.setIfInBounds_toArray, List.set_cons_zero, List.set_cons_succ, i64_w, i32_w]
                      rfl
                    refine pure_ (i := 7) (N := some 30) (v := ?_) (a' := ?_) #[true, true, true, true, false, false, false, true, false, false, false, false, false, false, false] rfl rfl (any_of HT_.out (by kernel_rfl)) (fun _ _ _ h => h) (Or.inl ⟨by rfl, ?_⟩) ?_ ?_
                    rotate_left
                    · intro w'
                      go_simp
                      with_reducible rfl
                    rotate_left
                    · simp only [Act.put, List.setIfInBounds_toArray, List.set_cons_zero, List.set_cons_succ, i64_w, i32_w]
                      rfl
                    refine pure_ (i := 8) (N := some 31) (v := ?_) (a' := ?_) #[true, true, true, true, false, false, false, true, true, false, false, false, false, false, false] rfl rfl (any_of HT_.out (by kernel_rfl)) (fun _ _ _ h => h) (Or.inl ⟨by rfl, ?_⟩) ?_ ?_
                    rotate_left
                    · intro w'
                      go_simp
                      with_reducible rfl
                    rotate_left
                    · simp only [Act.put, List.setIfInBounds_toArray, List.set_cons_zero, List.set_cons_succ, i64_w, i32_w]
                      rfl
                    refine pure_ (i := 9) (N := some 32) (v := ?_) (a' := ?_) #[true, true, true, true, false, false, false, true, true, true, false, false, false, false, false] rfl rfl (any_of HT_.out (by kernel_rfl)) (fun _ _ _ h => h) (Or.inl ⟨by rfl, ?_⟩) ?_ ?_
                    rotate_left
                    · intro w'
                      go_simp
                      with_reducible rfl
                    rotate_left
                    · simp only [Act.put, List.setIfInBounds_toArray, List.set_cons_zero, List.set_cons_succ, i64_w, i32_w]
                      rfl
                    refine pure_ (i := 10) (N := some 33) (v := ?_) (a' := ?_) #[true, true, true, true, false, false, false, true, true, true, true, false, false, false, false] rfl rfl (any_of HT_.out (by kernel_rfl)) (fun _ _ _ h => h) (Or.inl ⟨by rfl, ?_⟩) ?_ ?_
                    rotate_left
                    · intro w'
                      go_simp
                      with_reducible rfl
                    rotate_left
                    · simp only [Act.put, List.setIfInBounds_toArray, List.set_cons_zero, List.set_cons_succ, i64_w, i32_w]
                      rfl
                    refine take_ (i := 4) (N := some 27) (v := ?_) (a' := ?_) #[true, true, true, true, true, false, false, true, true, true, true, false, false, false, false] rfl rfl (take_ofW HT_.out HW_.out (by kernel_rfl)) (fun _ _ _ h => h) (Or.inl ⟨by rfl, ?_⟩) hHeld ?_ ?_
                    rotate_left
                    · rintro w' ⟨s0, s1⟩
                      go_simp
                      with_reducible rfl
                    rotate_left
                    · simp only [Act.put, List.setIfInBounds_toArray, List.set_cons_zero, List.set_cons_succ, i64_w, i32_w]
                      rfl
                    refine pure_ (i := 5) (N := some 28) (v := ?_) (a' := ?_) #[true, true, true, true, true, true, false, true, true, true, true, false, false, false, false] rfl rfl (any_of HT_.out (by kernel_rfl)) (fun _ _ _ h => h) (Or.inl ⟨by rfl, ?_⟩) ?_ ?_
                    rotate_left
                    · intro w'
                      go_simp
                      with_reducible rfl
                    rotate_left
                    · simp only [Act.put, List.setIfInBounds_toArray, List.set_cons_zero, List.set_cons_succ, i64_w, i32_w]
                      rfl
                    refine pure_ (i := 6) (N := some 29) (v := ?_) (a' := ?_) #[true, true, true, true, true, true, true, true, true, true, true, false, false, false, false] rfl rfl (any_of HT_.out (by kernel_rfl)) (fun _ _ _ h => h) (Or.inl ⟨by rfl, ?_⟩) ?_ ?_
                    rotate_left
                    · intro w'
                      go_simp
                      with_reducible rfl
                    rotate_left
                    · simp only [Act.put, List.setIfInBounds_toArray, List.set_cons_zero, List.set_cons_succ, i64_w, i32_w]
                      rfl
                    refine take_ (i := 11) (N := some 34) (v := ?_) (a' := ?_) #[true, true, true, true, true, true, true, true, true, true, true, true, false, false, false] rfl rfl (take_ofW HT_.out HW_.out (by kernel_rfl)) (fun _ _ _ h => h) (Or.inl ⟨by rfl, ?_⟩) hHeld ?_ ?_
                    rotate_left
                    · rintro w' ⟨s0, s1⟩
                      go_simp
                      with_reducible rfl
                    rotate_left
                    · simp only [Act.put, List.setIfInBounds_toArray, List.set_cons_zero, List.set_cons_succ, i64_w, i32_w]
                      rfl
                    refine pure_ (i := 12) (N := some 35) (v := ?_) (a' := ?_) #[true, true, true, true, true, true, true, true, true, true, true, true, true, false, false] rfl rfl (any_of HT_.out (by kernel_rfl)) (fun _ _ _ h => h) (Or.inl ⟨by rfl, ?_⟩) ?_ ?_
                    rotate_left
                    · intro w'
                      go_simp
                      with_reducible rfl
                    rotate_left
                    · simp only [Act.put, List.setIfInBounds_toArray, List.set_cons_zero, List.set_cons_succ, i64_w, i32_w]
                      rfl
                    refine pure_ (i := 13) (N := some 36) (v := ?_) (a' := ?_) #[true, true, true, true, true, true, true, true, true, true, true, true, true, true, false] rfl rfl (any_of HT_.out (by kernel_rfl)) (fun _ _ _ h => h) (Or.inl ⟨by rfl, ?_⟩) ?_ ?_
                    rotate_left
                    · intro w'
                      go_simp
                      with_reducible rfl
                    rotate_left
                    · simp only [Act.put, List.setIfInBounds_toArray, List.set_cons_zero, List.set_cons_succ, i64_w, i32_w]
                      rfl
                    refine pure_ (i := 14) (N := some 6) (v := ?_) (a' := ?_) #[true, true, true, true, true, true, true, true, true, true, true, true, true, true, true] rfl rfl (any_of HT_.out (by kernel_rfl)) (fun _ _ _ h => h) (Or.inl ⟨by rfl, ?_⟩) ?_ ?_
                    rotate_left
                    · intro w'
                      go_simp
                      with_reducible rfl
                    rotate_left
                    · simp only [Act.put, List.setIfInBounds_toArray, List.set_cons_zero, List.set_cons_succ, i64_w, i32_w]
                      rfl
                    refine done_ (done_of HT_.out (by kernel_rfl)) ?_
                    go_upto_region 6 with (fail)
                    go_cut [47] (fun v47 wc => ∃ (kq : Nat) (x47_13 : Bool), v47 = .bool x47_13 ∧ Aside0 (frame_Cut.j2 kq l0 x4_1 (wrap64 (x5_1 + x6_1)) (Go.bits .or .i64 (wrap64 ((wrap64 (rd l0 (ji8))) * 256)) (wrap64 (rd l0 (ji11)))) x47_13 = some (r1, r2)) ∧ Aside0 (kq ≤ kj1) ∧ Aside0 (Kd.R Kd.string 9 wc w.heap.size (fun _ => True) u4 x4_1) ∧ Aside0 (Below w.heap.size w wc))
                    case first =>
                      have H := HC14.out
                      clear HC14
                      by_cases c16 : (Go.bits .or .i64 (wrap64 ((wrap64 (rd l0 (ji8))) * 256)) (wrap64 (rd l0 (ji11)))) > 4096
                      · rw [if_pos c16] at H
                        have c16b0 : decide (4096 < (Go.bits .or .i64 (wrap64 ((wrap64 (rd l0 (ji8))) * 256)) (wrap64 (rd l0 (ji11))))) = true := decide_eq_true c16
                        clear c16
                        (first | rw [c16b0] | (simp only [i64_w, i32_w]; rw [c16b0]) | skip)
                        have H' := Aside0.mk H
                        clear H
                        go_wp2
                        go_meet
                        case rel => exact ⟨_, (true), (by first | rfl | (simp; done) | (simp [*]; done) | grind), H', ⟨by have := HK1.out; have := HJ1.out; first | omega | exact Nat.le_refl _⟩, ⟨by (with_reducible repeat (first | apply Kd.R_alloc | apply Kd.R_drewN | apply Kd.R_drew)); exact HO_4.out⟩, ⟨by repeat (first | (with_reducible first | exact HB.out | apply below_alloc | apply pw_below_drewN | apply below_drew1) | exact HB.out)⟩⟩
                      · rw [if_neg c16] at H
                        have c16b0 : decide (4096 < (Go.bits .or .i64 (wrap64 ((wrap64 (rd l0 (ji8))) * 256)) (wrap64 (rd l0 (ji11))))) = false := decide_eq_false c16
                        clear c16
                        (first | rw [c16b0] | (simp only [i64_w, i32_w]; rw [c16b0]) | skip)
                        have H' := Aside0.mk H
                        clear H
                        go_wp2
                        go_meet
                        case rel => exact ⟨_, (decide ((Go.bits .or .i64 (wrap64 ((wrap64 (rd l0 (ji8))) * 256)) (wrap64 (rd l0 (ji11)))) > (wrap64 ((wrap64 ((l0.length : Int) - (wrap64 (x5_1 + x6_1)))) - 5)))), (by first | rfl | (simp; done) | (simp only [← hji8, ← hji11] <;> (first | rfl | simp)) | (simp [*]; done)), H', ⟨by have := HK1.out; have := HJ1.out; first | omega | exact Nat.le_refl _⟩, ⟨by (with_reducible repeat (first | apply Kd.R_alloc | apply Kd.R_drewN | apply Kd.R_drew)); exact HO_4.out⟩, ⟨by repeat (first | (with_reducible first | exact HB.out | apply below_alloc | apply pw_below_drewN | apply below_drew1) | exact HB.out)⟩⟩
                    case rest =>
                      clear HC14
                      try clear c1
                      try clear p1
                      try clear q1
                      try clear hx1
                      try clear p2
                      try clear c3
                      try clear c3b0
                      try clear c5
                      try clear c5b0
                      try clear c6
                      try clear c6b0
                      try clear p6
                      try clear c7
                      try clear c9
                      try clear c9b0
                      try clear c10
                      try clear c10b0
                      try clear c12
                      try clear c12b0
                      try clear c13
                      try clear c13b0
                      try clear p13
                      try clear q13
                      try clear hx13
                      try clear c16
                      try clear c16b0
                      try clear hx131_0
                      try clear hx132_0
                      try clear hx133_0
                      try clear p1
                      try clear p131
                      try clear p132
                      try clear p133
                      try clear p2
                      try clear p6
                      try clear q1
                      try clear q131
                      try clear q132
                      try clear q133
                      obtain ⟨kq, x47_13, rfl, HA, HJ13, HO_4, HB⟩ := hcut
                      cases kq with
                      | zero => exact absurd HA.out (by simp [frame_Cut.j2])
                      | succ kj13 =>
                        have H := HA.out
                        clear HA
                        simp only [frame_Cut.j2] at H
                        by_cases c17 : x47_13 = true
                        · subst c17
                          have H1 : (some (x4_1, (wrap64 (x5_1 + x6_1)))) = some (r1, r2) := by rw [if_pos rfl] at H; exact H
                          clear H
                          have H := H1
                          clear H1
                          simp only [Option.some.injEq, Prod.mk.injEq] at H
                          obtain ⟨rfl, rfl⟩ := H
                          go_wp2
                          (try (apply wp_goto; (try go_wp2); refine goto_1 ?_))
                          (try go_step3)
                          (try go_wp2)
                          (try (refine jumps_ret ?_))
                          go_ret2
                          exact ⟨_, by first | rfl | (simp [errW_none, errW_some] <;> rfl) | (simp only [← hji8, ← hji11]; first | rfl | (simp [errW_none, errW_some] <;> rfl)) | (simp [*, errW_none, errW_some] <;> rfl), by (with_reducible repeat (first | apply Kd.R_alloc | apply Kd.R_drewN | apply Kd.R_drew)); exact HO_4.out, by repeat (first | (with_reducible first | exact HB.out | apply below_alloc | apply pw_below_drewN | apply below_drew1) | exact HB.out)⟩
                        · replace c17 := Bool.eq_false_iff.mpr c17
                          subst c17
                          have H1 : (if 0 ≤ (wrap64 ((wrap64 (x5_1 + x6_1)) + 5)) then (if (wrap64 ((wrap64 (x5_1 + x6_1)) + 5)) ≤ (wrap64 ((wrap64 ((wrap64 (x5_1 + x6_1)) + 5)) + (Go.bits .or .i64 (wrap64 ((wrap64 (rd l0 (ji8))) * 256)) (wrap64 (rd l0 (ji11)))))) then (if (wrap64 ((wrap64 ((wrap64 (x5_1 + x6_1)) + 5)) + (Go.bits .or .i64 (wrap64 ((wrap64 (rd l0 (ji8))) * 256)) (wrap64 (rd l0 (ji11)))))) ≤ (l0.length : Int) then ((frame_Sum.f kj13 (strOfNums ((l0.take ((wrap64 ((wrap64 ((wrap64 (x5_1 + x6_1)) + 5)) + (Go.bits .or .i64 (wrap64 ((wrap64 (rd l0 (ji8))) * 256)) (wrap64 (rd l0 (ji11)))))) : Int).toNat).drop ((wrap64 ((wrap64 (x5_1 + x6_1)) + 5)) : Int).toNat))).bind fun t135 => (if 0 ≤ (wrap64 ((wrap64 (x5_1 + x6_1)) + 3)) then (if (wrap64 ((wrap64 (x5_1 + x6_1)) + 3)) < (l0.length : Int) then (if 0 ≤ (wrap64 ((wrap64 (x5_1 + x6_1)) + 4)) then (if (wrap64 ((wrap64 (x5_1 + x6_1)) + 4)) < (l0.length : Int) then (if t135 = (Go.bits .or .i64 (wrap64 ((wrap64 (rd l0 (wrap64 ((wrap64 (x5_1 + x6_1)) + 3)))) * 256)) (wrap64 (rd l0 (wrap64 ((wrap64 (x5_1 + x6_1)) + 4))))) then (if x4_1.length < 8796093022208 then (frame_Cut.l0 kj13 l0 (x4_1 ++ [strOfNums ((l0.take ((wrap64 ((wrap64 ((wrap64 (x5_1 + x6_1)) + 5)) + (Go.bits .or .i64 (wrap64 ((wrap64 (rd l0 (ji8))) * 256)) (wrap64 (rd l0 (ji11)))))) : Int).toNat).drop ((wrap64 ((wrap64 (x5_1 + x6_1)) + 5)) : Int).toNat)]) (wrap64 (x5_1 + x6_1)) (wrap64 ((Go.bits .or .i64 (wrap64 ((wrap64 (rd l0 (ji8))) * 256)) (wrap64 (rd l0 (ji11)))) + 5))) else (none)) else (some (x4_1, (wrap64 (x5_1 + x6_1))))) else (none)) else (none)) else (none)) else (none))) else (none)) else (none)) else (none)) = some (r1, r2) := by rw [if_neg (show ¬ (false = true) by decide)] at H; exact H
                          clear H
                          have H := H1
                          clear H1
                          obtain ⟨ji18, hji18⟩ : ∃ j_ : Int, (wrap64 ((wrap64 (x5_1 + x6_1)) + 5)) = j_ := ⟨_, rfl⟩
                          replace H : (if 0 ≤ (ji18) then (if (ji18) ≤ (wrap64 ((ji18) + (Go.bits .or .i64 (wrap64 ((wrap64 (rd l0 (ji8))) * 256)) (wrap64 (rd l0 (ji11)))))) then (if (wrap64 ((ji18) + (Go.bits .or .i64 (wrap64 ((wrap64 (rd l0 (ji8))) * 256)) (wrap64 (rd l0 (ji11)))))) ≤ (l0.length : Int) then ((frame_Sum.f kj13 (strOfNums ((l0.take ((wrap64 ((ji18) + (Go.bits .or .i64 (wrap64 ((wrap64 (rd l0 (ji8))) * 256)) (wrap64 (rd l0 (ji11)))))) : Int).toNat).drop ((ji18) : Int).toNat))).bind fun t135 => (if 0 ≤ (wrap64 ((wrap64 (x5_1 + x6_1)) + 3)) then (if (wrap64 ((wrap64 (x5_1 + x6_1)) + 3)) < (l0.length : Int) then (if 0 ≤ (wrap64 ((wrap64 (x5_1 + x6_1)) + 4)) then (if (wrap64 ((wrap64 (x5_1 + x6_1)) + 4)) < (l0.length : Int) then (if t135 = (Go.bits .or .i64 (wrap64 ((wrap64 (rd l0 (wrap64 ((wrap64 (x5_1 + x6_1)) + 3)))) * 256)) (wrap64 (rd l0 (wrap64 ((wrap64 (x5_1 + x6_1)) + 4))))) then (if x4_1.length < 8796093022208 then (frame_Cut.l0 kj13 l0 (x4_1 ++ [strOfNums ((l0.take ((wrap64 ((ji18) + (Go.bits .or .i64 (wrap64 ((wrap64 (rd l0 (ji8))) * 256)) (wrap64 (rd l0 (ji11)))))) : Int).toNat).drop ((ji18) : Int).toNat)]) (wrap64 (x5_1 + x6_1)) (wrap64 ((Go.bits .or .i64 (wrap64 ((wrap64 (rd l0 (ji8))) * 256)) (wrap64 (rd l0 (ji11)))) + 5))) else (none)) else (some (x4_1, (wrap64 (x5_1 + x6_1))))) else (none)) else (none)) else (none)) else (none))) else (none)) else (none)) else (none)) = some (r1, r2) := by first | (rw [hji18] at H; exact H) | (simp only [hji18] at H ⊢; exact H)
                          have hji18w : (IntKind.i64.wrap ((wrap64 (x5_1 + x6_1)) + 5)) = ji18 := (i64_w _).trans hji18
                          by_cases c19 : 0 ≤ (ji18)
                          · rw [if_pos c19] at H
                            have c19b0 := eq_true c19
                            have c19b1 : decide (0 ≤ (ji18)) = true := decide_eq_true c19
                            clear c19
                            by_cases c20 : (ji18) ≤ (wrap64 ((ji18) + (Go.bits .or .i64 (wrap64 ((wrap64 (rd l0 (ji8))) * 256)) (wrap64 (rd l0 (ji11))))))
                            · rw [if_pos c20] at H
                              have c20b0 := eq_true c20
                              have c20b1 : decide ((ji18) ≤ (wrap64 ((ji18) + (Go.bits .or .i64 (wrap64 ((wrap64 (rd l0 (ji8))) * 256)) (wrap64 (rd l0 (ji11))))))) = true := decide_eq_true c20
                              by_cases c21 : (wrap64 ((ji18) + (Go.bits .or .i64 (wrap64 ((wrap64 (rd l0 (ji8))) * 256)) (wrap64 (rd l0 (ji11)))))) ≤ (l0.length : Int)
                              · rw [if_pos c21] at H
                                have c21b0 := eq_true c21
                                have c21b1 : decide ((wrap64 ((ji18) + (Go.bits .or .i64 (wrap64 ((wrap64 (rd l0 (ji8))) * 256)) (wrap64 (rd l0 (ji11)))))) ≤ (l0.length : Int)) = true := decide_eq_true c21
                                replace H := Option.bind_eq_some_iff.mp H
                                obtain ⟨t135, A220, H⟩ := H
                                replace H : (if 0 ≤ (wrap64 ((wrap64 (x5_1 + x6_1)) + 3)) then (if (wrap64 ((wrap64 (x5_1 + x6_1)) + 3)) < (l0.length : Int) then (if 0 ≤ (wrap64 ((wrap64 (x5_1 + x6_1)) + 4)) then (if (wrap64 ((wrap64 (x5_1 + x6_1)) + 4)) < (l0.length : Int) then (if t135 = (Go.bits .or .i64 (wrap64 ((wrap64 (rd l0 (wrap64 ((wrap64 (x5_1 + x6_1)) + 3)))) * 256)) (wrap64 (rd l0 (wrap64 ((wrap64 (x5_1 + x6_1)) + 4))))) then (if x4_1.length < 8796093022208 then (frame_Cut.l0 kj13 l0 (x4_1 ++ [strOfNums ((l0.take ((wrap64 ((ji18) + (Go.bits .or .i64 (wrap64 ((wrap64 (rd l0 (ji8))) * 256)) (wrap64 (rd l0 (ji11)))))) : Int).toNat).drop ((ji18) : Int).toNat)]) (wrap64 (x5_1 + x6_1)) (wrap64 ((Go.bits .or .i64 (wrap64 ((wrap64 (rd l0 (ji8))) * 256)) (wrap64 (rd l0 (ji11)))) + 5))) else (none)) else (some (x4_1, (wrap64 (x5_1 + x6_1))))) else (none)) else (none)) else (none)) else (none)) = some (r1, r2) := H
                                have A22 := Aside0.mk A220
                                clear A220
                                obtain ⟨ji23, hji23⟩ : ∃ j_ : Int, (wrap64 ((wrap64 (x5_1 + x6_1)) + 3)) = j_ := ⟨_, rfl⟩
                                replace H : (if 0 ≤ (ji23) then (if (ji23) < (l0.length : Int) then (if 0 ≤ (wrap64 ((wrap64 (x5_1 + x6_1)) + 4)) then (if (wrap64 ((wrap64 (x5_1 + x6_1)) + 4)) < (l0.length : Int) then (if t135 = (Go.bits .or .i64 (wrap64 ((wrap64 (rd l0 (ji23))) * 256)) (wrap64 (rd l0 (wrap64 ((wrap64 (x5_1 + x6_1)) + 4))))) then (if x4_1.length < 8796093022208 then (frame_Cut.l0 kj13 l0 (x4_1 ++ [strOfNums ((l0.take ((wrap64 ((ji18) + (Go.bits .or .i64 (wrap64 ((wrap64 (rd l0 (ji8))) * 256)) (wrap64 (rd l0 (ji11)))))) : Int).toNat).drop ((ji18) : Int).toNat)]) (wrap64 (x5_1 + x6_1)) (wrap64 ((Go.bits .or .i64 (wrap64 ((wrap64 (rd l0 (ji8))) * 256)) (wrap64 (rd l0 (ji11)))) + 5))) else (none)) else (some (x4_1, (wrap64 (x5_1 + x6_1))))) else (none)) else (none)) else (none)) else (none)) = some (r1, r2) := by first | (rw [hji23] at H; exact H) | (simp only [hji23] at H ⊢; exact H)
                                (try rw [hji23] at A22)
                                have hji23w : (IntKind.i64.wrap ((wrap64 (x5_1 + x6_1)) + 3)) = ji23 := (i64_w _).trans hji23
                                by_cases c24 : 0 ≤ (ji23)
                                · rw [if_pos c24] at H
                                  have c24b0 : decide (0 ≤ (ji23)) = true := decide_eq_true c24
                                  clear c24
                                  by_cases c25 : (ji23) < (l0.length : Int)
                                  · rw [if_pos c25] at H
                                    have c25b0 : decide ((ji23) < (l0.length : Int)) = true := decide_eq_true c25
                                    clear c25
                                    obtain ⟨ji26, hji26⟩ : ∃ j_ : Int, (wrap64 ((wrap64 (x5_1 + x6_1)) + 4)) = j_ := ⟨_, rfl⟩
                                    replace H : (if 0 ≤ (ji26) then (if (ji26) < (l0.length : Int) then (if t135 = (Go.bits .or .i64 (wrap64 ((wrap64 (rd l0 (ji23))) * 256)) (wrap64 (rd l0 (ji26)))) then (if x4_1.length < 8796093022208 then (frame_Cut.l0 kj13 l0 (x4_1 ++ [strOfNums ((l0.take ((wrap64 ((ji18) + (Go.bits .or .i64 (wrap64 ((wrap64 (rd l0 (ji8))) * 256)) (wrap64 (rd l0 (ji11)))))) : Int).toNat).drop ((ji18) : Int).toNat)]) (wrap64 (x5_1 + x6_1)) (wrap64 ((Go.bits .or .i64 (wrap64 ((wrap64 (rd l0 (ji8))) * 256)) (wrap64 (rd l0 (ji11)))) + 5))) else (none)) else (some (x4_1, (wrap64 (x5_1 + x6_1))))) else (none)) else (none)) = some (r1, r2) := by first | (rw [hji26] at H; exact H) | (simp only [hji26] at H ⊢; exact H)
                                    (try rw [hji26] at A22)
                                    have hji26w : (IntKind.i64.wrap ((wrap64 (x5_1 + x6_1)) + 4)) = ji26 := (i64_w _).trans hji26
                                    by_cases c27 : 0 ≤ (ji26)
                                    · rw [if_pos c27] at H
                                      have c27b0 : decide (0 ≤ (ji26)) = true := decide_eq_true c27
                                      clear c27
                                      by_cases c28 : (ji26) < (l0.length : Int)
                                      · rw [if_pos c28] at H
                                        have c28b0 : decide ((ji26) < (l0.length : Int)) = true := decide_eq_true c28
                                        clear c28
                                        by_cases c29 : t135 = (Go.bits .or .i64 (wrap64 ((wrap64 (rd l0 (ji23))) * 256)) (wrap64 (rd l0 (ji26))))
                                        · rw [if_pos c29] at H
                                          have c29b0 : (t135 == (Go.bits .or .i64 (wrap64 ((wrap64 (rd l0 (ji23))) * 256)) (wrap64 (rd l0 (ji26))))) = true := beq_iff_eq.mpr c29
                                          have c29b1 : (t135 != (Go.bits .or .i64 (wrap64 ((wrap64 (rd l0 (ji23))) * 256)) (wrap64 (rd l0 (ji26))))) = false := bne_eq_false_iff_eq.mpr c29
                                          (try (have c29w0 := c29b0; simp only [← i64_w] at c29w0))
                                          (try (have c29w1 := c29b1; simp only [← i64_w] at c29w1))
                                          clear c29
                                          by_cases c30 : x4_1.length < 8796093022208
                                          · rw [if_pos c30] at H
                                            have LMc30 := Aside0.mk c30
                                            clear c30
                                            obtain ⟨y138, hy138⟩ : ∃ y_ : List ByteArray, y_ = (x4_1 ++ [strOfNums ((l0.take ((wrap64 ((ji18) + (Go.bits .or .i64 (wrap64 ((wrap64 (rd l0 (ji8))) * 256)) (wrap64 (rd l0 (ji11)))))) : Int).toNat).drop ((ji18) : Int).toNat)]) := ⟨_, rfl⟩
                                            replace H : (frame_Cut.l0 kj13 l0 y138 (wrap64 (x5_1 + x6_1)) (wrap64 ((Go.bits .or .i64 (wrap64 ((wrap64 (rd l0 (ji8))) * 256)) (wrap64 (rd l0 (ji11)))) + 5))) = some (r1, r2) := by first | (rw [hy138]; with_reducible exact H) | (have H2_ := (Option.bind_some _ _).symm.trans H; rw [hy138]; with_reducible exact H2_) | (have H2_ := (Option.bind_some _ _).symm.trans H; with_reducible exact H2_) | with_reducible exact H | (rw [hy138]; exact H) | exact H
                                            have Ny138 := Aside0.mk hy138
                                            clear hy138
                                            have H' := Aside0.mk H
                                            clear H
                                            obtain ⟨i031, hi031, _, hsz31, _⟩ := info_parts info5
                                            obtain ⟨A31, hcut31, hA31, hC31⟩ := print_mid_of (P := Try.prog) (Value.int .u8) 0 22 5 .i64 .i64 Try.underlying22 hi031 hsz31 (some ad132) c0 l0 (ji18) (wrap64 ((ji18) + (Go.bits .or .i64 (wrap64 ((wrap64 (rd l0 (ji8))) * 256)) (wrap64 (rd l0 (ji11)))))) (of_decide_eq_true (by first | (with_reducible assumption) | assumption)) (by first | omega | exact of_decide_eq_true (by first | (with_reducible assumption) | assumption)) (of_decide_eq_true (by first | (with_reducible assumption) | assumption)) HC0.out
                                            have HR134 := Aside0.mk (Kd.C_of_reads (h1 := fun _ => rfl) (hA31 _ (Kd.reads_of_C HR0.out)))
                                            have HC134 := Aside0.mk hC31
                                            clear hA31 hC31 hi031 hsz31
                                            have hcv32 : ∀ n_ : Nat, n_ = ((l0.take ((wrap64 ((ji18) + (Go.bits .or .i64 (wrap64 ((wrap64 (rd l0 (ji8))) * 256)) (wrap64 (rd l0 (ji11)))))) : Int).toNat).drop ((ji18) : Int).toNat).length → (convert 22 9 (.slice A31 n_ (c0 - (ji18).toNat))).run Try.prog wc = .ok (.string (strOfNums ((l0.take ((wrap64 ((ji18) + (Go.bits .or .i64 (wrap64 ((wrap64 (rd l0 (ji8))) * 256)) (wrap64 (rd l0 (ji11)))))) : Int).toNat).drop ((ji18) : Int).toNat))) wc := fun n_ hn_ => (by subst hn_; exact Kd.C_string (P := Try.prog) Try.underlying22 Try.underlying5 Try.underlying9 (Kd.C_below HR134.out (show Below w.heap.size w wc from (by repeat (first | (with_reducible first | exact HB.out | apply below_alloc | apply pw_below_drewN | apply below_drew1) | exact HB.out)))))
                                            try go_wp2
                                            have n0_ := Aside0.mk (Kd.R_drew HO_4.out)
                                            have n1_ := Aside0.mk (below_drew1 HB.out)
                                            clear HO_4
                                            clear HB
                                            have HO_4 := n0_
                                            have HB := n1_
                                            clear n0_ n1_
                                            have p136 : 0 ≤ ((ji23) : Int) := of_decide_eq_true (by first | (with_reducible assumption) | assumption)
                                            have q136 : (ji23) < (l0.length : Int) := of_decide_eq_true (by first | (with_reducible assumption) | assumption)
                                            obtain ⟨ad136, e136, hx136_0⟩ := Kd.at_int HR0.out (ji23) p136 q136
                                            have hw136_0 := hx136_0
                                            obtain rfl : ad132 = ad136 := (by injection e136)
                                            replace hx136_0 := (HB.out.cell (World.block_lt_of_cell? w _ hx136_0)).trans hx136_0
                                            replace p136 := eq_true p136
                                            replace q136 := eq_true q136
                                            have p137 : 0 ≤ ((ji26) : Int) := of_decide_eq_true (by first | (with_reducible assumption) | assumption)
                                            have q137 : (ji26) < (l0.length : Int) := of_decide_eq_true (by first | (with_reducible assumption) | assumption)
                                            obtain ⟨ad137, e137, hx137_0⟩ := Kd.at_int HR0.out (ji26) p137 q137
                                            have hw137_0 := hx137_0
                                            obtain rfl : ad132 = ad137 := (by injection e137)
                                            replace hx137_0 := (HB.out.cell (World.block_lt_of_cell? w _ hx137_0)).trans hx137_0
                                            replace p137 := eq_true p137
                                            replace q137 := eq_true q137
                                            refine start_ (n := 17) (S := fun w' => w'.cell? (ad132.add ((ji23)).toNat) = some (.int .u8 (rd l0 (ji23))) ∧ w'.cell? (ad132.add ((ji26)).toNat) = some (.int .u8 (rd l0 (ji26)))) (ds := []) #[false, false, false, false, false, false, false, false, false, false, false, false, false, false, false, false, false] (by kernel_rfl) rfl rfl ⟨((HB.out.cell (World.block_lt_of_cell? w _ hw136_0)).trans hw136_0), ((HB.out.cell (World.block_lt_of_cell? w _ hw137_0)).trans hw137_0)⟩ (fun hHeld => ?_); refine with_tabW frame_Cut.tab8 frame_Cut.bits8 (fun HT_ HW_ => ?_)
                                            generalize wc.drew = w33 at HO_4 HB hx136_0 hx137_0 hHeld ⊢
                                            refine pure_ (i := 0) (N := some 57) (v := ?_) (a' := ?_) #[true, false, false, false, false, false, false, false, false, false, false, false, false, false, false, false, false] rfl rfl (any_of HT_.out (by kernel_rfl)) (fun _ _ _ h => h) (Or.inl ⟨by rfl, ?_⟩) ?_ ?_
                                            rotate_left
                                            · intro w'
                                              go_simp
                                              with_reducible rfl
                                            rotate_left
                                            · simp only [Act.put, List.setIfInBounds_toArray, List.set_cons_zero, List.set_cons_succ, i64_w, i32_w]
                                              rfl
                                            refine pure_ (i := 2) (N := some 59) (v := ?_) (a' := ?_) #[true, false, true, false, false, false, false, false, false, false, false, false, false, false, false, false, false] rfl rfl (any_of HT_.out (by kernel_rfl)) (fun _ _ _ h => h) (Or.inl ⟨by rfl, ?_⟩) ?_ ?_
                                            rotate_left
                                            · intro w'
                                              go_simp
                                              with_reducible rfl
                                            rotate_left
                                            · simp only [Act.put, List.setIfInBounds_toArray, List.set_cons_zero, List.set_cons_succ, i64_w, i32_w]
                                              rfl
                                            refine pure_ (i := 3) (N := some 60) (v := ?_) (a' := ?_) #[true, false, true, true, false, false, false, false, false, false, false, false, false, false, false, false, false] rfl rfl (any_of HT_.out (by kernel_rfl)) (fun _ _ _ h => h) (Or.inl ⟨by rfl, ?_⟩) ?_ ?_
                                            rotate_left
                                            · intro w'
                                              go_simp
                                              with_reducible rfl
                                            rotate_left
                                            · simp only [Act.put, List.setIfInBounds_toArray, List.set_cons_zero, List.set_cons_succ, i64_w, i32_w]
                                              rfl
                                            refine pure_ (i := 4) (N := some 61) (v := ?_) (a' := ?_) #[true, false, true, true, true, false, false, false, false, false, false, false, false, false, false, false, false] rfl rfl (any_of HT_.out (by kernel_rfl)) (fun _ _ _ h => h) (Or.inl ⟨by rfl, ?_⟩) ?_ ?_
                                            rotate_left
                                            · intro w'
                                              go_simp
                                              with_reducible rfl
                                            rotate_left
                                            · simp only [Act.put, List.setIfInBounds_toArray, List.set_cons_zero, List.set_cons_succ, i64_w, i32_w]
                                              rfl
                                            refine pure_ (i := 5) (N := some 62) (v := ?_) (a' := ?_) #[true, false, true, true, true, true, false, false, false, false, false, false, false, false, false, false, false] rfl rfl (any_of HT_.out (by kernel_rfl)) (fun _ _ _ h => h) (Or.inl ⟨by rfl, ?_⟩) ?_ ?_
                                            rotate_left
                                            · intro w'
                                              go_simp
                                              with_reducible rfl
                                            rotate_left
                                            · simp only [Act.put, List.setIfInBounds_toArray, List.set_cons_zero, List.set_cons_succ, i64_w, i32_w]
                                              rfl
                                            refine pure_ (i := 9) (N := some 66) (v := ?_) (a' := ?_) #[true, false, true, true, true, true, false, false, false, true, false, false, false, false, false, false, false] rfl rfl (any_of HT_.out (by kernel_rfl)) (fun _ _ _ h => h) (Or.inl ⟨by rfl, ?_⟩) ?_ ?_
                                            rotate_left
                                            · intro w'
                                              go_simp
                                              with_reducible rfl
                                            rotate_left
                                            · simp only [Act.put, List.setIfInBounds_toArray, List.set_cons_zero, List.set_cons_succ, i64_w, i32_w]
                                              rfl
                                            refine pure_ (i := 10) (N := some 67) (v := ?_) (a' := ?_) #[true, false, true, true, true, true, false, false, false, true, true, false, false, false, false, false, false] rfl rfl (any_of HT_.out (by kernel_rfl)) (fun _ _ _ h => h) (Or.inl ⟨by rfl, ?_⟩) ?_ ?_
                                            rotate_left
                                            · intro w'
                                              go_simp
                                              with_reducible rfl
                                            rotate_left
                                            · simp only [Act.put, List.setIfInBounds_toArray, List.set_cons_zero, List.set_cons_succ, i64_w, i32_w]
                                              rfl
                                            refine pure_ (i := 11) (N := some 68) (v := ?_) (a' := ?_) #[true, false, true, true, true, true, false, false, false, true, true, true, false, false, false, false, false] rfl rfl (any_of HT_.out (by kernel_rfl)) (fun _ _ _ h => h) (Or.inl ⟨by rfl, ?_⟩) ?_ ?_
                                            rotate_left
                                            · intro w'
                                              go_simp
                                              with_reducible rfl
                                            rotate_left
                                            · simp only [Act.put, List.setIfInBounds_toArray, List.set_cons_zero, List.set_cons_succ, i64_w, i32_w]
                                              rfl
                                            refine pure_ (i := 12) (N := some 69) (v := ?_) (a' := ?_) #[true, false, true, true, true, true, false, false, false, true, true, true, true, false, false, false, false] rfl rfl (any_of HT_.out (by kernel_rfl)) (fun _ _ _ h => h) (Or.inl ⟨by rfl, ?_⟩) ?_ ?_
                                            rotate_left
                                            · intro w'
                                              go_simp
                                              with_reducible rfl
                                            rotate_left
                                            · simp only [Act.put, List.setIfInBounds_toArray, List.set_cons_zero, List.set_cons_succ, i64_w, i32_w]
                                              rfl
                                            refine take_ (i := 6) (N := some 63) (v := ?_) (a' := ?_) #[true, false, true, true, true, true, true, false, false, true, true, true, true, false, false, false, false] rfl rfl (take_ofW HT_.out HW_.out (by kernel_rfl)) (fun _ _ _ h => h) (Or.inl ⟨by rfl, ?_⟩) hHeld ?_ ?_
                                            rotate_left
                                            · rintro w' ⟨s0, s1⟩
                                              go_simp
                                              with_reducible rfl
                                            rotate_left
                                            · simp only [Act.put, List.setIfInBounds_toArray, List.set_cons_zero, List.set_cons_succ, i64_w, i32_w]
                                              rfl
                                            refine pure_ (i := 7) (N := some 64) (v := ?_) (a' := ?_) #[true, false, true, true, true, true, true, true, false, true, true, true, true, false, false, false, false] rfl rfl (any_of HT_.out (by kernel_rfl)) (fun _ _ _ h => h) (Or.inl ⟨by rfl, ?_⟩) ?_ ?_
                                            rotate_left
                                            · intro w'
                                              go_simp
                                              with_reducible rfl
                                            rotate_left
                                            · simp only [Act.put, List.setIfInBounds_toArray, List.set_cons_zero, List.set_cons_succ, i64_w, i32_w]
                                              rfl
                                            refine pure_ (i := 8) (N := some 65) (v := ?_) (a' := ?_) #[true, false, true, true, true, true, true, true, true, true, true, true, true, false, false, false, false] rfl rfl (any_of HT_.out (by kernel_rfl)) (fun _ _ _ h => h) (Or.inl ⟨by rfl, ?_⟩) ?_ ?_
                                            rotate_left
                                            · intro w'
                                              go_simp
                                              with_reducible rfl
                                            rotate_left
                                            · simp only [Act.put, List.setIfInBounds_toArray, List.set_cons_zero, List.set_cons_succ, i64_w, i32_w]
                                              rfl
                                            refine take_ (i := 13) (N := some 70) (v := ?_) (a' := ?_) #[true, false, true, true, true, true, true, true, true, true, true, true, true, true, false, false, false] rfl rfl (take_ofW HT_.out HW_.out (by kernel_rfl)) (fun _ _ _ h => h) (Or.inl ⟨by rfl, ?_⟩) hHeld ?_ ?_
                                            rotate_left
                                            · rintro w' ⟨s0, s1⟩
                                              go_simp
                                              with_reducible rfl
                                            rotate_left
                                            · simp only [Act.put, List.setIfInBounds_toArray, List.set_cons_zero, List.set_cons_succ, i64_w, i32_w]
                                              rfl
                                            refine pure_ (i := 14) (N := some 71) (v := ?_) (a' := ?_) #[true, false, true, true, true, true, true, true, true, true, true, true, true, true, true, false, false] rfl rfl (any_of HT_.out (by kernel_rfl)) (fun _ _ _ h => h) (Or.inl ⟨by rfl, ?_⟩) ?_ ?_
                                            rotate_left
                                            · intro w'
                                              go_simp
                                              with_reducible rfl
                                            rotate_left
                                            · simp only [Act.put, List.setIfInBounds_toArray, List.set_cons_zero, List.set_cons_succ, i64_w, i32_w]
                                              rfl
                                            refine pure_ (i := 15) (N := some 72) (v := ?_) (a' := ?_) #[true, false, true, true, true, true, true, true, true, true, true, true, true, true, true, true, false] rfl rfl (any_of HT_.out (by kernel_rfl)) (fun _ _ _ h => h) (Or.inl ⟨by rfl, ?_⟩) ?_ ?_
                                            rotate_left
                                            · intro w'
                                              go_simp
                                              with_reducible rfl
                                            rotate_left
                                            · simp only [Act.put, List.setIfInBounds_toArray, List.set_cons_zero, List.set_cons_succ, i64_w, i32_w]
                                              rfl
                                            refine one_ (i := 1) (N := some 58) #[true, true, true, true, true, true, true, true, true, true, true, true, true, true, true, true, false] rfl rfl (one_of HT_.out (by kernel_rfl)) (by decide) (fun K hK => ?_)
                                            refine goes_ Try.func12 (by kernel_rfl) rfl #[.string (strOfNums ((l0.take ((wrap64 ((ji18) + (Go.bits .or .i64 (wrap64 ((wrap64 (rd l0 (ji8))) * 256)) (wrap64 (rd l0 (ji11)))))) : Int).toNat).drop ((ji18) : Int).toNat))] (by rfl) rfl rfl (by (try simp only [List.map_toArray, List.map_cons, List.map_nil]); first | done | (simp only [hji11, hji18, hji8]; rfl) | rfl | (simp only [List.length_drop, List.length_take]; rfl)) ?_
                                            with_reducible refine (frame_Sum.calls kj13 (strOfNums ((l0.take ((wrap64 ((ji18) + (Go.bits .or .i64 (wrap64 ((wrap64 (rd l0 (ji8))) * 256)) (wrap64 (rd l0 (ji11)))))) : Int).toNat).drop ((ji18) : Int).toNat)) t135 _ A22.out).mono ?_
                                            rintro e w34 ⟨rfl, hb⟩
                                            refine ⟨_, rfl, ?_⟩
                                            have n0_ := Aside0.mk (Kd.R_below (by (with_reducible repeat (first | apply Kd.R_alloc | apply Kd.R_drewN | apply Kd.R_drew)); exact HO_4.out) hb)
                                            have n1_ := Aside0.mk (below_step (by repeat (first | (with_reducible first | exact HB.out | apply below_alloc | apply pw_below_drewN | apply below_drew1) | exact HB.out)) hb)
                                            clear HO_4
                                            clear HB
                                            have HO_4 := n0_
                                            have HB := n1_
                                            clear n0_ n1_
                                            (try clear hb)
                                            (try clear hb2)
                                            (try clear hk)
                                            (try clear hi)
                                            refine hK.out _ _ ⟨((HB.out.cell (World.block_lt_of_cell? w _ hw136_0)).trans hw136_0), ((HB.out.cell (World.block_lt_of_cell? w _ hw137_0)).trans hw137_0)⟩ (fun hHeld => ?_)
                                            clear hK K
                                            refine norm_ (a' := ?_) ?_ ?_
                                            rotate_left
                                            · show Act.put _ (some 58) _ = _
                                              simp only [Act.put, List.setIfInBounds_toArray, List.set_cons_zero, List.set_cons_succ, i64_w, i32_w]
                                              rfl
                                            refine pure_ (i := 16) (N := some 73) (v := ?_) (a' := ?_) #[true, true, true, true, true, true, true, true, true, true, true, true, true, true, true, true, true] rfl rfl (any_of HT_.out (by kernel_rfl)) (fun _ _ _ h => h) (Or.inl ⟨by rfl, ?_⟩) ?_ ?_
                                            rotate_left
                                            · intro w'
                                              go_simp
                                              with_reducible rfl
                                            rotate_left
                                            · simp only [Act.put, List.setIfInBounds_toArray, List.set_cons_zero, List.set_cons_succ, i64_w, i32_w]
                                              rfl
                                            refine done_ (done_of HT_.out (by kernel_rfl)) ?_
                                            try go_wp2_with (first | ((with_reducible refine gate_builtin (b := .append) (xs := #[.tmp 74, .tmp 76]) rfl ?_); (try (refine gate_guard (by rfl) ?_; dsimp only)); at_builtin; refine Kd.R_append Kd.string (w0 := w) w.heap.size rfl (.tmp 74) (.tmp 76) 24 9 (.string ⟨#[]⟩) 16 rfl Try.underlying24 info9 rfl (by decide) (by omega) u4 x4_1 (strOfNums ((l0.take ((wrap64 ((ji18) + (Go.bits .or .i64 (wrap64 ((wrap64 (rd l0 (ji8))) * 256)) (wrap64 (rd l0 (ji11)))))) : Int).toNat).drop ((ji18) : Int).toNat)) [.string (strOfNums ((l0.take ((wrap64 ((ji18) + (Go.bits .or .i64 (wrap64 ((wrap64 (rd l0 (ji8))) * 256)) (wrap64 (rd l0 (ji11)))))) : Int).toNat).drop ((ji18) : Int).toNat))] (fun _ => True) (fun _ => False) rfl rfl ?aP (fun _ hk => hk.elim) ?aF ?aO ?aB ?aS ?aL ?_; (case aP => exact rfl); (case aB => exact (by repeat (first | (with_reducible first | exact HB.out | apply below_alloc | apply pw_below_drewN | apply below_drew1) | exact HB.out))); (case aF => exact (fun _ _ => trivial)); (case aO => exact (by (with_reducible repeat (first | apply Kd.R_alloc | apply Kd.R_drewN | apply Kd.R_drew)); exact HO_4.out)); (case aS => exact (below_size (by repeat (first | (with_reducible first | exact HB.out | apply below_alloc | apply pw_below_drewN | apply below_drew1) | exact HB.out)))); (case aL => have := LMc30.out; omega); intro v139 w35 ho hb hg hat; rw [← Ny138.out] at ho; have n0_ := Aside0.mk (hb); have n1_ := Aside0.mk (ho); clear HB; clear HO_4; have HB := n0_; have HO140 := n1_; clear n0_ n1_; clear ho hb hg hat))
                                            (try (apply wp_goto; (try go_wp2); refine goto_0 ?_))
                                            (try go_wp2)
                                            go_roundg kj13
                                            case measure => have := HK1.out; have := HJ1.out; have := HJ13.out; omega
                                            case rel => exact ⟨(y138), ((wrap64 (x5_1 + x6_1))), (wrap64 ((Go.bits .or .i64 (wrap64 ((wrap64 (rd l0 (ji8))) * 256)) (wrap64 (rd l0 (ji11)))) + 5)), (by first | rfl | (simp; done) | (simp [*]; done) | grind), (by first | rfl | (simp; done) | (simp only [← hji8, ← hji11] <;> (first | rfl | simp)) | (simp [*]; done)), H', ⟨by have := HK1.out; have := HJ1.out; have := HJ13.out; omega⟩, ⟨by (with_reducible repeat (first | apply Kd.R_alloc | apply Kd.R_drewN | apply Kd.R_drew)); exact HO140.out⟩, ⟨by repeat (first | (with_reducible first | exact HB.out | apply below_alloc | apply pw_below_drewN | apply below_drew1) | exact HB.out)⟩⟩
                                          · rw [if_neg c30] at H
                                            exact absurd H (by simp)
                                        · rw [if_neg c29] at H
                                          have c29b0 : (t135 == (Go.bits .or .i64 (wrap64 ((wrap64 (rd l0 (ji23))) * 256)) (wrap64 (rd l0 (ji26))))) = false := beq_eq_false_iff_ne.mpr c29
                                          have c29b1 : (t135 != (Go.bits .or .i64 (wrap64 ((wrap64 (rd l0 (ji23))) * 256)) (wrap64 (rd l0 (ji26))))) = true := bne_iff_ne.mpr c29
                                          (try (have c29w0 := c29b0; simp only [← i64_w] at c29w0))
                                          (try (have c29w1 := c29b1; simp only [← i64_w] at c29w1))
                                          simp only [Option.some.injEq, Prod.mk.injEq] at H
                                          obtain ⟨rfl, rfl⟩ := H
                                          obtain ⟨i036, hi036, _, hsz36, _⟩ := info_parts info5
                                          obtain ⟨A36, hcut36, hA36, hC36⟩ := print_mid_of (P := Try.prog) (Value.int .u8) 0 22 5 .i64 .i64 Try.underlying22 hi036 hsz36 (some ad132) c0 l0 (ji18) (wrap64 ((ji18) + (Go.bits .or .i64 (wrap64 ((wrap64 (rd l0 (ji8))) * 256)) (wrap64 (rd l0 (ji11)))))) (of_decide_eq_true (by first | (with_reducible assumption) | assumption)) (by first | omega | exact of_decide_eq_true (by first | (with_reducible assumption) | assumption)) (of_decide_eq_true (by first | (with_reducible assumption) | assumption)) HC0.out
                                          have HR134 := Aside0.mk (Kd.C_of_reads (h1 := fun _ => rfl) (hA36 _ (Kd.reads_of_C HR0.out)))
                                          have HC134 := Aside0.mk hC36
                                          clear hA36 hC36 hi036 hsz36
                                          have hcv37 : ∀ n_ : Nat, n_ = ((l0.take ((wrap64 ((ji18) + (Go.bits .or .i64 (wrap64 ((wrap64 (rd l0 (ji8))) * 256)) (wrap64 (rd l0 (ji11)))))) : Int).toNat).drop ((ji18) : Int).toNat).length → (convert 22 9 (.slice A36 n_ (c0 - (ji18).toNat))).run Try.prog wc = .ok (.string (strOfNums ((l0.take ((wrap64 ((ji18) + (Go.bits .or .i64 (wrap64 ((wrap64 (rd l0 (ji8))) * 256)) (wrap64 (rd l0 (ji11)))))) : Int).toNat).drop ((ji18) : Int).toNat))) wc := fun n_ hn_ => (by subst hn_; exact Kd.C_string (P := Try.prog) Try.underlying22 Try.underlying5 Try.underlying9 (Kd.C_below HR134.out (show Below w.heap.size w wc from (by repeat (first | (with_reducible first | exact HB.out | apply below_alloc | apply pw_below_drewN | apply below_drew1) | exact HB.out)))))
                                          try go_wp2
                                          have n0_ := Aside0.mk (Kd.R_drew HO_4.out)
                                          have n1_ := Aside0.mk (below_drew1 HB.out)
                                          clear HO_4
                                          clear HB
                                          have HO_4 := n0_
                                          have HB := n1_
                                          clear n0_ n1_
                                          have p136 : 0 ≤ ((ji23) : Int) := of_decide_eq_true (by first | (with_reducible assumption) | assumption)
                                          have q136 : (ji23) < (l0.length : Int) := of_decide_eq_true (by first | (with_reducible assumption) | assumption)
                                          obtain ⟨ad136, e136, hx136_0⟩ := Kd.at_int HR0.out (ji23) p136 q136
                                          have hw136_0 := hx136_0
                                          obtain rfl : ad132 = ad136 := (by injection e136)
                                          replace hx136_0 := (HB.out.cell (World.block_lt_of_cell? w _ hx136_0)).trans hx136_0
                                          replace p136 := eq_true p136
                                          replace q136 := eq_true q136
                                          have p137 : 0 ≤ ((ji26) : Int) := of_decide_eq_true (by first | (with_reducible assumption) | assumption)
                                          have q137 : (ji26) < (l0.length : Int) := of_decide_eq_true (by first | (with_reducible assumption) | assumption)
                                          obtain ⟨ad137, e137, hx137_0⟩ := Kd.at_int HR0.out (ji26) p137 q137
                                          have hw137_0 := hx137_0
                                          obtain rfl : ad132 = ad137 := (by injection e137)
                                          replace hx137_0 := (HB.out.cell (World.block_lt_of_cell? w _ hx137_0)).trans hx137_0
                                          replace p137 := eq_true p137
                                          replace q137 := eq_true q137
                                          refine start_ (n := 17) (S := fun w' => w'.cell? (ad132.add ((ji23)).toNat) = some (.int .u8 (rd l0 (ji23))) ∧ w'.cell? (ad132.add ((ji26)).toNat) = some (.int .u8 (rd l0 (ji26)))) (ds := []) #[false, false, false, false, false, false, false, false, false, false, false, false, false, false, false, false, false] (by kernel_rfl) rfl rfl ⟨((HB.out.cell (World.block_lt_of_cell? w _ hw136_0)).trans hw136_0), ((HB.out.cell (World.block_lt_of_cell? w _ hw137_0)).trans hw137_0)⟩ (fun hHeld => ?_); refine with_tabW frame_Cut.tab8 frame_Cut.bits8 (fun HT_ HW_ => ?_)
                                          generalize wc.drew = w38 at HO_4 HB hx136_0 hx137_0 hHeld ⊢
                                          refine pure_ (i := 0) (N := some 57) (v := ?_) (a' := ?_) #[true, false, false, false, false, false, false, false, false, false, false, false, false, false, false, false, false] rfl rfl (any_of HT_.out (by kernel_rfl)) (fun _ _ _ h => h) (Or.inl ⟨by rfl, ?_⟩) ?_ ?_
                                          rotate_left
                                          · intro w'
                                            go_simp
                                            with_reducible rfl
                                          rotate_left
                                          · simp only [Act.put, List.setIfInBounds_toArray, List.set_cons_zero, List.set_cons_succ, i64_w, i32_w]
                                            rfl
                                          refine pure_ (i := 2) (N := some 59) (v := ?_) (a' := ?_) #[true, false, true, false, false, false, false, false, false, false, false, false, false, false, false, false, false] rfl rfl (any_of HT_.out (by kernel_rfl)) (fun _ _ _ h => h) (Or.inl ⟨by rfl, ?_⟩) ?_ ?_
                                          rotate_left
                                          · intro w'
                                            go_simp
                                            with_reducible rfl
                                          rotate_left
                                          · simp only [Act.put, List.setIfInBounds_toArray, List.set_cons_zero, List.set_cons_succ, i64_w, i32_w]
                                            rfl
                                          refine pure_ (i := 3) (N := some 60) (v := ?_) (a' := ?_) #[true, false, true, true, false, false, false, false, false, false, false, false, false, false, false, false, false] rfl rfl (any_of HT_.out (by kernel_rfl)) (fun _ _ _ h => h) (Or.inl ⟨by rfl, ?_⟩) ?_ ?_
                                          rotate_left
                                          · intro w'
                                            go_simp
                                            with_reducible rfl
                                          rotate_left
                                          · simp only [Act.put, List.setIfInBounds_toArray, List.set_cons_zero, List.set_cons_succ, i64_w, i32_w]
                                            rfl
                                          refine pure_ (i := 4) (N := some 61) (v := ?_) (a' := ?_) #[true, false, true, true, true, false, false, false, false, false, false, false, false, false, false, false, false] rfl rfl (any_of HT_.out (by kernel_rfl)) (fun _ _ _ h => h) (Or.inl ⟨by rfl, ?_⟩) ?_ ?_
                                          rotate_left
                                          · intro w'
                                            go_simp
                                            with_reducible rfl
                                          rotate_left
                                          · simp only [Act.put, List.setIfInBounds_toArray, List.set_cons_zero, List.set_cons_succ, i64_w, i32_w]
                                            rfl
                                          refine pure_ (i := 5) (N := some 62) (v := ?_) (a' := ?_) #[true, false, true, true, true, true, false, false, false, false, false, false, false, false, false, false, false] rfl rfl (any_of HT_.out (by kernel_rfl)) (fun _ _ _ h => h) (Or.inl ⟨by rfl, ?_⟩) ?_ ?_
                                          rotate_left
                                          · intro w'
                                            go_simp
                                            with_reducible rfl
                                          rotate_left
                                          · simp only [Act.put, List.setIfInBounds_toArray, List.set_cons_zero, List.set_cons_succ, i64_w, i32_w]
                                            rfl
                                          refine pure_ (i := 9) (N := some 66) (v := ?_) (a' := ?_) #[true, false, true, true, true, true, false, false, false, true, false, false, false, false, false, false, false] rfl rfl (any_of HT_.out (by kernel_rfl)) (fun _ _ _ h => h) (Or.inl ⟨by rfl, ?_⟩) ?_ ?_
                                          rotate_left
                                          · intro w'
                                            go_simp
                                            with_reducible rfl
                                          rotate_left
                                          · simp only [Act.put, List.setIfInBounds_toArray, List.set_cons_zero, List.set_cons_succ, i64_w, i32_w]
                                            rfl
                                          refine pure_ (i := 10) (N := some 67) (v := ?_) (a' := ?_) #[true, false, true, true, true, true, false, false, false, true, true, false, false, false, false, false, false] rfl rfl (any_of HT_.out (by kernel_rfl)) (fun _ _ _ h => h) (Or.inl ⟨by rfl, ?_⟩) ?_ ?_
                                          rotate_left
                                          · intro w'
                                            go_simp
                                            with_reducible rfl
                                          rotate_left
                                          · simp only [Act.put, List.setIfInBounds_toArray, List.set_cons_zero, List.set_cons_succ, i64_w, i32_w]
                                            rfl
                                          refine pure_ (i := 11) (N := some 68) (v := ?_) (a' := ?_) #[true, false, true, true, true, true, false, false, false, true, true, true, false, false, false, false, false] rfl rfl (any_of HT_.out (by kernel_rfl)) (fun _ _ _ h => h) (Or.inl ⟨by rfl, ?_⟩) ?_ ?_
                                          rotate_left
                                          · intro w'
                                            go_simp
                                            with_reducible rfl
                                          rotate_left
                                          · simp only [Act.put, List.setIfInBounds_toArray, List.set_cons_zero, List.set_cons_succ, i64_w, i32_w]
                                            rfl
                                          refine pure_ (i := 12) (N := some 69) (v := ?_) (a' := ?_) #[true, false, true, true, true, true, false, false, false, true, true, true, true, false, false, false, false] rfl rfl (any_of HT_.out (by kernel_rfl)) (fun _ _ _ h => h) (Or.inl ⟨by rfl, ?_⟩) ?_ ?_
                                          rotate_left
                                          · intro w'
                                            go_simp
                                            with_reducible rfl
                                          rotate_left
                                          · simp only [Act.put, List.setIfInBounds_toArray, List.set_cons_zero, List.set_cons_succ, i64_w, i32_w]
                                            rfl
                                          refine take_ (i := 6) (N := some 63) (v := ?_) (a' := ?_) #[true, false, true, true, true, true, true, false, false, true, true, true, true, false, false, false, false] rfl rfl (take_ofW HT_.out HW_.out (by kernel_rfl)) (fun _ _ _ h => h) (Or.inl ⟨by rfl, ?_⟩) hHeld ?_ ?_
                                          rotate_left
                                          · rintro w' ⟨s0, s1⟩
                                            go_simp
                                            with_reducible rfl
                                          rotate_left
                                          · simp only [Act.put, List.setIfInBounds_toArray, List.set_cons_zero, List.set_cons_succ, i64_w, i32_w]
                                            rfl
                                          refine pure_ (i := 7) (N := some 64) (v := ?_) (a' := ?_) #[true, false, true, true, true, true, true, true, false, true, true, true, true, false, false, false, false] rfl rfl (any_of HT_.out (by kernel_rfl)) (fun _ _ _ h => h) (Or.inl ⟨by rfl, ?_⟩) ?_ ?_
                                          rotate_left
                                          · intro w'
                                            go_simp
                                            with_reducible rfl
                                          rotate_left
                                          · simp only [Act.put, List.setIfInBounds_toArray, List.set_cons_zero, List.set_cons_succ, i64_w, i32_w]
                                            rfl
                                          refine pure_ (i := 8) (N := some 65) (v := ?_) (a' := ?_) #[true, false, true, true, true, true, true, true, true, true, true, true, true, false, false, false, false] rfl rfl (any_of HT_.out (by kernel_rfl)) (fun _ _ _ h => h) (Or.inl ⟨by rfl, ?_⟩) ?_ ?_
                                          rotate_left
                                          · intro w'
                                            go_simp
                                            with_reducible rfl
                                          rotate_left
                                          · simp only [Act.put, List.setIfInBounds_toArray, List.set_cons_zero, List.set_cons_succ, i64_w, i32_w]
                                            rfl
                                          refine take_ (i := 13) (N := some 70) (v := ?_) (a' := ?_) #[true, false, true, true, true, true, true, true, true, true, true, true, true, true, false, false, false] rfl rfl (take_ofW HT_.out HW_.out (by kernel_rfl)) (fun _ _ _ h => h) (Or.inl ⟨by rfl, ?_⟩) hHeld ?_ ?_
                                          rotate_left
                                          · rintro w' ⟨s0, s1⟩
                                            go_simp
                                            with_reducible rfl
                                          rotate_left
                                          · simp only [Act.put, List.setIfInBounds_toArray, List.set_cons_zero, List.set_cons_succ, i64_w, i32_w]
                                            rfl
                                          refine pure_ (i := 14) (N := some 71) (v := ?_) (a' := ?_) #[true, false, true, true, true, true, true, true, true, true, true, true, true, true, true, false, false] rfl rfl (any_of HT_.out (by kernel_rfl)) (fun _ _ _ h => h) (Or.inl ⟨by rfl, ?_⟩) ?_ ?_
                                          rotate_left
                                          · intro w'
                                            go_simp
                                            with_reducible rfl
                                          rotate_left
                                          · simp only [Act.put, List.setIfInBounds_toArray, List.set_cons_zero, List.set_cons_succ, i64_w, i32_w]
                                            rfl
                                          refine pure_ (i := 15) (N := some 72) (v := ?_) (a' := ?_) #[true, false, true, true, true, true, true, true, true, true, true, true, true, true, true, true, false] rfl rfl (any_of HT_.out (by kernel_rfl)) (fun _ _ _ h => h) (Or.inl ⟨by rfl, ?_⟩) ?_ ?_
                                          rotate_left
                                          · intro w'
                                            go_simp
                                            with_reducible rfl
                                          rotate_left
                                          · simp only [Act.put, List.setIfInBounds_toArray, List.set_cons_zero, List.set_cons_succ, i64_w, i32_w]
                                            rfl
                                          refine one_ (i := 1) (N := some 58) #[true, true, true, true, true, true, true, true, true, true, true, true, true, true, true, true, false] rfl rfl (one_of HT_.out (by kernel_rfl)) (by decide) (fun K hK => ?_)
                                          refine goes_ Try.func12 (by kernel_rfl) rfl #[.string (strOfNums ((l0.take ((wrap64 ((ji18) + (Go.bits .or .i64 (wrap64 ((wrap64 (rd l0 (ji8))) * 256)) (wrap64 (rd l0 (ji11)))))) : Int).toNat).drop ((ji18) : Int).toNat))] (by rfl) rfl rfl (by (try simp only [List.map_toArray, List.map_cons, List.map_nil]); first | done | (simp only [hji11, hji18, hji8]; rfl) | rfl | (simp only [List.length_drop, List.length_take]; rfl)) ?_
                                          with_reducible refine (frame_Sum.calls kj13 (strOfNums ((l0.take ((wrap64 ((ji18) + (Go.bits .or .i64 (wrap64 ((wrap64 (rd l0 (ji8))) * 256)) (wrap64 (rd l0 (ji11)))))) : Int).toNat).drop ((ji18) : Int).toNat)) t135 _ A22.out).mono ?_
                                          rintro e w39 ⟨rfl, hb⟩
                                          refine ⟨_, rfl, ?_⟩
                                          have n0_ := Aside0.mk (Kd.R_below (by (with_reducible repeat (first | apply Kd.R_alloc | apply Kd.R_drewN | apply Kd.R_drew)); exact HO_4.out) hb)
                                          have n1_ := Aside0.mk (below_step (by repeat (first | (with_reducible first | exact HB.out | apply below_alloc | apply pw_below_drewN | apply below_drew1) | exact HB.out)) hb)
                                          clear HO_4
                                          clear HB
                                          have HO_4 := n0_
                                          have HB := n1_
                                          clear n0_ n1_
                                          (try clear hb)
                                          (try clear hb2)
                                          (try clear hk)
                                          (try clear hi)
                                          refine hK.out _ _ ⟨((HB.out.cell (World.block_lt_of_cell? w _ hw136_0)).trans hw136_0), ((HB.out.cell (World.block_lt_of_cell? w _ hw137_0)).trans hw137_0)⟩ (fun hHeld => ?_)
                                          clear hK K
                                          refine norm_ (a' := ?_) ?_ ?_
                                          rotate_left
                                          · show Act.put _ (some 58) _ = _
                                            simp only [Act.put, List.setIfInBounds_toArray, List.set_cons_zero, List.set_cons_succ, i64_w, i32_w]
                                            rfl
                                          refine pure_ (i := 16) (N := some 73) (v := ?_) (a' := ?_) #[true, true, true, true, true, true, true, true, true, true, true, true, true, true, true, true, true] rfl rfl (any_of HT_.out (by kernel_rfl)) (fun _ _ _ h => h) (Or.inl ⟨by rfl, ?_⟩) ?_ ?_
                                          rotate_left
                                          · intro w'
                                            go_simp
                                            with_reducible rfl
                                          rotate_left
                                          · simp only [Act.put, List.setIfInBounds_toArray, List.set_cons_zero, List.set_cons_succ, i64_w, i32_w]
                                            rfl
                                          refine done_ (done_of HT_.out (by kernel_rfl)) ?_
                                          try go_wp2
                                          (try (apply wp_goto; (try go_wp2); refine goto_1 ?_))
                                          (try go_step3)
                                          (try go_wp2)
                                          (try (refine jumps_ret ?_))
                                          go_ret2
                                          exact ⟨_, by first | rfl | (simp [errW_none, errW_some] <;> rfl) | (simp only [← hji8, ← hji11, ← hji18, ← hji23, ← hji26]; first | rfl | (simp [errW_none, errW_some] <;> rfl)) | (simp [*, errW_none, errW_some] <;> rfl), by (with_reducible repeat (first | apply Kd.R_alloc | apply Kd.R_drewN | apply Kd.R_drew)); exact HO_4.out, by repeat (first | (with_reducible first | exact HB.out | apply below_alloc | apply pw_below_drewN | apply below_drew1) | exact HB.out)⟩
                                      · rw [if_neg c28] at H
                                        exact absurd H (by simp)
                                    · rw [if_neg c27] at H
                                      exact absurd H (by simp)
                                  · rw [if_neg c25] at H
                                    exact absurd H (by simp)
                                · rw [if_neg c24] at H
                                  exact absurd H (by simp)
                              · rw [if_neg c21] at H
                                exact absurd H (by simp)
                            · rw [if_neg c20] at H
                              exact absurd H (by simp)
                          · rw [if_neg c19] at H
                            exact absurd H (by simp)
                  · rw [if_neg c13] at H
                    exact absurd H (by simp)
                · rw [if_neg c12] at H
                  exact absurd H (by simp)
              · rw [if_neg c10] at H
                exact absurd H (by simp)
            · rw [if_neg c9] at H
              exact absurd H (by simp)

end Go.Proofs.Ytkljljjmphneiaa.PAll
