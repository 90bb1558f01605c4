/- Written by this session's own program (wip/xprint): functions of the Go program as Lean functions, and proofs that the Go code computes them. -/
import Derived.Test.YtlbaoekmnfeogaaPAllx0
import Derived.Test.YtlbaoekmnfeogaaPAllx19
namespace Go.Proofs.Ytlbaoekmnfeogaa.PAll
open Go.RowKit Go.Proofs.YtlbaoekmnfeogaaW.PrintWords Go.Proofs.YtlbaoekmnfeogaaW.PrintLast Go.Proofs.YtlbaoekmnfeogaaW.PrintMore
attribute [local go_sem] max2_int min2_int max_two min_two max_three min_three max_four min_four   -- for this text's walks alone
set_option linter.unusedVariables false
set_option linter.unusedSimpArgs false

/-! ### auguryref04_Compare: function 15 -/
mutual
def auguryref04_Compare.j0 : Nat → Int → Bool → Int → Int → ByteArray → Int → Int → ByteArray → Option (Bool × Int)
  | 0, _, _, _, _, _, _, _, _ => none
  | k + 1, x0, x26, x265000, x265001, x265002, x266000, x266001, x266002 => if x26 = true then (some (false, 1)) else (if x265000 = x266000 then (if x265000 = 3 then (if x0 = 1 then (auguryref04_Compare.j1 k x0 false x265000 x265001 x265002 x266000 x266001 x266002) else (auguryref04_Compare.j1 k x0 (x0 != 2) x265000 x265001 x265002 x266000 x266001 x266002)) else (auguryref04_Compare.j1 k x0 false x265000 x265001 x265002 x266000 x266001 x266002)) else (auguryref04_Compare.j1 k x0 true x265000 x265001 x265002 x266000 x266001 x266002))
def auguryref04_Compare.j1 : Nat → Int → Bool → Int → Int → ByteArray → Int → Int → ByteArray → Option (Bool × Int)
  | 0, _, _, _, _, _, _, _, _ => none
  | k + 1, x0, x44, x265000, x265001, x265002, x266000, x266001, x266002 => if x44 = true then (some (false, 42)) else (if x265001 < x266001 then (auguryref04_Compare.j2 k x0 true x265000 x265001 x265002 x266000 x266001 x266002) else (if x265001 = x266001 then (auguryref04_Compare.j2 k x0 (Op.bytesLess x265002.toList x266002.toList) x265000 x265001 x265002 x266000 x266001 x266002) else (auguryref04_Compare.j2 k x0 false x265000 x265001 x265002 x266000 x266001 x266002)))
def auguryref04_Compare.j2 : Nat → Int → Bool → Int → Int → ByteArray → Int → Int → ByteArray → Option (Bool × Int)
  | 0, _, _, _, _, _, _, _, _ => none
  | k + 1, x0, x8, x265000, x265001, x265002, x266000, x266001, x266002 => if x265001 = x266001 then (auguryref04_Compare.j3 k x0 x8 (x265002.toList == x266002.toList)) else (auguryref04_Compare.j3 k x0 x8 false)
def auguryref04_Compare.j3 : Nat → Int → Bool → Bool → Option (Bool × Int)
  | 0, _, _, _ => none
  | k + 1, x0, x8, x9 => if x0 = 1 then (some (x9, 0)) else (if x0 = 2 then (some (!x9, 0)) else (if x0 = 3 then (some (x8, 0)) else (if x0 = 4 then (if x8 = true then (some (true, 0)) else (some (x9, 0))) else (if x0 = 5 then (if x8 = true then (some (false, 0)) else (some (!x9, 0))) else (if x0 = 6 then (some (!x8, 0)) else (some (false, 0)))))))
end
def auguryref04_Compare.f (k : Nat) (a0 : Int) (a1_0 : Int) (a1_1 : Int) (a1_2 : ByteArray) (a2_0 : Int) (a2_1 : Int) (a2_2 : ByteArray) : Option (Bool × Int) := (auguryref04_Right.f a1_0 a1_1 a1_2).bind fun t266 => (if t266 = true then ((auguryref04_Right.f a2_0 a2_1 a2_2).bind fun t267 => (if t267 = true then (if a0 < 1 then (auguryref04_Compare.j0 k a0 true a1_0 a1_1 a1_2 a2_0 a2_1 a2_2) else (auguryref04_Compare.j0 k a0 (decide (a0 > 6)) a1_0 a1_1 a1_2 a2_0 a2_1 a2_2)) else (auguryref04_Compare.j0 k a0 true a1_0 a1_1 a1_2 a2_0 a2_1 a2_2))) else (auguryref04_Compare.j0 k a0 true a1_0 a1_1 a1_2 a2_0 a2_1 a2_2))
theorem auguryref04_Compare.mono_l : ∀ k, (∀ y0 y1 y2 y3 y4 y5 y6 y7, LeO (auguryref04_Compare.j0 k y0 y1 y2 y3 y4 y5 y6 y7) (auguryref04_Compare.j0 (k + 1) y0 y1 y2 y3 y4 y5 y6 y7)) ∧ (∀ y0 y1 y2 y3 y4 y5 y6 y7, LeO (auguryref04_Compare.j1 k y0 y1 y2 y3 y4 y5 y6 y7) (auguryref04_Compare.j1 (k + 1) y0 y1 y2 y3 y4 y5 y6 y7)) ∧ (∀ y0 y1 y2 y3 y4 y5 y6 y7, LeO (auguryref04_Compare.j2 k y0 y1 y2 y3 y4 y5 y6 y7) (auguryref04_Compare.j2 (k + 1) y0 y1 y2 y3 y4 y5 y6 y7)) ∧ (∀ y0 y1 y2, LeO (auguryref04_Compare.j3 k y0 y1 y2) (auguryref04_Compare.j3 (k + 1) y0 y1 y2))
  | 0 => ⟨fun _ _ _ _ _ _ _ _ r h => by simp [auguryref04_Compare.j0] at h, fun _ _ _ _ _ _ _ _ r h => by simp [auguryref04_Compare.j1] at h, fun _ _ _ _ _ _ _ _ r h => by simp [auguryref04_Compare.j2] at h, fun _ _ _ r h => by simp [auguryref04_Compare.j3] at h⟩
  | k + 1 => by
    obtain ⟨ih0, ih1, ih2, ih3⟩ := auguryref04_Compare.mono_l k
    refine ⟨?_, ?_, ?_, ?_⟩
    · intro y0 y1 y2 y3 y4 y5 y6 y7
      unfold auguryref04_Compare.j0
      repeat' first
      | (with_reducible exact ih0 _ _ _ _ _ _ _ _)
      | (with_reducible exact ih1 _ _ _ _ _ _ _ _)
      | (with_reducible exact ih2 _ _ _ _ _ _ _ _)
      | (with_reducible exact ih3 _ _ _)
      | (with_reducible exact LeO.refl _)
      | (with_reducible exact LeO.none _)
      | (with_reducible refine LeO.ite ?_ ?_)
      | (with_reducible refine LeO.bind ?_ (fun _ => ?_))
      | exact ih0 _ _ _ _ _ _ _ _
      | exact ih1 _ _ _ _ _ _ _ _
      | exact ih2 _ _ _ _ _ _ _ _
      | exact ih3 _ _ _
      | exact LeO.none _
      | refine LeO.ite ?_ ?_
      | refine LeO.bind ?_ (fun _ => ?_)
    · intro y0 y1 y2 y3 y4 y5 y6 y7
      unfold auguryref04_Compare.j1
      repeat' first
      | (with_reducible exact ih0 _ _ _ _ _ _ _ _)
      | (with_reducible exact ih1 _ _ _ _ _ _ _ _)
      | (with_reducible exact ih2 _ _ _ _ _ _ _ _)
      | (with_reducible exact ih3 _ _ _)
      | (with_reducible exact LeO.refl _)
      | (with_reducible exact LeO.none _)
      | (with_reducible refine LeO.ite ?_ ?_)
      | (with_reducible refine LeO.bind ?_ (fun _ => ?_))
      | exact ih0 _ _ _ _ _ _ _ _
      | exact ih1 _ _ _ _ _ _ _ _
      | exact ih2 _ _ _ _ _ _ _ _
      | exact ih3 _ _ _
      | exact LeO.none _
      | refine LeO.ite ?_ ?_
      | refine LeO.bind ?_ (fun _ => ?_)
    · intro y0 y1 y2 y3 y4 y5 y6 y7
      unfold auguryref04_Compare.j2
      repeat' first
      | (with_reducible exact ih0 _ _ _ _ _ _ _ _)
      | (with_reducible exact ih1 _ _ _ _ _ _ _ _)
      | (with_reducible exact ih2 _ _ _ _ _ _ _ _)
      | (with_reducible exact ih3 _ _ _)
      | (with_reducible exact LeO.refl _)
      | (with_reducible exact LeO.none _)
      | (with_reducible refine LeO.ite ?_ ?_)
      | (with_reducible refine LeO.bind ?_ (fun _ => ?_))
      | exact ih0 _ _ _ _ _ _ _ _
      | exact ih1 _ _ _ _ _ _ _ _
      | exact ih2 _ _ _ _ _ _ _ _
      | exact ih3 _ _ _
      | exact LeO.none _
      | refine LeO.ite ?_ ?_
      | refine LeO.bind ?_ (fun _ => ?_)
    · intro y0 y1 y2
      unfold auguryref04_Compare.j3
      repeat' first
      | (with_reducible exact ih0 _ _ _ _ _ _ _ _)
      | (with_reducible exact ih1 _ _ _ _ _ _ _ _)
      | (with_reducible exact ih2 _ _ _ _ _ _ _ _)
      | (with_reducible exact ih3 _ _ _)
      | (with_reducible exact LeO.refl _)
      | (with_reducible exact LeO.none _)
      | (with_reducible refine LeO.ite ?_ ?_)
      | (with_reducible refine LeO.bind ?_ (fun _ => ?_))
      | exact ih0 _ _ _ _ _ _ _ _
      | exact ih1 _ _ _ _ _ _ _ _
      | exact ih2 _ _ _ _ _ _ _ _
      | exact ih3 _ _ _
      | exact LeO.none _
      | refine LeO.ite ?_ ?_
      | refine LeO.bind ?_ (fun _ => ?_)
theorem auguryref04_Compare.mono : ∀ a0 a1 a2 a3 a4 a5 a6 k, LeO (auguryref04_Compare.f k a0 a1 a2 a3 a4 a5 a6) (auguryref04_Compare.f (k + 1) a0 a1 a2 a3 a4 a5 a6) := by
  intro a0 a1 a2 a3 a4 a5 a6 k
  obtain ⟨ih0, ih1, ih2, ih3⟩ := auguryref04_Compare.mono_l k
  unfold auguryref04_Compare.f
  repeat' first
      | (with_reducible exact ih0 _ _ _ _ _ _ _ _)
      | (with_reducible exact ih1 _ _ _ _ _ _ _ _)
      | (with_reducible exact ih2 _ _ _ _ _ _ _ _)
      | (with_reducible exact ih3 _ _ _)
      | (with_reducible exact LeO.refl _)
      | (with_reducible exact LeO.none _)
      | (with_reducible refine LeO.ite ?_ ?_)
      | (with_reducible refine LeO.bind ?_ (fun _ => ?_))
      | exact ih0 _ _ _ _ _ _ _ _
      | exact ih1 _ _ _ _ _ _ _ _
      | exact ih2 _ _ _ _ _ _ _ _
      | exact ih3 _ _ _
      | exact LeO.none _
      | refine LeO.ite ?_ ?_
      | refine LeO.bind ?_ (fun _ => ?_)
set_option maxHeartbeats 8000000 in
set_option maxRecDepth 100000 in
theorem auguryref04_Compare.calls (k : Nat) (a0 : Int) (a1_0 : Int) (a1_1 : Int) (a1_2 : ByteArray) (a2_0 : Int) (a2_1 : Int) (a2_2 : ByteArray) (r1 : Bool) (r2 : Int) (w : World) (h : auguryref04_Compare.f k a0 a1_0 a1_1 a1_2 a2_0 a2_1 a2_2 = some (r1, r2)) :
    Calls Try.prog 15 #[.int .i64 a0, .agg #[.int .i64 a1_0, .int .i64 a1_1, .string a1_2], .agg #[.int .i64 a2_0, .int .i64 a2_1, .string a2_2]] w fun e w' => e = .returned (.tuple #[.bool r1, .int .i64 r2]) ∧ Below w.heap.size w w' := by
  have hu23 := Try.underlying23
  have HB := Aside0.mk (Below.refl w.heap.size w)
  have H : ((auguryref04_Right.f a1_0 a1_1 a1_2).bind fun t266 => (if t266 = true then ((auguryref04_Right.f a2_0 a2_1 a2_2).bind fun t267 => (if t267 = true then (if a0 < 1 then (auguryref04_Compare.j0 k a0 true a1_0 a1_1 a1_2 a2_0 a2_1 a2_2) else (auguryref04_Compare.j0 k a0 (decide (a0 > 6)) a1_0 a1_1 a1_2 a2_0 a2_1 a2_2)) else (auguryref04_Compare.j0 k a0 true a1_0 a1_1 a1_2 a2_0 a2_1 a2_2))) else (auguryref04_Compare.j0 k a0 true a1_0 a1_1 a1_2 a2_0 a2_1 a2_2))) = some (r1, r2) := h
  clear h
  have HC4 := Aside0.mk H
  clear H
  go_enter Try.func15, Try.ntmps15
  go_upto_region 1 with (first | ((with_reducible refine gate_dst (N := 4) rfl ?_); refine box_event ?hg (N := 4) ?hd (cs := #[.int .i64 a1_0, .int .i64 a1_1, .string a1_2]) (t := 23) ?hr ?_; (case hd => rfl); (case hg => rfl); (case hr => first | (go_simp; done) | (go_simp; rfl)); intro gb264 hg w5 hbox hb; have n0_ := Aside0.mk (below_step (by repeat (first | (with_reducible first | exact HB.out | apply below_alloc | apply pw_below_drewN | apply below_drew1) | exact HB.out)) hb); have n1_ := Aside0.mk (hbox); have n2_ := Aside0.mk ((by rw [hg]; exact (below_size (by repeat (first | (with_reducible first | exact HB.out | apply below_alloc | apply pw_below_drewN | apply below_drew1) | exact HB.out))) : w.heap.size ≤ gb264)); have n3_ := Aside0.mk ((by rw [hg]; exact (below_size (by repeat (first | (with_reducible first | exact HB.out | apply below_alloc | apply pw_below_drewN | apply below_drew1) | exact HB.out))) : w.heap.size ≤ gb264)); clear HB; have HB := n0_; have BK264 := n1_; have GW264 := n2_; have GE264 := n3_; clear n0_ n1_ n2_ n3_; clear hb hbox hg) | ((with_reducible refine gate_dst (N := 5) rfl ?_); refine box_event ?hg (N := 5) ?hd (cs := #[.int .i64 a2_0, .int .i64 a2_1, .string a2_2]) (t := 23) ?hr ?_; (case hd => rfl); (case hg => rfl); (case hr => first | (go_simp; done) | (go_simp; rfl)); intro gb265 hg w6 hbox hb; have n0_ := Aside0.mk (blk_below (g := gb264) (o := .cells #[.int .i64 a1_0, .int .i64 a1_1, .string a1_2] 23 (0, 0)) (by (with_reducible repeat (first | refine blk_drewN ?_ _ | refine blk_drew ?_ | refine blk_alloc ?_ _)); exact BK264.out) hb); have n1_ := Aside0.mk (below_step (by repeat (first | (with_reducible first | exact HB.out | apply below_alloc | apply pw_below_drewN | apply below_drew1 | refine below_set ?_ GE264.out) | exact HB.out)) hb); have n2_ := Aside0.mk (hbox); have n3_ := Aside0.mk ((by rw [hg]; exact (below_size (by repeat (first | (with_reducible first | exact HB.out | apply below_alloc | apply pw_below_drewN | apply below_drew1 | refine below_set ?_ GE264.out) | exact HB.out))) : w.heap.size ≤ gb265)); have n4_ := Aside0.mk ((by rw [hg]; exact (below_size (by repeat (first | (with_reducible first | exact HB.out | apply below_alloc | apply pw_below_drewN | apply below_drew1 | refine below_set ?_ GE264.out) | exact HB.out))) : w.heap.size ≤ gb265)); have n5_ := Aside0.mk ((by rw [hg]; exact Nat.ne_of_lt (blk_lt (g := gb264) (o := .cells #[.int .i64 a1_0, .int .i64 a1_1, .string a1_2] 23 (0, 0)) (by (with_reducible repeat (first | refine blk_drewN ?_ _ | refine blk_drew ?_ | refine blk_alloc ?_ _)); exact BK264.out)) : gb264 ≠ gb265)); have n6_ := Aside0.mk ((by rw [hg]; exact Nat.ne_of_gt (blk_lt (g := gb264) (o := .cells #[.int .i64 a1_0, .int .i64 a1_1, .string a1_2] 23 (0, 0)) (by (with_reducible repeat (first | refine blk_drewN ?_ _ | refine blk_drew ?_ | refine blk_alloc ?_ _)); exact BK264.out)) : gb265 ≠ gb264)); clear BK264; clear HB; have BK264 := n0_; have HB := n1_; have BK265 := n2_; have GW265 := n3_; have GE265 := n4_; have NB264_265 := n5_; have NB265_264 := n6_; clear n0_ n1_ n2_ n3_ n4_ n5_ n6_; clear hb hbox hg))
  (try simp only [Act.put, List.setIfInBounds_toArray, List.set_cons_zero, List.set_cons_succ])
  go_cut [26] (fun v26 wc => ∃ (kq : Nat) (x26_3 : Bool), v26 = .bool x26_3 ∧ Aside0 (auguryref04_Compare.j0 kq a0 x26_3 a1_0 a1_1 a1_2 a2_0 a2_1 a2_2 = some (r1, r2)) ∧ Aside0 (kq ≤ k) ∧ Aside0 (wc.heap[gb264]? = some (.cells #[.int .i64 a1_0, .int .i64 a1_1, .string a1_2] 23 (0, 0))) ∧ Aside0 (wc.heap[gb265]? = some (.cells #[.int .i64 a2_0, .int .i64 a2_1, .string a2_2] 23 (0, 0))) ∧ Aside0 (Below w.heap.size w wc))
  case first =>
    have H := HC4.out
    clear HC4
    replace H := Option.bind_eq_some_iff.mp H
    obtain ⟨t266, A70, H⟩ := H
    replace H : (if t266 = true then ((auguryref04_Right.f a2_0 a2_1 a2_2).bind fun t267 => (if t267 = true then (if a0 < 1 then (auguryref04_Compare.j0 k a0 true a1_0 a1_1 a1_2 a2_0 a2_1 a2_2) else (auguryref04_Compare.j0 k a0 (decide (a0 > 6)) a1_0 a1_1 a1_2 a2_0 a2_1 a2_2)) else (auguryref04_Compare.j0 k a0 true a1_0 a1_1 a1_2 a2_0 a2_1 a2_2))) else (auguryref04_Compare.j0 k a0 true a1_0 a1_1 a1_2 a2_0 a2_1 a2_2)) = some (r1, r2) := H
    have A7 := Aside0.mk A70
    clear A70
    by_cases c8 : t266 = true
    · subst c8
      have H1 : ((auguryref04_Right.f a2_0 a2_1 a2_2).bind fun t267 => (if t267 = true then (if a0 < 1 then (auguryref04_Compare.j0 k a0 true a1_0 a1_1 a1_2 a2_0 a2_1 a2_2) else (auguryref04_Compare.j0 k a0 (decide (a0 > 6)) a1_0 a1_1 a1_2 a2_0 a2_1 a2_2)) else (auguryref04_Compare.j0 k a0 true a1_0 a1_1 a1_2 a2_0 a2_1 a2_2))) = some (r1, r2) := by rw [if_pos rfl] at H; exact H
      clear H
      have H := H1
      clear H1
      replace H := Option.bind_eq_some_iff.mp H
      obtain ⟨t267, A90, H⟩ := H
      replace H : (if t267 = true then (if a0 < 1 then (auguryref04_Compare.j0 k a0 true a1_0 a1_1 a1_2 a2_0 a2_1 a2_2) else (auguryref04_Compare.j0 k a0 (decide (a0 > 6)) a1_0 a1_1 a1_2 a2_0 a2_1 a2_2)) else (auguryref04_Compare.j0 k a0 true a1_0 a1_1 a1_2 a2_0 a2_1 a2_2)) = some (r1, r2) := H
      have A9 := Aside0.mk A90
      clear A90
      by_cases c10 : t267 = true
      · subst c10
        have H1 : (if a0 < 1 then (auguryref04_Compare.j0 k a0 true a1_0 a1_1 a1_2 a2_0 a2_1 a2_2) else (auguryref04_Compare.j0 k a0 (decide (a0 > 6)) a1_0 a1_1 a1_2 a2_0 a2_1 a2_2)) = some (r1, r2) := by rw [if_pos rfl] at H; exact H
        clear H
        have H := H1
        clear H1
        by_cases c11 : a0 < 1
        · rw [if_pos c11] at H
          have c11b0 : decide (a0 < 1) = true := decide_eq_true c11
          clear c11
          (first | rw [c11b0] | (simp only [i64_w, i32_w]; rw [c11b0]) | rw [c11b1] | skip)
          have H' := Aside0.mk H
          clear H
          have hnb12 := NB264_265.out
          have hnc12 := NB265_264.out
          have hcz13_0 : w6.cell? ⟨gb264, 0, none⟩ = some (.int .i64 a1_0) := (blk_cell BK264.out 0).trans rfl
          have hcz13_1 : w6.cell? ⟨gb264, 1, none⟩ = some (.int .i64 a1_1) := (blk_cell BK264.out 1).trans rfl
          have hcz13_2 : w6.cell? ⟨gb264, 2, none⟩ = some (.string a1_2) := (blk_cell BK264.out 2).trans rfl
          have hfz13_0 := blk_frozen BK264.out 0
          have hfz13_1 := blk_frozen BK264.out 1
          have hfz13_2 := blk_frozen BK264.out 2
          go_wp2_with (first | ((with_reducible refine gate_callee (f := 17) rfl ?_); refine goesL_ (some 12) rfl rfl Try.func17 (by kernel_rfl) rfl #[.agg #[.int .i64 a1_0, .int .i64 a1_1, .string a1_2]] rfl (by (try simp only [List.map_toArray, List.map_cons, List.map_nil]); first | done | rfl | (simp only [List.length_drop, List.length_take]; rfl)) ?_; (with_reducible refine (auguryref04_Right.calls a1_0 a1_1 a1_2 true _ A7.out).mono ?_); rintro e w14 ⟨rfl, hb⟩; refine ⟨_, rfl, ?_⟩; have n0_ := Aside0.mk (blk_below (g := gb264) (o := .cells #[.int .i64 a1_0, .int .i64 a1_1, .string a1_2] 23 (0, 0)) (by (with_reducible repeat (first | refine blk_drewN ?_ _ | refine blk_drew ?_ | refine blk_alloc ?_ _)); exact BK264.out) hb); have n1_ := Aside0.mk (blk_below (g := gb265) (o := .cells #[.int .i64 a2_0, .int .i64 a2_1, .string a2_2] 23 (0, 0)) (by (with_reducible repeat (first | refine blk_drewN ?_ _ | refine blk_drew ?_ | refine blk_alloc ?_ _)); exact BK265.out) hb); have n2_ := Aside0.mk (below_step (by repeat (first | (with_reducible first | exact HB.out | apply below_alloc | apply pw_below_drewN | apply below_drew1 | refine below_set ?_ GE264.out | refine below_set ?_ GE265.out) | exact HB.out)) hb); clear BK264; clear BK265; clear HB; have BK264 := n0_; have BK265 := n1_; have HB := n2_; clear n0_ n1_ n2_; (try clear hb); (try clear hb2); (try clear hk); (try clear hi); have hcz15_0 : w14.cell? ⟨gb265, 0, none⟩ = some (.int .i64 a2_0) := (blk_cell BK265.out 0).trans rfl; have hcz15_1 : w14.cell? ⟨gb265, 1, none⟩ = some (.int .i64 a2_1) := (blk_cell BK265.out 1).trans rfl; have hcz15_2 : w14.cell? ⟨gb265, 2, none⟩ = some (.string a2_2) := (blk_cell BK265.out 2).trans rfl; have hfz15_0 := blk_frozen BK265.out 0; have hfz15_1 := blk_frozen BK265.out 1; have hfz15_2 := blk_frozen BK265.out 2) | (go_at_call 17; (with_reducible refine (auguryref04_Right.calls a2_0 a2_1 a2_2 true _ A9.out).mono ?_); rintro e w16 ⟨rfl, hb⟩; have n0_ := Aside0.mk (blk_below (g := gb264) (o := .cells #[.int .i64 a1_0, .int .i64 a1_1, .string a1_2] 23 (0, 0)) (by (with_reducible repeat (first | refine blk_drewN ?_ _ | refine blk_drew ?_ | refine blk_alloc ?_ _)); exact BK264.out) hb); have n1_ := Aside0.mk (blk_below (g := gb265) (o := .cells #[.int .i64 a2_0, .int .i64 a2_1, .string a2_2] 23 (0, 0)) (by (with_reducible repeat (first | refine blk_drewN ?_ _ | refine blk_drew ?_ | refine blk_alloc ?_ _)); exact BK265.out) hb); have n2_ := Aside0.mk (below_step (by repeat (first | (with_reducible first | exact HB.out | apply below_alloc | apply pw_below_drewN | apply below_drew1 | refine below_set ?_ GE264.out | refine below_set ?_ GE265.out) | exact HB.out)) hb); clear BK264; clear BK265; clear HB; have BK264 := n0_; have BK265 := n1_; have HB := n2_; clear n0_ n1_ n2_; (try clear hb); (try clear hb2); (try clear hk); (try clear hi)))
          go_meet
          case rel => exact ⟨_, (true), (by first | rfl | (simp; done) | (simp [*]; done) | grind), H', ⟨by first | omega | exact Nat.le_refl _⟩, ⟨by (with_reducible repeat (first | refine blk_drewN ?_ _ | refine blk_drew ?_ | refine blk_alloc ?_ _)); exact BK264.out⟩, ⟨by (with_reducible repeat (first | refine blk_drewN ?_ _ | refine blk_drew ?_ | refine blk_alloc ?_ _)); exact BK265.out⟩, ⟨by repeat (first | (with_reducible first | exact HB.out | apply below_alloc | apply pw_below_drewN | apply below_drew1 | refine below_set ?_ GE264.out | refine below_set ?_ GE265.out) | exact HB.out)⟩⟩
        · rw [if_neg c11] at H
          have c11b0 : decide (a0 < 1) = false := decide_eq_false c11
          clear c11
          (first | rw [c11b0] | (simp only [i64_w, i32_w]; rw [c11b0]) | rw [c11b1] | skip)
          have H' := Aside0.mk H
          clear H
          have hnb17 := NB264_265.out
          have hnc17 := NB265_264.out
          have hcz18_0 : w6.cell? ⟨gb264, 0, none⟩ = some (.int .i64 a1_0) := (blk_cell BK264.out 0).trans rfl
          have hcz18_1 : w6.cell? ⟨gb264, 1, none⟩ = some (.int .i64 a1_1) := (blk_cell BK264.out 1).trans rfl
          have hcz18_2 : w6.cell? ⟨gb264, 2, none⟩ = some (.string a1_2) := (blk_cell BK264.out 2).trans rfl
          have hfz18_0 := blk_frozen BK264.out 0
          have hfz18_1 := blk_frozen BK264.out 1
          have hfz18_2 := blk_frozen BK264.out 2
          go_wp2_with (first | ((with_reducible refine gate_callee (f := 17) rfl ?_); refine goesL_ (some 12) rfl rfl Try.func17 (by kernel_rfl) rfl #[.agg #[.int .i64 a1_0, .int .i64 a1_1, .string a1_2]] rfl (by (try simp only [List.map_toArray, List.map_cons, List.map_nil]); first | done | rfl | (simp only [List.length_drop, List.length_take]; rfl)) ?_; (with_reducible refine (auguryref04_Right.calls a1_0 a1_1 a1_2 true _ A7.out).mono ?_); rintro e w19 ⟨rfl, hb⟩; refine ⟨_, rfl, ?_⟩; have n0_ := Aside0.mk (blk_below (g := gb264) (o := .cells #[.int .i64 a1_0, .int .i64 a1_1, .string a1_2] 23 (0, 0)) (by (with_reducible repeat (first | refine blk_drewN ?_ _ | refine blk_drew ?_ | refine blk_alloc ?_ _)); exact BK264.out) hb); have n1_ := Aside0.mk (blk_below (g := gb265) (o := .cells #[.int .i64 a2_0, .int .i64 a2_1, .string a2_2] 23 (0, 0)) (by (with_reducible repeat (first | refine blk_drewN ?_ _ | refine blk_drew ?_ | refine blk_alloc ?_ _)); exact BK265.out) hb); have n2_ := Aside0.mk (below_step (by repeat (first | (with_reducible first | exact HB.out | apply below_alloc | apply pw_below_drewN | apply below_drew1 | refine below_set ?_ GE264.out | refine below_set ?_ GE265.out) | exact HB.out)) hb); clear BK264; clear BK265; clear HB; have BK264 := n0_; have BK265 := n1_; have HB := n2_; clear n0_ n1_ n2_; (try clear hb); (try clear hb2); (try clear hk); (try clear hi); have hcz20_0 : w19.cell? ⟨gb265, 0, none⟩ = some (.int .i64 a2_0) := (blk_cell BK265.out 0).trans rfl; have hcz20_1 : w19.cell? ⟨gb265, 1, none⟩ = some (.int .i64 a2_1) := (blk_cell BK265.out 1).trans rfl; have hcz20_2 : w19.cell? ⟨gb265, 2, none⟩ = some (.string a2_2) := (blk_cell BK265.out 2).trans rfl; have hfz20_0 := blk_frozen BK265.out 0; have hfz20_1 := blk_frozen BK265.out 1; have hfz20_2 := blk_frozen BK265.out 2) | (go_at_call 17; (with_reducible refine (auguryref04_Right.calls a2_0 a2_1 a2_2 true _ A9.out).mono ?_); rintro e w21 ⟨rfl, hb⟩; have n0_ := Aside0.mk (blk_below (g := gb264) (o := .cells #[.int .i64 a1_0, .int .i64 a1_1, .string a1_2] 23 (0, 0)) (by (with_reducible repeat (first | refine blk_drewN ?_ _ | refine blk_drew ?_ | refine blk_alloc ?_ _)); exact BK264.out) hb); have n1_ := Aside0.mk (blk_below (g := gb265) (o := .cells #[.int .i64 a2_0, .int .i64 a2_1, .string a2_2] 23 (0, 0)) (by (with_reducible repeat (first | refine blk_drewN ?_ _ | refine blk_drew ?_ | refine blk_alloc ?_ _)); exact BK265.out) hb); have n2_ := Aside0.mk (below_step (by repeat (first | (with_reducible first | exact HB.out | apply below_alloc | apply pw_below_drewN | apply below_drew1 | refine below_set ?_ GE264.out | refine below_set ?_ GE265.out) | exact HB.out)) hb); clear BK264; clear BK265; clear HB; have BK264 := n0_; have BK265 := n1_; have HB := n2_; clear n0_ n1_ n2_; (try clear hb); (try clear hb2); (try clear hk); (try clear hi)))
          go_meet
          case rel => exact ⟨_, (decide (a0 > 6)), (by first | rfl | (simp; done) | (simp [*]; done) | grind), H', ⟨by first | omega | exact Nat.le_refl _⟩, ⟨by (with_reducible repeat (first | refine blk_drewN ?_ _ | refine blk_drew ?_ | refine blk_alloc ?_ _)); exact BK264.out⟩, ⟨by (with_reducible repeat (first | refine blk_drewN ?_ _ | refine blk_drew ?_ | refine blk_alloc ?_ _)); exact BK265.out⟩, ⟨by repeat (first | (with_reducible first | exact HB.out | apply below_alloc | apply pw_below_drewN | apply below_drew1 | refine below_set ?_ GE264.out | refine below_set ?_ GE265.out) | exact HB.out)⟩⟩
      · replace c10 := Bool.eq_false_iff.mpr c10
        subst c10
        have H1 : (auguryref04_Compare.j0 k a0 true a1_0 a1_1 a1_2 a2_0 a2_1 a2_2) = some (r1, r2) := by rw [if_neg (show ¬ (false = true) by decide)] at H; exact H
        clear H
        have H := H1
        clear H1
        have H' := Aside0.mk H
        clear H
        have hnb22 := NB264_265.out
        have hnc22 := NB265_264.out
        have hcz23_0 : w6.cell? ⟨gb264, 0, none⟩ = some (.int .i64 a1_0) := (blk_cell BK264.out 0).trans rfl
        have hcz23_1 : w6.cell? ⟨gb264, 1, none⟩ = some (.int .i64 a1_1) := (blk_cell BK264.out 1).trans rfl
        have hcz23_2 : w6.cell? ⟨gb264, 2, none⟩ = some (.string a1_2) := (blk_cell BK264.out 2).trans rfl
        have hfz23_0 := blk_frozen BK264.out 0
        have hfz23_1 := blk_frozen BK264.out 1
        have hfz23_2 := blk_frozen BK264.out 2
        go_wp2_with (first | ((with_reducible refine gate_callee (f := 17) rfl ?_); refine goesL_ (some 12) rfl rfl Try.func17 (by kernel_rfl) rfl #[.agg #[.int .i64 a1_0, .int .i64 a1_1, .string a1_2]] rfl (by (try simp only [List.map_toArray, List.map_cons, List.map_nil]); first | done | rfl | (simp only [List.length_drop, List.length_take]; rfl)) ?_; (with_reducible refine (auguryref04_Right.calls a1_0 a1_1 a1_2 true _ A7.out).mono ?_); rintro e w24 ⟨rfl, hb⟩; refine ⟨_, rfl, ?_⟩; have n0_ := Aside0.mk (blk_below (g := gb264) (o := .cells #[.int .i64 a1_0, .int .i64 a1_1, .string a1_2] 23 (0, 0)) (by (with_reducible repeat (first | refine blk_drewN ?_ _ | refine blk_drew ?_ | refine blk_alloc ?_ _)); exact BK264.out) hb); have n1_ := Aside0.mk (blk_below (g := gb265) (o := .cells #[.int .i64 a2_0, .int .i64 a2_1, .string a2_2] 23 (0, 0)) (by (with_reducible repeat (first | refine blk_drewN ?_ _ | refine blk_drew ?_ | refine blk_alloc ?_ _)); exact BK265.out) hb); have n2_ := Aside0.mk (below_step (by repeat (first | (with_reducible first | exact HB.out | apply below_alloc | apply pw_below_drewN | apply below_drew1 | refine below_set ?_ GE264.out | refine below_set ?_ GE265.out) | exact HB.out)) hb); clear BK264; clear BK265; clear HB; have BK264 := n0_; have BK265 := n1_; have HB := n2_; clear n0_ n1_ n2_; (try clear hb); (try clear hb2); (try clear hk); (try clear hi); have hcz25_0 : w24.cell? ⟨gb265, 0, none⟩ = some (.int .i64 a2_0) := (blk_cell BK265.out 0).trans rfl; have hcz25_1 : w24.cell? ⟨gb265, 1, none⟩ = some (.int .i64 a2_1) := (blk_cell BK265.out 1).trans rfl; have hcz25_2 : w24.cell? ⟨gb265, 2, none⟩ = some (.string a2_2) := (blk_cell BK265.out 2).trans rfl; have hfz25_0 := blk_frozen BK265.out 0; have hfz25_1 := blk_frozen BK265.out 1; have hfz25_2 := blk_frozen BK265.out 2) | (go_at_call 17; (with_reducible refine (auguryref04_Right.calls a2_0 a2_1 a2_2 false _ A9.out).mono ?_); rintro e w26 ⟨rfl, hb⟩; have n0_ := Aside0.mk (blk_below (g := gb264) (o := .cells #[.int .i64 a1_0, .int .i64 a1_1, .string a1_2] 23 (0, 0)) (by (with_reducible repeat (first | refine blk_drewN ?_ _ | refine blk_drew ?_ | refine blk_alloc ?_ _)); exact BK264.out) hb); have n1_ := Aside0.mk (blk_below (g := gb265) (o := .cells #[.int .i64 a2_0, .int .i64 a2_1, .string a2_2] 23 (0, 0)) (by (with_reducible repeat (first | refine blk_drewN ?_ _ | refine blk_drew ?_ | refine blk_alloc ?_ _)); exact BK265.out) hb); have n2_ := Aside0.mk (below_step (by repeat (first | (with_reducible first | exact HB.out | apply below_alloc | apply pw_below_drewN | apply below_drew1 | refine below_set ?_ GE264.out | refine below_set ?_ GE265.out) | exact HB.out)) hb); clear BK264; clear BK265; clear HB; have BK264 := n0_; have BK265 := n1_; have HB := n2_; clear n0_ n1_ n2_; (try clear hb); (try clear hb2); (try clear hk); (try clear hi)))
        go_meet
        case rel => exact ⟨_, (true), (by first | rfl | (simp; done) | (simp [*]; done) | grind), H', ⟨by first | omega | exact Nat.le_refl _⟩, ⟨by (with_reducible repeat (first | refine blk_drewN ?_ _ | refine blk_drew ?_ | refine blk_alloc ?_ _)); exact BK264.out⟩, ⟨by (with_reducible repeat (first | refine blk_drewN ?_ _ | refine blk_drew ?_ | refine blk_alloc ?_ _)); exact BK265.out⟩, ⟨by repeat (first | (with_reducible first | exact HB.out | apply below_alloc | apply pw_below_drewN | apply below_drew1 | refine below_set ?_ GE264.out | refine below_set ?_ GE265.out) | exact HB.out)⟩⟩
    · replace c8 := Bool.eq_false_iff.mpr c8
      subst c8
      have H1 : (auguryref04_Compare.j0 k a0 true a1_0 a1_1 a1_2 a2_0 a2_1 a2_2) = some (r1, r2) := by rw [if_neg (show ¬ (false = true) by decide)] at H; exact H
      clear H
      have H := H1
      clear H1
      have H' := Aside0.mk H
      clear H
      have hnb27 := NB264_265.out
      have hnc27 := NB265_264.out
      have hcz28_0 : w6.cell? ⟨gb264, 0, none⟩ = some (.int .i64 a1_0) := (blk_cell BK264.out 0).trans rfl
      have hcz28_1 : w6.cell? ⟨gb264, 1, none⟩ = some (.int .i64 a1_1) := (blk_cell BK264.out 1).trans rfl
      have hcz28_2 : w6.cell? ⟨gb264, 2, none⟩ = some (.string a1_2) := (blk_cell BK264.out 2).trans rfl
      have hfz28_0 := blk_frozen BK264.out 0
      have hfz28_1 := blk_frozen BK264.out 1
      have hfz28_2 := blk_frozen BK264.out 2
      go_wp2_with (first | ((with_reducible refine gate_callee (f := 17) rfl ?_); refine goesL_ (some 12) rfl rfl Try.func17 (by kernel_rfl) rfl #[.agg #[.int .i64 a1_0, .int .i64 a1_1, .string a1_2]] rfl (by (try simp only [List.map_toArray, List.map_cons, List.map_nil]); first | done | rfl | (simp only [List.length_drop, List.length_take]; rfl)) ?_; (with_reducible refine (auguryref04_Right.calls a1_0 a1_1 a1_2 false _ A7.out).mono ?_); rintro e w29 ⟨rfl, hb⟩; refine ⟨_, rfl, ?_⟩; have n0_ := Aside0.mk (blk_below (g := gb264) (o := .cells #[.int .i64 a1_0, .int .i64 a1_1, .string a1_2] 23 (0, 0)) (by (with_reducible repeat (first | refine blk_drewN ?_ _ | refine blk_drew ?_ | refine blk_alloc ?_ _)); exact BK264.out) hb); have n1_ := Aside0.mk (blk_below (g := gb265) (o := .cells #[.int .i64 a2_0, .int .i64 a2_1, .string a2_2] 23 (0, 0)) (by (with_reducible repeat (first | refine blk_drewN ?_ _ | refine blk_drew ?_ | refine blk_alloc ?_ _)); exact BK265.out) hb); have n2_ := Aside0.mk (below_step (by repeat (first | (with_reducible first | exact HB.out | apply below_alloc | apply pw_below_drewN | apply below_drew1 | refine below_set ?_ GE264.out | refine below_set ?_ GE265.out) | exact HB.out)) hb); clear BK264; clear BK265; clear HB; have BK264 := n0_; have BK265 := n1_; have HB := n2_; clear n0_ n1_ n2_; (try clear hb); (try clear hb2); (try clear hk); (try clear hi)))
      go_meet
      case rel => exact ⟨_, (true), (by first | rfl | (simp; done) | (simp [*]; done) | grind), H', ⟨by first | omega | exact Nat.le_refl _⟩, ⟨by (with_reducible repeat (first | refine blk_drewN ?_ _ | refine blk_drew ?_ | refine blk_alloc ?_ _)); exact BK264.out⟩, ⟨by (with_reducible repeat (first | refine blk_drewN ?_ _ | refine blk_drew ?_ | refine blk_alloc ?_ _)); exact BK265.out⟩, ⟨by repeat (first | (with_reducible first | exact HB.out | apply below_alloc | apply pw_below_drewN | apply below_drew1 | refine below_set ?_ GE264.out | refine below_set ?_ GE265.out) | exact HB.out)⟩⟩
  case rest =>
    clear HC4
    try clear c1
    try clear c2
    try clear p2
    try clear c8
    try clear c10
    try clear c11
    try clear c11b0
    try clear c11b1
    try clear c12
    try clear c15
    try clear c17
    try clear c22
    try clear c27
    try clear hcz13_0
    try clear hcz13_1
    try clear hcz13_2
    try clear hcz15_0
    try clear hcz15_1
    try clear hcz15_2
    try clear hcz18_0
    try clear hcz18_1
    try clear hcz18_2
    try clear hcz20_0
    try clear hcz20_1
    try clear hcz20_2
    try clear hcz23_0
    try clear hcz23_1
    try clear hcz23_2
    try clear hcz25_0
    try clear hcz25_1
    try clear hcz25_2
    try clear hcz28_0
    try clear hcz28_1
    try clear hcz28_2
    try clear hfz13_0
    try clear hfz13_1
    try clear hfz13_2
    try clear hfz15_0
    try clear hfz15_1
    try clear hfz15_2
    try clear hfz18_0
    try clear hfz18_1
    try clear hfz18_2
    try clear hfz20_0
    try clear hfz20_1
    try clear hfz20_2
    try clear hfz23_0
    try clear hfz23_1
    try clear hfz23_2
    try clear hfz25_0
    try clear hfz25_1
    try clear hfz25_2
    try clear hfz28_0
    try clear hfz28_1
    try clear hfz28_2
    obtain ⟨kq, x26_3, rfl, HA, HJ3, BK264, BK265, HB⟩ := hcut
    cases kq with
    | zero => exact absurd HA.out (by simp [auguryref04_Compare.j0])
    | succ kj3 =>
      have H := HA.out
      clear HA
      simp only [auguryref04_Compare.j0] at H
      by_cases c30 : x26_3 = true
      · subst c30
        have H1 : (some (false, 1)) = some (r1, r2) := by rw [if_pos rfl] at H; exact H
        clear H
        have H := H1
        clear H1
        simp only [Option.some.injEq, Prod.mk.injEq] at H
        obtain ⟨rfl, rfl⟩ := H
        go_wp2
        go_ret2
        exact ⟨by first | rfl | (simp [errW_none, errW_some] <;> rfl) | (simp [*, errW_none, errW_some] <;> rfl), by repeat (first | (with_reducible first | exact HB.out | apply below_alloc | apply pw_below_drewN | apply below_drew1 | refine below_set ?_ GE264.out | refine below_set ?_ GE265.out) | exact HB.out)⟩
      · replace c30 := Bool.eq_false_iff.mpr c30
        subst c30
        have H1 : (if a1_0 = a2_0 then (if a1_0 = 3 then (if a0 = 1 then (auguryref04_Compare.j1 kj3 a0 false a1_0 a1_1 a1_2 a2_0 a2_1 a2_2) else (auguryref04_Compare.j1 kj3 a0 (a0 != 2) a1_0 a1_1 a1_2 a2_0 a2_1 a2_2)) else (auguryref04_Compare.j1 kj3 a0 false a1_0 a1_1 a1_2 a2_0 a2_1 a2_2)) else (auguryref04_Compare.j1 kj3 a0 true a1_0 a1_1 a1_2 a2_0 a2_1 a2_2)) = some (r1, r2) := by rw [if_neg (show ¬ (false = true) by decide)] at H; exact H
        clear H
        have H := H1
        clear H1
        have HC31 := Aside0.mk H
        clear H
        go_upto_region 3 with (fail)
        go_cut [44] (fun v44 wc => ∃ (kq : Nat) (x44_30 : Bool), v44 = .bool x44_30 ∧ Aside0 (auguryref04_Compare.j1 kq a0 x44_30 a1_0 a1_1 a1_2 a2_0 a2_1 a2_2 = some (r1, r2)) ∧ Aside0 (kq ≤ kj3) ∧ Aside0 (wc.heap[gb264]? = some (.cells #[.int .i64 a1_0, .int .i64 a1_1, .string a1_2] 23 (0, 0))) ∧ Aside0 (wc.heap[gb265]? = some (.cells #[.int .i64 a2_0, .int .i64 a2_1, .string a2_2] 23 (0, 0))) ∧ Aside0 (Below w.heap.size w wc))
        case first =>
          have H := HC31.out
          clear HC31
          by_cases c32 : a1_0 = a2_0
          · rw [if_pos c32] at H
            have c32b0 : (a1_0 == a2_0) = true := beq_iff_eq.mpr c32
            have c32b1 : (a1_0 != a2_0) = false := bne_eq_false_iff_eq.mpr c32
            clear c32
            (first | rw [c32b0] | (simp only [i64_w, i32_w]; rw [c32b0]) | rw [c32b1] | skip)
            by_cases c33 : a1_0 = 3
            · rw [if_pos c33] at H
              have c33b0 : (a1_0 == 3) = true := beq_iff_eq.mpr c33
              have c33b1 : (a1_0 != 3) = false := bne_eq_false_iff_eq.mpr c33
              clear c33
              by_cases c34 : a0 = 1
              · rw [if_pos c34] at H
                have c34b0 : (a0 == 1) = true := beq_iff_eq.mpr c34
                have c34b1 : (a0 != 1) = false := bne_eq_false_iff_eq.mpr c34
                clear c34
                have H' := Aside0.mk H
                clear H
                have hnb35 := NB264_265.out
                have hnc35 := NB265_264.out
                have hcz36_0 : wc.cell? ⟨gb264, 0, none⟩ = some (.int .i64 a1_0) := (blk_cell BK264.out 0).trans rfl
                have hcz36_1 : wc.cell? ⟨gb264, 1, none⟩ = some (.int .i64 a1_1) := (blk_cell BK264.out 1).trans rfl
                have hcz36_2 : wc.cell? ⟨gb264, 2, none⟩ = some (.string a1_2) := (blk_cell BK264.out 2).trans rfl
                have hfz36_0 := blk_frozen BK264.out 0
                have hfz36_1 := blk_frozen BK264.out 1
                have hfz36_2 := blk_frozen BK264.out 2
                have hcz37_0 : wc.cell? ⟨gb265, 0, none⟩ = some (.int .i64 a2_0) := (blk_cell BK265.out 0).trans rfl
                have hcz37_1 : wc.cell? ⟨gb265, 1, none⟩ = some (.int .i64 a2_1) := (blk_cell BK265.out 1).trans rfl
                have hcz37_2 : wc.cell? ⟨gb265, 2, none⟩ = some (.string a2_2) := (blk_cell BK265.out 2).trans rfl
                have hfz37_0 := blk_frozen BK265.out 0
                have hfz37_1 := blk_frozen BK265.out 1
                have hfz37_2 := blk_frozen BK265.out 2
                go_wp2
                go_meet
                case rel => exact ⟨_, (false), (by first | rfl | (simp; done) | (simp [*]; done) | grind), H', ⟨by have := HJ3.out; first | omega | exact Nat.le_refl _⟩, ⟨by (with_reducible repeat (first | refine blk_drewN ?_ _ | refine blk_drew ?_ | refine blk_alloc ?_ _)); exact BK264.out⟩, ⟨by (with_reducible repeat (first | refine blk_drewN ?_ _ | refine blk_drew ?_ | refine blk_alloc ?_ _)); exact BK265.out⟩, ⟨by repeat (first | (with_reducible first | exact HB.out | apply below_alloc | apply pw_below_drewN | apply below_drew1 | refine below_set ?_ GE264.out | refine below_set ?_ GE265.out) | exact HB.out)⟩⟩
              · rw [if_neg c34] at H
                have c34b0 : (a0 == 1) = false := beq_eq_false_iff_ne.mpr c34
                have c34b1 : (a0 != 1) = true := bne_iff_ne.mpr c34
                have H' := Aside0.mk H
                clear H
                have hnb38 := NB264_265.out
                have hnc38 := NB265_264.out
                have hcz39_0 : wc.cell? ⟨gb264, 0, none⟩ = some (.int .i64 a1_0) := (blk_cell BK264.out 0).trans rfl
                have hcz39_1 : wc.cell? ⟨gb264, 1, none⟩ = some (.int .i64 a1_1) := (blk_cell BK264.out 1).trans rfl
                have hcz39_2 : wc.cell? ⟨gb264, 2, none⟩ = some (.string a1_2) := (blk_cell BK264.out 2).trans rfl
                have hfz39_0 := blk_frozen BK264.out 0
                have hfz39_1 := blk_frozen BK264.out 1
                have hfz39_2 := blk_frozen BK264.out 2
                have hcz40_0 : wc.cell? ⟨gb265, 0, none⟩ = some (.int .i64 a2_0) := (blk_cell BK265.out 0).trans rfl
                have hcz40_1 : wc.cell? ⟨gb265, 1, none⟩ = some (.int .i64 a2_1) := (blk_cell BK265.out 1).trans rfl
                have hcz40_2 : wc.cell? ⟨gb265, 2, none⟩ = some (.string a2_2) := (blk_cell BK265.out 2).trans rfl
                have hfz40_0 := blk_frozen BK265.out 0
                have hfz40_1 := blk_frozen BK265.out 1
                have hfz40_2 := blk_frozen BK265.out 2
                go_wp2
                go_meet
                case rel => exact ⟨_, ((a0 != 2)), (by first | rfl | (simp; done) | (simp [*]; done) | grind), H', ⟨by have := HJ3.out; first | omega | exact Nat.le_refl _⟩, ⟨by (with_reducible repeat (first | refine blk_drewN ?_ _ | refine blk_drew ?_ | refine blk_alloc ?_ _)); exact BK264.out⟩, ⟨by (with_reducible repeat (first | refine blk_drewN ?_ _ | refine blk_drew ?_ | refine blk_alloc ?_ _)); exact BK265.out⟩, ⟨by repeat (first | (with_reducible first | exact HB.out | apply below_alloc | apply pw_below_drewN | apply below_drew1 | refine below_set ?_ GE264.out | refine below_set ?_ GE265.out) | exact HB.out)⟩⟩
            · rw [if_neg c33] at H
              have c33b0 : (a1_0 == 3) = false := beq_eq_false_iff_ne.mpr c33
              have c33b1 : (a1_0 != 3) = true := bne_iff_ne.mpr c33
              have H' := Aside0.mk H
              clear H
              have hnb41 := NB264_265.out
              have hnc41 := NB265_264.out
              have hcz42_0 : wc.cell? ⟨gb264, 0, none⟩ = some (.int .i64 a1_0) := (blk_cell BK264.out 0).trans rfl
              have hcz42_1 : wc.cell? ⟨gb264, 1, none⟩ = some (.int .i64 a1_1) := (blk_cell BK264.out 1).trans rfl
              have hcz42_2 : wc.cell? ⟨gb264, 2, none⟩ = some (.string a1_2) := (blk_cell BK264.out 2).trans rfl
              have hfz42_0 := blk_frozen BK264.out 0
              have hfz42_1 := blk_frozen BK264.out 1
              have hfz42_2 := blk_frozen BK264.out 2
              have hcz43_0 : wc.cell? ⟨gb265, 0, none⟩ = some (.int .i64 a2_0) := (blk_cell BK265.out 0).trans rfl
              have hcz43_1 : wc.cell? ⟨gb265, 1, none⟩ = some (.int .i64 a2_1) := (blk_cell BK265.out 1).trans rfl
              have hcz43_2 : wc.cell? ⟨gb265, 2, none⟩ = some (.string a2_2) := (blk_cell BK265.out 2).trans rfl
              have hfz43_0 := blk_frozen BK265.out 0
              have hfz43_1 := blk_frozen BK265.out 1
              have hfz43_2 := blk_frozen BK265.out 2
              go_wp2
              go_meet
              case rel => exact ⟨_, (false), (by first | rfl | (simp; done) | (simp [*]; done) | grind), H', ⟨by have := HJ3.out; first | omega | exact Nat.le_refl _⟩, ⟨by (with_reducible repeat (first | refine blk_drewN ?_ _ | refine blk_drew ?_ | refine blk_alloc ?_ _)); exact BK264.out⟩, ⟨by (with_reducible repeat (first | refine blk_drewN ?_ _ | refine blk_drew ?_ | refine blk_alloc ?_ _)); exact BK265.out⟩, ⟨by repeat (first | (with_reducible first | exact HB.out | apply below_alloc | apply pw_below_drewN | apply below_drew1 | refine below_set ?_ GE264.out | refine below_set ?_ GE265.out) | exact HB.out)⟩⟩
          · rw [if_neg c32] at H
            have c32b0 : (a1_0 == a2_0) = false := beq_eq_false_iff_ne.mpr c32
            have c32b1 : (a1_0 != a2_0) = true := bne_iff_ne.mpr c32
            (first | rw [c32b0] | (simp only [i64_w, i32_w]; rw [c32b0]) | rw [c32b1] | skip)
            have H' := Aside0.mk H
            clear H
            have hnb44 := NB264_265.out
            have hnc44 := NB265_264.out
            have hcz45_0 : wc.cell? ⟨gb264, 0, none⟩ = some (.int .i64 a1_0) := (blk_cell BK264.out 0).trans rfl
            have hcz45_1 : wc.cell? ⟨gb264, 1, none⟩ = some (.int .i64 a1_1) := (blk_cell BK264.out 1).trans rfl
            have hcz45_2 : wc.cell? ⟨gb264, 2, none⟩ = some (.string a1_2) := (blk_cell BK264.out 2).trans rfl
            have hfz45_0 := blk_frozen BK264.out 0
            have hfz45_1 := blk_frozen BK264.out 1
            have hfz45_2 := blk_frozen BK264.out 2
            have hcz46_0 : wc.cell? ⟨gb265, 0, none⟩ = some (.int .i64 a2_0) := (blk_cell BK265.out 0).trans rfl
            have hcz46_1 : wc.cell? ⟨gb265, 1, none⟩ = some (.int .i64 a2_1) := (blk_cell BK265.out 1).trans rfl
            have hcz46_2 : wc.cell? ⟨gb265, 2, none⟩ = some (.string a2_2) := (blk_cell BK265.out 2).trans rfl
            have hfz46_0 := blk_frozen BK265.out 0
            have hfz46_1 := blk_frozen BK265.out 1
            have hfz46_2 := blk_frozen BK265.out 2
            go_wp2
            go_meet
            case rel => exact ⟨_, (true), (by first | rfl | (simp; done) | (simp [*]; done) | grind), H', ⟨by have := HJ3.out; first | omega | exact Nat.le_refl _⟩, ⟨by (with_reducible repeat (first | refine blk_drewN ?_ _ | refine blk_drew ?_ | refine blk_alloc ?_ _)); exact BK264.out⟩, ⟨by (with_reducible repeat (first | refine blk_drewN ?_ _ | refine blk_drew ?_ | refine blk_alloc ?_ _)); exact BK265.out⟩, ⟨by repeat (first | (with_reducible first | exact HB.out | apply below_alloc | apply pw_below_drewN | apply below_drew1 | refine below_set ?_ GE264.out | refine below_set ?_ GE265.out) | exact HB.out)⟩⟩
        case rest =>
          clear HC31
          try clear c1
          try clear c2
          try clear p2
          try clear c3
          try clear c4
          try clear c8
          try clear c10
          try clear c11
          try clear c11b0
          try clear c11b1
          try clear c12
          try clear c15
          try clear c17
          try clear c22
          try clear c27
          try clear c30
          try clear c32
          try clear c32b0
          try clear c32b1
          try clear c33
          try clear c33b0
          try clear c33b1
          try clear c34
          try clear c34b0
          try clear c34b1
          try clear c35
          try clear c38
          try clear c41
          try clear c44
          try clear hcz13_0
          try clear hcz13_1
          try clear hcz13_2
          try clear hcz15_0
          try clear hcz15_1
          try clear hcz15_2
          try clear hcz18_0
          try clear hcz18_1
          try clear hcz18_2
          try clear hcz20_0
          try clear hcz20_1
          try clear hcz20_2
          try clear hcz23_0
          try clear hcz23_1
          try clear hcz23_2
          try clear hcz25_0
          try clear hcz25_1
          try clear hcz25_2
          try clear hcz28_0
          try clear hcz28_1
          try clear hcz28_2
          try clear hcz36_0
          try clear hcz36_1
          try clear hcz36_2
          try clear hcz37_0
          try clear hcz37_1
          try clear hcz37_2
          try clear hcz39_0
          try clear hcz39_1
          try clear hcz39_2
          try clear hcz40_0
          try clear hcz40_1
          try clear hcz40_2
          try clear hcz42_0
          try clear hcz42_1
          try clear hcz42_2
          try clear hcz43_0
          try clear hcz43_1
          try clear hcz43_2
          try clear hcz45_0
          try clear hcz45_1
          try clear hcz45_2
          try clear hcz46_0
          try clear hcz46_1
          try clear hcz46_2
          try clear hfz13_0
          try clear hfz13_1
          try clear hfz13_2
          try clear hfz15_0
          try clear hfz15_1
          try clear hfz15_2
          try clear hfz18_0
          try clear hfz18_1
          try clear hfz18_2
          try clear hfz20_0
          try clear hfz20_1
          try clear hfz20_2
          try clear hfz23_0
          try clear hfz23_1
          try clear hfz23_2
          try clear hfz25_0
          try clear hfz25_1
          try clear hfz25_2
          try clear hfz28_0
          try clear hfz28_1
          try clear hfz28_2
          try clear hfz36_0
          try clear hfz36_1
          try clear hfz36_2
          try clear hfz37_0
          try clear hfz37_1
          try clear hfz37_2
          try clear hfz39_0
          try clear hfz39_1
          try clear hfz39_2
          try clear hfz40_0
          try clear hfz40_1
          try clear hfz40_2
          try clear hfz42_0
          try clear hfz42_1
          try clear hfz42_2
          try clear hfz43_0
          try clear hfz43_1
          try clear hfz43_2
          try clear hfz45_0
          try clear hfz45_1
          try clear hfz45_2
          try clear hfz46_0
          try clear hfz46_1
          try clear hfz46_2
          try clear p2
          obtain ⟨kq, x44_30, rfl, HA, HJ30, BK264, BK265, HB⟩ := hcut
          cases kq with
          | zero => exact absurd HA.out (by simp [auguryref04_Compare.j1])
          | succ kj30 =>
            have H := HA.out
            clear HA
            simp only [auguryref04_Compare.j1] at H
            by_cases c47 : x44_30 = true
            · subst c47
              have H1 : (some (false, 42)) = some (r1, r2) := by rw [if_pos rfl] at H; exact H
              clear H
              have H := H1
              clear H1
              simp only [Option.some.injEq, Prod.mk.injEq] at H
              obtain ⟨rfl, rfl⟩ := H
              go_wp2
              go_ret2
              exact ⟨by first | rfl | (simp [errW_none, errW_some] <;> rfl) | (simp [*, errW_none, errW_some] <;> rfl), by repeat (first | (with_reducible first | exact HB.out | apply below_alloc | apply pw_below_drewN | apply below_drew1 | refine below_set ?_ GE264.out | refine below_set ?_ GE265.out) | exact HB.out)⟩
            · replace c47 := Bool.eq_false_iff.mpr c47
              subst c47
              have H1 : (if a1_1 < a2_1 then (auguryref04_Compare.j2 kj30 a0 true a1_0 a1_1 a1_2 a2_0 a2_1 a2_2) else (if a1_1 = a2_1 then (auguryref04_Compare.j2 kj30 a0 (Op.bytesLess a1_2.toList a2_2.toList) a1_0 a1_1 a1_2 a2_0 a2_1 a2_2) else (auguryref04_Compare.j2 kj30 a0 false a1_0 a1_1 a1_2 a2_0 a2_1 a2_2))) = some (r1, r2) := by rw [if_neg (show ¬ (false = true) by decide)] at H; exact H
              clear H
              have H := H1
              clear H1
              have HC48 := Aside0.mk H
              clear H
              go_upto_region 5 with (fail)
              go_cut [8] (fun v8 wc => ∃ (kq : Nat) (x8_47 : Bool), v8 = .bool x8_47 ∧ Aside0 (auguryref04_Compare.j2 kq a0 x8_47 a1_0 a1_1 a1_2 a2_0 a2_1 a2_2 = some (r1, r2)) ∧ Aside0 (kq ≤ kj30) ∧ Aside0 (wc.heap[gb264]? = some (.cells #[.int .i64 a1_0, .int .i64 a1_1, .string a1_2] 23 (0, 0))) ∧ Aside0 (wc.heap[gb265]? = some (.cells #[.int .i64 a2_0, .int .i64 a2_1, .string a2_2] 23 (0, 0))) ∧ Aside0 (Below w.heap.size w wc))
              case first =>
                have H := HC48.out
                clear HC48
                by_cases c49 : a1_1 < a2_1
                · rw [if_pos c49] at H
                  have c49b0 : decide (a1_1 < a2_1) = true := decide_eq_true c49
                  clear c49
                  (first | rw [c49b0] | (simp only [i64_w, i32_w]; rw [c49b0]) | rw [c49b1] | skip)
                  have H' := Aside0.mk H
                  clear H
                  have hnb50 := NB264_265.out
                  have hnc50 := NB265_264.out
                  have hcz51_0 : wc.cell? ⟨gb264, 0, none⟩ = some (.int .i64 a1_0) := (blk_cell BK264.out 0).trans rfl
                  have hcz51_1 : wc.cell? ⟨gb264, 1, none⟩ = some (.int .i64 a1_1) := (blk_cell BK264.out 1).trans rfl
                  have hcz51_2 : wc.cell? ⟨gb264, 2, none⟩ = some (.string a1_2) := (blk_cell BK264.out 2).trans rfl
                  have hfz51_0 := blk_frozen BK264.out 0
                  have hfz51_1 := blk_frozen BK264.out 1
                  have hfz51_2 := blk_frozen BK264.out 2
                  have hcz52_0 : wc.cell? ⟨gb265, 0, none⟩ = some (.int .i64 a2_0) := (blk_cell BK265.out 0).trans rfl
                  have hcz52_1 : wc.cell? ⟨gb265, 1, none⟩ = some (.int .i64 a2_1) := (blk_cell BK265.out 1).trans rfl
                  have hcz52_2 : wc.cell? ⟨gb265, 2, none⟩ = some (.string a2_2) := (blk_cell BK265.out 2).trans rfl
                  have hfz52_0 := blk_frozen BK265.out 0
                  have hfz52_1 := blk_frozen BK265.out 1
                  have hfz52_2 := blk_frozen BK265.out 2
                  go_wp2
                  go_meet
                  case rel => exact ⟨_, (true), (by first | rfl | (simp; done) | (simp [*]; done) | grind), H', ⟨by have := HJ3.out; have := HJ30.out; first | omega | exact Nat.le_refl _⟩, ⟨by (with_reducible repeat (first | refine blk_drewN ?_ _ | refine blk_drew ?_ | refine blk_alloc ?_ _)); exact BK264.out⟩, ⟨by (with_reducible repeat (first | refine blk_drewN ?_ _ | refine blk_drew ?_ | refine blk_alloc ?_ _)); exact BK265.out⟩, ⟨by repeat (first | (with_reducible first | exact HB.out | apply below_alloc | apply pw_below_drewN | apply below_drew1 | refine below_set ?_ GE264.out | refine below_set ?_ GE265.out) | exact HB.out)⟩⟩
                · rw [if_neg c49] at H
                  have c49b0 : decide (a1_1 < a2_1) = false := decide_eq_false c49
                  clear c49
                  (first | rw [c49b0] | (simp only [i64_w, i32_w]; rw [c49b0]) | rw [c49b1] | skip)
                  by_cases c53 : a1_1 = a2_1
                  · rw [if_pos c53] at H
                    have c53b0 : (a1_1 == a2_1) = true := beq_iff_eq.mpr c53
                    have c53b1 : (a1_1 != a2_1) = false := bne_eq_false_iff_eq.mpr c53
                    clear c53
                    have H' := Aside0.mk H
                    clear H
                    have hnb54 := NB264_265.out
                    have hnc54 := NB265_264.out
                    have hcz55_0 : wc.cell? ⟨gb264, 0, none⟩ = some (.int .i64 a1_0) := (blk_cell BK264.out 0).trans rfl
                    have hcz55_1 : wc.cell? ⟨gb264, 1, none⟩ = some (.int .i64 a1_1) := (blk_cell BK264.out 1).trans rfl
                    have hcz55_2 : wc.cell? ⟨gb264, 2, none⟩ = some (.string a1_2) := (blk_cell BK264.out 2).trans rfl
                    have hfz55_0 := blk_frozen BK264.out 0
                    have hfz55_1 := blk_frozen BK264.out 1
                    have hfz55_2 := blk_frozen BK264.out 2
                    have hcz56_0 : wc.cell? ⟨gb265, 0, none⟩ = some (.int .i64 a2_0) := (blk_cell BK265.out 0).trans rfl
                    have hcz56_1 : wc.cell? ⟨gb265, 1, none⟩ = some (.int .i64 a2_1) := (blk_cell BK265.out 1).trans rfl
                    have hcz56_2 : wc.cell? ⟨gb265, 2, none⟩ = some (.string a2_2) := (blk_cell BK265.out 2).trans rfl
                    have hfz56_0 := blk_frozen BK265.out 0
                    have hfz56_1 := blk_frozen BK265.out 1
                    have hfz56_2 := blk_frozen BK265.out 2
                    go_wp2
                    go_meet
                    case rel => exact ⟨_, ((Op.bytesLess a1_2.toList a2_2.toList)), (by first | rfl | (simp; done) | (simp [*]; done) | grind), H', ⟨by have := HJ3.out; have := HJ30.out; first | omega | exact Nat.le_refl _⟩, ⟨by (with_reducible repeat (first | refine blk_drewN ?_ _ | refine blk_drew ?_ | refine blk_alloc ?_ _)); exact BK264.out⟩, ⟨by (with_reducible repeat (first | refine blk_drewN ?_ _ | refine blk_drew ?_ | refine blk_alloc ?_ _)); exact BK265.out⟩, ⟨by repeat (first | (with_reducible first | exact HB.out | apply below_alloc | apply pw_below_drewN | apply below_drew1 | refine below_set ?_ GE264.out | refine below_set ?_ GE265.out) | exact HB.out)⟩⟩
                  · rw [if_neg c53] at H
                    have c53b0 : (a1_1 == a2_1) = false := beq_eq_false_iff_ne.mpr c53
                    have c53b1 : (a1_1 != a2_1) = true := bne_iff_ne.mpr c53
                    have H' := Aside0.mk H
                    clear H
                    have hnb57 := NB264_265.out
                    have hnc57 := NB265_264.out
                    have hcz58_0 : wc.cell? ⟨gb264, 0, none⟩ = some (.int .i64 a1_0) := (blk_cell BK264.out 0).trans rfl
                    have hcz58_1 : wc.cell? ⟨gb264, 1, none⟩ = some (.int .i64 a1_1) := (blk_cell BK264.out 1).trans rfl
                    have hcz58_2 : wc.cell? ⟨gb264, 2, none⟩ = some (.string a1_2) := (blk_cell BK264.out 2).trans rfl
                    have hfz58_0 := blk_frozen BK264.out 0
                    have hfz58_1 := blk_frozen BK264.out 1
                    have hfz58_2 := blk_frozen BK264.out 2
                    have hcz59_0 : wc.cell? ⟨gb265, 0, none⟩ = some (.int .i64 a2_0) := (blk_cell BK265.out 0).trans rfl
                    have hcz59_1 : wc.cell? ⟨gb265, 1, none⟩ = some (.int .i64 a2_1) := (blk_cell BK265.out 1).trans rfl
                    have hcz59_2 : wc.cell? ⟨gb265, 2, none⟩ = some (.string a2_2) := (blk_cell BK265.out 2).trans rfl
                    have hfz59_0 := blk_frozen BK265.out 0
                    have hfz59_1 := blk_frozen BK265.out 1
                    have hfz59_2 := blk_frozen BK265.out 2
                    go_wp2
                    go_meet
                    case rel => exact ⟨_, (false), (by first | rfl | (simp; done) | (simp [*]; done) | grind), H', ⟨by have := HJ3.out; have := HJ30.out; first | omega | exact Nat.le_refl _⟩, ⟨by (with_reducible repeat (first | refine blk_drewN ?_ _ | refine blk_drew ?_ | refine blk_alloc ?_ _)); exact BK264.out⟩, ⟨by (with_reducible repeat (first | refine blk_drewN ?_ _ | refine blk_drew ?_ | refine blk_alloc ?_ _)); exact BK265.out⟩, ⟨by repeat (first | (with_reducible first | exact HB.out | apply below_alloc | apply pw_below_drewN | apply below_drew1 | refine below_set ?_ GE264.out | refine below_set ?_ GE265.out) | exact HB.out)⟩⟩
              case rest =>
                clear HC48
                try clear c1
                try clear c2
                try clear p2
                try clear c3
                try clear c4
                try clear c5
                try clear c8
                try clear c10
                try clear c11
                try clear c11b0
                try clear c11b1
                try clear c12
                try clear c15
                try clear c17
                try clear c22
                try clear c27
                try clear c30
                try clear c32
                try clear c32b0
                try clear c32b1
                try clear c33
                try clear c33b0
                try clear c33b1
                try clear c34
                try clear c34b0
                try clear c34b1
                try clear c35
                try clear c38
                try clear c41
                try clear c44
                try clear c47
                try clear c49
                try clear c49b0
                try clear c49b1
                try clear c50
                try clear c53
                try clear c53b0
                try clear c53b1
                try clear c54
                try clear c57
                try clear hcz13_0
                try clear hcz13_1
                try clear hcz13_2
                try clear hcz15_0
                try clear hcz15_1
                try clear hcz15_2
                try clear hcz18_0
                try clear hcz18_1
                try clear hcz18_2
                try clear hcz20_0
                try clear hcz20_1
                try clear hcz20_2
                try clear hcz23_0
                try clear hcz23_1
                try clear hcz23_2
                try clear hcz25_0
                try clear hcz25_1
                try clear hcz25_2
                try clear hcz28_0
                try clear hcz28_1
                try clear hcz28_2
                try clear hcz36_0
                try clear hcz36_1
                try clear hcz36_2
                try clear hcz37_0
                try clear hcz37_1
                try clear hcz37_2
                try clear hcz39_0
                try clear hcz39_1
                try clear hcz39_2
                try clear hcz40_0
                try clear hcz40_1
                try clear hcz40_2
                try clear hcz42_0
                try clear hcz42_1
                try clear hcz42_2
                try clear hcz43_0
                try clear hcz43_1
                try clear hcz43_2
                try clear hcz45_0
                try clear hcz45_1
                try clear hcz45_2
                try clear hcz46_0
                try clear hcz46_1
                try clear hcz46_2
                try clear hcz51_0
                try clear hcz51_1
                try clear hcz51_2
                try clear hcz52_0
                try clear hcz52_1
                try clear hcz52_2
                try clear hcz55_0
                try clear hcz55_1
                try clear hcz55_2
                try clear hcz56_0
                try clear hcz56_1
                try clear hcz56_2
                try clear hcz58_0
                try clear hcz58_1
                try clear hcz58_2
                try clear hcz59_0
                try clear hcz59_1
                try clear hcz59_2
                try clear hfz13_0
                try clear hfz13_1
                try clear hfz13_2
                try clear hfz15_0
                try clear hfz15_1
                try clear hfz15_2
                try clear hfz18_0
                try clear hfz18_1
                try clear hfz18_2
                try clear hfz20_0
                try clear hfz20_1
                try clear hfz20_2
                try clear hfz23_0
                try clear hfz23_1
                try clear hfz23_2
                try clear hfz25_0
                try clear hfz25_1
                try clear hfz25_2
                try clear hfz28_0
                try clear hfz28_1
                try clear hfz28_2
                try clear hfz36_0
                try clear hfz36_1
                try clear hfz36_2
                try clear hfz37_0
                try clear hfz37_1
                try clear hfz37_2
                try clear hfz39_0
                try clear hfz39_1
                try clear hfz39_2
                try clear hfz40_0
                try clear hfz40_1
                try clear hfz40_2
                try clear hfz42_0
                try clear hfz42_1
                try clear hfz42_2
                try clear hfz43_0
                try clear hfz43_1
                try clear hfz43_2
                try clear hfz45_0
                try clear hfz45_1
                try clear hfz45_2
                try clear hfz46_0
                try clear hfz46_1
                try clear hfz46_2
                try clear hfz51_0
                try clear hfz51_1
                try clear hfz51_2
                try clear hfz52_0
                try clear hfz52_1
                try clear hfz52_2
                try clear hfz55_0
                try clear hfz55_1
                try clear hfz55_2
                try clear hfz56_0
                try clear hfz56_1
                try clear hfz56_2
                try clear hfz58_0
                try clear hfz58_1
                try clear hfz58_2
                try clear hfz59_0
                try clear hfz59_1
                try clear hfz59_2
                try clear p2
                obtain ⟨kq, x8_47, rfl, HA, HJ47, BK264, BK265, HB⟩ := hcut
                cases kq with
                | zero => exact absurd HA.out (by simp [auguryref04_Compare.j2])
                | succ kj47 =>
                  have H := HA.out
                  clear HA
                  simp only [auguryref04_Compare.j2] at H
                  have HC60 := Aside0.mk H
                  clear H
                  go_upto_region 6 with (fail)
                  go_cut [9] (fun v9 wc => ∃ (kq : Nat) (x9_59 : Bool), v9 = .bool x9_59 ∧ Aside0 (auguryref04_Compare.j3 kq a0 x8_47 x9_59 = some (r1, r2)) ∧ Aside0 (kq ≤ kj47) ∧ Aside0 (wc.heap[gb264]? = some (.cells #[.int .i64 a1_0, .int .i64 a1_1, .string a1_2] 23 (0, 0))) ∧ Aside0 (wc.heap[gb265]? = some (.cells #[.int .i64 a2_0, .int .i64 a2_1, .string a2_2] 23 (0, 0))) ∧ Aside0 (Below w.heap.size w wc))
                  case first =>
                    have H := HC60.out
                    clear HC60
                    by_cases c61 : a1_1 = a2_1
                    · rw [if_pos c61] at H
                      have c61b0 : (a1_1 == a2_1) = true := beq_iff_eq.mpr c61
                      have c61b1 : (a1_1 != a2_1) = false := bne_eq_false_iff_eq.mpr c61
                      clear c61
                      (first | rw [c61b0] | (simp only [i64_w, i32_w]; rw [c61b0]) | rw [c61b1] | skip)
                      have H' := Aside0.mk H
                      clear H
                      have hnb62 := NB264_265.out
                      have hnc62 := NB265_264.out
                      have hcz63_0 : wc.cell? ⟨gb264, 0, none⟩ = some (.int .i64 a1_0) := (blk_cell BK264.out 0).trans rfl
                      have hcz63_1 : wc.cell? ⟨gb264, 1, none⟩ = some (.int .i64 a1_1) := (blk_cell BK264.out 1).trans rfl
                      have hcz63_2 : wc.cell? ⟨gb264, 2, none⟩ = some (.string a1_2) := (blk_cell BK264.out 2).trans rfl
                      have hfz63_0 := blk_frozen BK264.out 0
                      have hfz63_1 := blk_frozen BK264.out 1
                      have hfz63_2 := blk_frozen BK264.out 2
                      have hcz64_0 : wc.cell? ⟨gb265, 0, none⟩ = some (.int .i64 a2_0) := (blk_cell BK265.out 0).trans rfl
                      have hcz64_1 : wc.cell? ⟨gb265, 1, none⟩ = some (.int .i64 a2_1) := (blk_cell BK265.out 1).trans rfl
                      have hcz64_2 : wc.cell? ⟨gb265, 2, none⟩ = some (.string a2_2) := (blk_cell BK265.out 2).trans rfl
                      have hfz64_0 := blk_frozen BK265.out 0
                      have hfz64_1 := blk_frozen BK265.out 1
                      have hfz64_2 := blk_frozen BK265.out 2
                      go_wp2
                      go_meet
                      case rel => exact ⟨_, ((a1_2.toList == a2_2.toList)), (by first | rfl | (simp; done) | (simp [*]; done) | grind), H', ⟨by have := HJ3.out; have := HJ30.out; have := HJ47.out; first | omega | exact Nat.le_refl _⟩, ⟨by (with_reducible repeat (first | refine blk_drewN ?_ _ | refine blk_drew ?_ | refine blk_alloc ?_ _)); exact BK264.out⟩, ⟨by (with_reducible repeat (first | refine blk_drewN ?_ _ | refine blk_drew ?_ | refine blk_alloc ?_ _)); exact BK265.out⟩, ⟨by repeat (first | (with_reducible first | exact HB.out | apply below_alloc | apply pw_below_drewN | apply below_drew1 | refine below_set ?_ GE264.out | refine below_set ?_ GE265.out) | exact HB.out)⟩⟩
                    · rw [if_neg c61] at H
                      have c61b0 : (a1_1 == a2_1) = false := beq_eq_false_iff_ne.mpr c61
                      have c61b1 : (a1_1 != a2_1) = true := bne_iff_ne.mpr c61
                      (first | rw [c61b0] | (simp only [i64_w, i32_w]; rw [c61b0]) | rw [c61b1] | skip)
                      have H' := Aside0.mk H
                      clear H
                      have hnb65 := NB264_265.out
                      have hnc65 := NB265_264.out
                      have hcz66_0 : wc.cell? ⟨gb264, 0, none⟩ = some (.int .i64 a1_0) := (blk_cell BK264.out 0).trans rfl
                      have hcz66_1 : wc.cell? ⟨gb264, 1, none⟩ = some (.int .i64 a1_1) := (blk_cell BK264.out 1).trans rfl
                      have hcz66_2 : wc.cell? ⟨gb264, 2, none⟩ = some (.string a1_2) := (blk_cell BK264.out 2).trans rfl
                      have hfz66_0 := blk_frozen BK264.out 0
                      have hfz66_1 := blk_frozen BK264.out 1
                      have hfz66_2 := blk_frozen BK264.out 2
                      have hcz67_0 : wc.cell? ⟨gb265, 0, none⟩ = some (.int .i64 a2_0) := (blk_cell BK265.out 0).trans rfl
                      have hcz67_1 : wc.cell? ⟨gb265, 1, none⟩ = some (.int .i64 a2_1) := (blk_cell BK265.out 1).trans rfl
                      have hcz67_2 : wc.cell? ⟨gb265, 2, none⟩ = some (.string a2_2) := (blk_cell BK265.out 2).trans rfl
                      have hfz67_0 := blk_frozen BK265.out 0
                      have hfz67_1 := blk_frozen BK265.out 1
                      have hfz67_2 := blk_frozen BK265.out 2
                      go_wp2
                      go_meet
                      case rel => exact ⟨_, (false), (by first | rfl | (simp; done) | (simp [*]; done) | grind), H', ⟨by have := HJ3.out; have := HJ30.out; have := HJ47.out; first | omega | exact Nat.le_refl _⟩, ⟨by (with_reducible repeat (first | refine blk_drewN ?_ _ | refine blk_drew ?_ | refine blk_alloc ?_ _)); exact BK264.out⟩, ⟨by (with_reducible repeat (first | refine blk_drewN ?_ _ | refine blk_drew ?_ | refine blk_alloc ?_ _)); exact BK265.out⟩, ⟨by repeat (first | (with_reducible first | exact HB.out | apply below_alloc | apply pw_below_drewN | apply below_drew1 | refine below_set ?_ GE264.out | refine below_set ?_ GE265.out) | exact HB.out)⟩⟩
                  case rest =>
                    clear HC60
                    try clear c1
                    try clear c2
                    try clear p2
                    try clear c3
                    try clear c4
                    try clear c5
                    try clear c6
                    try clear c8
                    try clear c10
                    try clear c11
                    try clear c11b0
                    try clear c11b1
                    try clear c12
                    try clear c15
                    try clear c17
                    try clear c22
                    try clear c27
                    try clear c30
                    try clear c32
                    try clear c32b0
                    try clear c32b1
                    try clear c33
                    try clear c33b0
                    try clear c33b1
                    try clear c34
                    try clear c34b0
                    try clear c34b1
                    try clear c35
                    try clear c38
                    try clear c41
                    try clear c44
                    try clear c47
                    try clear c49
                    try clear c49b0
                    try clear c49b1
                    try clear c50
                    try clear c53
                    try clear c53b0
                    try clear c53b1
                    try clear c54
                    try clear c57
                    try clear c61
                    try clear c61b0
                    try clear c61b1
                    try clear c62
                    try clear c65
                    try clear hcz13_0
                    try clear hcz13_1
                    try clear hcz13_2
                    try clear hcz15_0
                    try clear hcz15_1
                    try clear hcz15_2
                    try clear hcz18_0
                    try clear hcz18_1
                    try clear hcz18_2
                    try clear hcz20_0
                    try clear hcz20_1
                    try clear hcz20_2
                    try clear hcz23_0
                    try clear hcz23_1
                    try clear hcz23_2
                    try clear hcz25_0
                    try clear hcz25_1
                    try clear hcz25_2
                    try clear hcz28_0
                    try clear hcz28_1
                    try clear hcz28_2
                    try clear hcz36_0
                    try clear hcz36_1
                    try clear hcz36_2
                    try clear hcz37_0
                    try clear hcz37_1
                    try clear hcz37_2
                    try clear hcz39_0
                    try clear hcz39_1
                    try clear hcz39_2
                    try clear hcz40_0
                    try clear hcz40_1
                    try clear hcz40_2
                    try clear hcz42_0
                    try clear hcz42_1
                    try clear hcz42_2
                    try clear hcz43_0
                    try clear hcz43_1
                    try clear hcz43_2
                    try clear hcz45_0
                    try clear hcz45_1
                    try clear hcz45_2
                    try clear hcz46_0
                    try clear hcz46_1
                    try clear hcz46_2
                    try clear hcz51_0
                    try clear hcz51_1
                    try clear hcz51_2
                    try clear hcz52_0
                    try clear hcz52_1
                    try clear hcz52_2
                    try clear hcz55_0
                    try clear hcz55_1
                    try clear hcz55_2
                    try clear hcz56_0
                    try clear hcz56_1
                    try clear hcz56_2
                    try clear hcz58_0
                    try clear hcz58_1
                    try clear hcz58_2
                    try clear hcz59_0
                    try clear hcz59_1
                    try clear hcz59_2
                    try clear hcz63_0
                    try clear hcz63_1
                    try clear hcz63_2
                    try clear hcz64_0
                    try clear hcz64_1
                    try clear hcz64_2
                    try clear hcz66_0
                    try clear hcz66_1
                    try clear hcz66_2
                    try clear hcz67_0
                    try clear hcz67_1
                    try clear hcz67_2
                    try clear hfz13_0
                    try clear hfz13_1
                    try clear hfz13_2
                    try clear hfz15_0
                    try clear hfz15_1
                    try clear hfz15_2
                    try clear hfz18_0
                    try clear hfz18_1
                    try clear hfz18_2
                    try clear hfz20_0
                    try clear hfz20_1
                    try clear hfz20_2
                    try clear hfz23_0
                    try clear hfz23_1
                    try clear hfz23_2
                    try clear hfz25_0
                    try clear hfz25_1
                    try clear hfz25_2
                    try clear hfz28_0
                    try clear hfz28_1
                    try clear hfz28_2
                    try clear hfz36_0
                    try clear hfz36_1
                    try clear hfz36_2
                    try clear hfz37_0
                    try clear hfz37_1
                    try clear hfz37_2
                    try clear hfz39_0
                    try clear hfz39_1
                    try clear hfz39_2
                    try clear hfz40_0
                    try clear hfz40_1
                    try clear hfz40_2
                    try clear hfz42_0
                    try clear hfz42_1
                    try clear hfz42_2
                    try clear hfz43_0
                    try clear hfz43_1
                    try clear hfz43_2
                    try clear hfz45_0
                    try clear hfz45_1
                    try clear hfz45_2
                    try clear hfz46_0
                    try clear hfz46_1
                    try clear hfz46_2
                    try clear hfz51_0
                    try clear hfz51_1
                    try clear hfz51_2
                    try clear hfz52_0
                    try clear hfz52_1
                    try clear hfz52_2
                    try clear hfz55_0
                    try clear hfz55_1
                    try clear hfz55_2
                    try clear hfz56_0
                    try clear hfz56_1
                    try clear hfz56_2
                    try clear hfz58_0
                    try clear hfz58_1
                    try clear hfz58_2
                    try clear hfz59_0
                    try clear hfz59_1
                    try clear hfz59_2
                    try clear hfz63_0
                    try clear hfz63_1
                    try clear hfz63_2
                    try clear hfz64_0
                    try clear hfz64_1
                    try clear hfz64_2
                    try clear hfz66_0
                    try clear hfz66_1
                    try clear hfz66_2
                    try clear hfz67_0
                    try clear hfz67_1
                    try clear hfz67_2
                    try clear p2
                    obtain ⟨kq, x9_59, rfl, HA, HJ59, BK264, BK265, HB⟩ := hcut
                    cases kq with
                    | zero => exact absurd HA.out (by simp [auguryref04_Compare.j3])
                    | succ kj59 =>
                      have H := HA.out
                      clear HA
                      simp only [auguryref04_Compare.j3] at H
                      by_cases c68 : a0 = 1
                      · rw [if_pos c68] at H
                        have c68b0 : (a0 == 1) = true := beq_iff_eq.mpr c68
                        have c68b1 : (a0 != 1) = false := bne_eq_false_iff_eq.mpr c68
                        clear c68
                        simp only [Option.some.injEq, Prod.mk.injEq] at H
                        obtain ⟨rfl, rfl⟩ := H
                        go_wp2
                        go_ret2
                        exact ⟨by first | rfl | (simp [errW_none, errW_some] <;> rfl) | (simp [*, errW_none, errW_some] <;> rfl), by repeat (first | (with_reducible first | exact HB.out | apply below_alloc | apply pw_below_drewN | apply below_drew1 | refine below_set ?_ GE264.out | refine below_set ?_ GE265.out) | exact HB.out)⟩
                      · rw [if_neg c68] at H
                        have c68b0 : (a0 == 1) = false := beq_eq_false_iff_ne.mpr c68
                        have c68b1 : (a0 != 1) = true := bne_iff_ne.mpr c68
                        by_cases c69 : a0 = 2
                        · rw [if_pos c69] at H
                          have c69b0 : (a0 == 2) = true := beq_iff_eq.mpr c69
                          have c69b1 : (a0 != 2) = false := bne_eq_false_iff_eq.mpr c69
                          clear c69
                          simp only [Option.some.injEq, Prod.mk.injEq] at H
                          obtain ⟨rfl, rfl⟩ := H
                          go_wp2
                          go_ret2
                          exact ⟨by first | rfl | (simp [errW_none, errW_some] <;> rfl) | (simp [*, errW_none, errW_some] <;> rfl), by repeat (first | (with_reducible first | exact HB.out | apply below_alloc | apply pw_below_drewN | apply below_drew1 | refine below_set ?_ GE264.out | refine below_set ?_ GE265.out) | exact HB.out)⟩
                        · rw [if_neg c69] at H
                          have c69b0 : (a0 == 2) = false := beq_eq_false_iff_ne.mpr c69
                          have c69b1 : (a0 != 2) = true := bne_iff_ne.mpr c69
                          by_cases c70 : a0 = 3
                          · rw [if_pos c70] at H
                            have c70b0 : (a0 == 3) = true := beq_iff_eq.mpr c70
                            have c70b1 : (a0 != 3) = false := bne_eq_false_iff_eq.mpr c70
                            clear c70
                            simp only [Option.some.injEq, Prod.mk.injEq] at H
                            obtain ⟨rfl, rfl⟩ := H
                            go_wp2
                            go_ret2
                            exact ⟨by first | rfl | (simp [errW_none, errW_some] <;> rfl) | (simp [*, errW_none, errW_some] <;> rfl), by repeat (first | (with_reducible first | exact HB.out | apply below_alloc | apply pw_below_drewN | apply below_drew1 | refine below_set ?_ GE264.out | refine below_set ?_ GE265.out) | exact HB.out)⟩
                          · rw [if_neg c70] at H
                            have c70b0 : (a0 == 3) = false := beq_eq_false_iff_ne.mpr c70
                            have c70b1 : (a0 != 3) = true := bne_iff_ne.mpr c70
                            by_cases c71 : a0 = 4
                            · rw [if_pos c71] at H
                              have c71b0 : (a0 == 4) = true := beq_iff_eq.mpr c71
                              have c71b1 : (a0 != 4) = false := bne_eq_false_iff_eq.mpr c71
                              clear c71
                              by_cases c72 : x8_47 = true
                              · subst c72
                                have H1 : (some (true, 0)) = some (r1, r2) := by rw [if_pos rfl] at H; exact H
                                clear H
                                have H := H1
                                clear H1
                                simp only [Option.some.injEq, Prod.mk.injEq] at H
                                obtain ⟨rfl, rfl⟩ := H
                                go_wp2
                                go_ret2
                                exact ⟨by first | rfl | (simp [errW_none, errW_some] <;> rfl) | (simp [*, errW_none, errW_some] <;> rfl), by repeat (first | (with_reducible first | exact HB.out | apply below_alloc | apply pw_below_drewN | apply below_drew1 | refine below_set ?_ GE264.out | refine below_set ?_ GE265.out) | exact HB.out)⟩
                              · replace c72 := Bool.eq_false_iff.mpr c72
                                subst c72
                                have H1 : (some (x9_59, 0)) = some (r1, r2) := by rw [if_neg (show ¬ (false = true) by decide)] at H; exact H
                                clear H
                                have H := H1
                                clear H1
                                simp only [Option.some.injEq, Prod.mk.injEq] at H
                                obtain ⟨rfl, rfl⟩ := H
                                go_wp2
                                go_ret2
                                exact ⟨by first | rfl | (simp [errW_none, errW_some] <;> rfl) | (simp [*, errW_none, errW_some] <;> rfl), by repeat (first | (with_reducible first | exact HB.out | apply below_alloc | apply pw_below_drewN | apply below_drew1 | refine below_set ?_ GE264.out | refine below_set ?_ GE265.out) | exact HB.out)⟩
                            · rw [if_neg c71] at H
                              have c71b0 : (a0 == 4) = false := beq_eq_false_iff_ne.mpr c71
                              have c71b1 : (a0 != 4) = true := bne_iff_ne.mpr c71
                              by_cases c73 : a0 = 5
                              · rw [if_pos c73] at H
                                have c73b0 : (a0 == 5) = true := beq_iff_eq.mpr c73
                                have c73b1 : (a0 != 5) = false := bne_eq_false_iff_eq.mpr c73
                                clear c73
                                by_cases c74 : x8_47 = true
                                · subst c74
                                  have H1 : (some (false, 0)) = some (r1, r2) := by rw [if_pos rfl] at H; exact H
                                  clear H
                                  have H := H1
                                  clear H1
                                  simp only [Option.some.injEq, Prod.mk.injEq] at H
                                  obtain ⟨rfl, rfl⟩ := H
                                  go_wp2
                                  go_ret2
                                  exact ⟨by first | rfl | (simp [errW_none, errW_some] <;> rfl) | (simp [*, errW_none, errW_some] <;> rfl), by repeat (first | (with_reducible first | exact HB.out | apply below_alloc | apply pw_below_drewN | apply below_drew1 | refine below_set ?_ GE264.out | refine below_set ?_ GE265.out) | exact HB.out)⟩
                                · replace c74 := Bool.eq_false_iff.mpr c74
                                  subst c74
                                  have H1 : (some (!x9_59, 0)) = some (r1, r2) := by rw [if_neg (show ¬ (false = true) by decide)] at H; exact H
                                  clear H
                                  have H := H1
                                  clear H1
                                  simp only [Option.some.injEq, Prod.mk.injEq] at H
                                  obtain ⟨rfl, rfl⟩ := H
                                  go_wp2
                                  go_ret2
                                  exact ⟨by first | rfl | (simp [errW_none, errW_some] <;> rfl) | (simp [*, errW_none, errW_some] <;> rfl), by repeat (first | (with_reducible first | exact HB.out | apply below_alloc | apply pw_below_drewN | apply below_drew1 | refine below_set ?_ GE264.out | refine below_set ?_ GE265.out) | exact HB.out)⟩
                              · rw [if_neg c73] at H
                                have c73b0 : (a0 == 5) = false := beq_eq_false_iff_ne.mpr c73
                                have c73b1 : (a0 != 5) = true := bne_iff_ne.mpr c73
                                by_cases c75 : a0 = 6
                                · rw [if_pos c75] at H
                                  have c75b0 : (a0 == 6) = true := beq_iff_eq.mpr c75
                                  have c75b1 : (a0 != 6) = false := bne_eq_false_iff_eq.mpr c75
                                  clear c75
                                  simp only [Option.some.injEq, Prod.mk.injEq] at H
                                  obtain ⟨rfl, rfl⟩ := H
                                  go_wp2
                                  go_ret2
                                  exact ⟨by first | rfl | (simp [errW_none, errW_some] <;> rfl) | (simp [*, errW_none, errW_some] <;> rfl), by repeat (first | (with_reducible first | exact HB.out | apply below_alloc | apply pw_below_drewN | apply below_drew1 | refine below_set ?_ GE264.out | refine below_set ?_ GE265.out) | exact HB.out)⟩
                                · rw [if_neg c75] at H
                                  have c75b0 : (a0 == 6) = false := beq_eq_false_iff_ne.mpr c75
                                  have c75b1 : (a0 != 6) = true := bne_iff_ne.mpr c75
                                  simp only [Option.some.injEq, Prod.mk.injEq] at H
                                  obtain ⟨rfl, rfl⟩ := H
                                  go_wp2
                                  go_ret2
                                  exact ⟨by first | rfl | (simp [errW_none, errW_some] <;> rfl) | (simp [*, errW_none, errW_some] <;> rfl), by repeat (first | (with_reducible first | exact HB.out | apply below_alloc | apply pw_below_drewN | apply below_drew1 | refine below_set ?_ GE264.out | refine below_set ?_ GE265.out) | exact HB.out)⟩

end Go.Proofs.Ytlbaoekmnfeogaa.PAll
