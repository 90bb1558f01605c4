/- Written by this session's own program (wip/xprint): functions of the Go program as Lean functions, and proofs that the Go code computes them. -/
import Derived.Test.YtlbaoekmnfeogaaPAllx0
import Derived.Test.YtlbaoekmnfeogaaPAllx1
import Derived.Test.YtlbaoekmnfeogaaPAllx2
import Derived.Test.YtlbaoekmnfeogaaPAllx13
import Derived.Test.YtlbaoekmnfeogaaPAllx15
import Derived.Test.YtlbaoekmnfeogaaPAllx18
namespace Go.Proofs.Ytlbaoekmnfeogaa.PAll
open Go.RowKit Go.Proofs.YtlbaoekmnfeogaaW.PrintWords Go.Proofs.YtlbaoekmnfeogaaW.PrintLast Go.Proofs.YtlbaoekmnfeogaaW.PrintMore
attribute [local go_sem] max2_int min2_int max_two min_two max_three min_three max_four min_four   -- for this text's walks alone
set_option linter.unusedVariables false
set_option linter.unusedSimpArgs false

attribute [local go_sem high] eqA23
/-! ### augurylaw04_ValueBack: function 5 -/
mutual
def augurylaw04_ValueBack.j0 : Nat → List Int → Bool → Bool → Int → Int → ByteArray → Option (Bool)
  | 0, _, _, _, _, _, _ => none
  | k + 1, x1, x5, x25, x368000, x368001, x368002 => if x25 = true then (if x5 = true then (some true) else (none)) else ((value_Put.f k x368000 x368001 x368002).bind fun t369 => ((value_Right.f x368000 x368001 x368002).bind fun t372 => (if ((decide ((t369.length : Int) > 0)) != t372) = true then (none) else (if (t369.length : Int) > 0 then ((some (([] : List Int) : List Int)).bind fun y373 => (if y373.length + t369.length < 140737488355328 then ((some (y373 ++ t369 : List Int)).bind fun y376 => (if y376.length + x1.length < 140737488355328 then ((value_Get.f k (y376 ++ x1)).bind fun bt382 => (if 0 ≤ (wrap64 ((t369.length : Int) - 1)) then (if (wrap64 ((t369.length : Int) - 1)) ≤ (t369.length : Int) then ((value_Get.f k (t369.take ((wrap64 ((t369.length : Int) - 1)) : Int).toNat)).bind fun bt392 => (if bt382.2.2.2.2 = true then (if (!(bt382.1 == x368000) || (!(bt382.2.1 == x368001) || (!(bt382.2.2.1.toList == x368002.toList)))) = true then (none) else (if bt382.2.2.2.1 = (t369.length : Int) then (if bt392.2.2.2.2 = true then (none) else (augurylaw04_ValueBack.j1 k x1 x5)) else (none))) else (none))) else (none)) else (none))) else (none))) else (none))) else (augurylaw04_ValueBack.j1 k x1 x5)))))
def augurylaw04_ValueBack.j1 : Nat → List Int → Bool → Option (Bool)
  | 0, _, _ => none
  | k + 1, x1, x5 => (value_Get.f k x1).bind fun bt398 => (if bt398.2.2.2.2 = true then (if x5 = true then ((value_Right.f bt398.1 bt398.2.1 bt398.2.2.1).bind fun t404 => (if t404 = true then (if bt398.2.2.2.1 > 0 then (if bt398.2.2.2.1 ≤ (x1.length : Int) then ((value_Put.f k bt398.1 bt398.2.1 bt398.2.2.1).bind fun t405 => (if 0 ≤ bt398.2.2.2.1 then (if (strOfNums t405).toList = (strOfNums (x1.take (bt398.2.2.2.1 : Int).toNat)).toList then (some true) else (none)) else (none))) else (none)) else (none)) else (none))) else (none)) else (if x5 = true then (if bt398.2.2.2.1 = 0 then (some true) else (none)) else (none)))
end
def augurylaw04_ValueBack.f (k : Nat) (a0_0 : Int) (a0_1 : Int) (a0_2 : ByteArray) (l1 : List Int) : Option (Bool) := (augurylaw04_head.f k).bind fun t368 => (if (a0_2.size : Int) > 9000 then (augurylaw04_ValueBack.j0 k l1 t368 true a0_0 a0_1 a0_2) else (augurylaw04_ValueBack.j0 k l1 t368 (decide ((l1.length : Int) > 9000)) a0_0 a0_1 a0_2))
theorem augurylaw04_ValueBack.mono_l : ∀ k, (∀ y0 y1 y2 y3 y4 y5, LeO (augurylaw04_ValueBack.j0 k y0 y1 y2 y3 y4 y5) (augurylaw04_ValueBack.j0 (k + 1) y0 y1 y2 y3 y4 y5)) ∧ (∀ y0 y1, LeO (augurylaw04_ValueBack.j1 k y0 y1) (augurylaw04_ValueBack.j1 (k + 1) y0 y1))
  | 0 => ⟨fun _ _ _ _ _ _ r h => by simp [augurylaw04_ValueBack.j0] at h, fun _ _ r h => by simp [augurylaw04_ValueBack.j1] at h⟩
  | k + 1 => by
    obtain ⟨ih0, ih1⟩ := augurylaw04_ValueBack.mono_l k
    refine ⟨?_, ?_⟩
    · intro y0 y1 y2 y3 y4 y5
      unfold augurylaw04_ValueBack.j0
      repeat' first
      | (with_reducible exact ih0 _ _ _ _ _ _)
      | (with_reducible exact ih1 _ _)
      | (with_reducible exact augurylaw04_head.mono _)
      | (with_reducible exact value_Get.mono _ _)
      | (with_reducible exact value_Put.mono _ _ _ _)
      | (with_reducible exact LeO.refl _)
      | (with_reducible exact LeO.none _)
      | (with_reducible refine LeO.ite ?_ ?_)
      | (with_reducible refine LeO.bind ?_ (fun _ => ?_))
      | exact ih0 _ _ _ _ _ _
      | exact ih1 _ _
      | exact augurylaw04_head.mono _
      | exact value_Get.mono _ _
      | exact value_Put.mono _ _ _ _
      | exact LeO.none _
      | refine LeO.ite ?_ ?_
      | refine LeO.bind ?_ (fun _ => ?_)
    · intro y0 y1
      unfold augurylaw04_ValueBack.j1
      repeat' first
      | (with_reducible exact ih0 _ _ _ _ _ _)
      | (with_reducible exact ih1 _ _)
      | (with_reducible exact augurylaw04_head.mono _)
      | (with_reducible exact value_Get.mono _ _)
      | (with_reducible exact value_Put.mono _ _ _ _)
      | (with_reducible exact LeO.refl _)
      | (with_reducible exact LeO.none _)
      | (with_reducible refine LeO.ite ?_ ?_)
      | (with_reducible refine LeO.bind ?_ (fun _ => ?_))
      | exact ih0 _ _ _ _ _ _
      | exact ih1 _ _
      | exact augurylaw04_head.mono _
      | exact value_Get.mono _ _
      | exact value_Put.mono _ _ _ _
      | exact LeO.none _
      | refine LeO.ite ?_ ?_
      | refine LeO.bind ?_ (fun _ => ?_)
theorem augurylaw04_ValueBack.mono : ∀ a0 a1 a2 a3 k, LeO (augurylaw04_ValueBack.f k a0 a1 a2 a3) (augurylaw04_ValueBack.f (k + 1) a0 a1 a2 a3) := by
  intro a0 a1 a2 a3 k
  obtain ⟨ih0, ih1⟩ := augurylaw04_ValueBack.mono_l k
  unfold augurylaw04_ValueBack.f
  repeat' first
      | (with_reducible exact ih0 _ _ _ _ _ _)
      | (with_reducible exact ih1 _ _)
      | (with_reducible exact augurylaw04_head.mono _)
      | (with_reducible exact value_Get.mono _ _)
      | (with_reducible exact value_Put.mono _ _ _ _)
      | (with_reducible exact LeO.refl _)
      | (with_reducible exact LeO.none _)
      | (with_reducible refine LeO.ite ?_ ?_)
      | (with_reducible refine LeO.bind ?_ (fun _ => ?_))
      | exact ih0 _ _ _ _ _ _
      | exact ih1 _ _
      | exact augurylaw04_head.mono _
      | exact value_Get.mono _ _
      | exact value_Put.mono _ _ _ _
      | exact LeO.none _
      | refine LeO.ite ?_ ?_
      | refine LeO.bind ?_ (fun _ => ?_)
def augurylaw04_ValueBack.T15 : Bool × List (List Nat × List Nat) := (true, [([], []), ([0], [0]), ([1], [1]), ([2, 1, 1], [1, 2]), ([1, 3], [1, 3]), ([4, 3], [4]), ([5], [5]), ([6, 5], [5, 6]), ([5, 7], [5, 7]), ([8, 5], [8]), ([9], [9]), ([9], [9]), ([11, 9], [9, 11]), ([10, 12, 9], [9, 10, 12]), ([9, 13], [9, 13]), ([14, 9], [14]), ([15], [15]), ([16, 15, 15], [15, 16]), ([17, 15], [15, 17]), ([15], [15]), ([15], [15]), ([19, 20, 15], [15, 19, 20]), ([21, 15], [15, 21]), ([18, 22, 15], [15, 18, 22]), ([15, 23], [15, 23]), ([24, 17, 0, 1, 2, 3, 4, 5, 6, 7, 8, 9, 10, 11, 12, 13, 14, 15, 16, 17, 18, 19, 20, 21, 22, 23, 24], [24])])
def augurylaw04_ValueBack.B15 : List Nat := [0, 1, 3, 7, 15, 31, 63, 127, 255, 511, 1023, 1023, 3071, 8191, 16383, 32767, 65535, 131071, 262143, 65535, 65535, 1638399, 3735551, 8388607, 16777215, 33554431]
theorem augurylaw04_ValueBack.tab15 : rtab .any (opsOf Try.f5 15) = augurylaw04_ValueBack.T15 := by kernel_rfl
theorem augurylaw04_ValueBack.bits15 : waitsOk augurylaw04_ValueBack.T15.2 augurylaw04_ValueBack.B15 = true := by kernel_rfl
set_option maxHeartbeats 8000000 in
set_option maxRecDepth 100000 in
theorem augurylaw04_ValueBack.calls (k : Nat) (a0_0 : Int) (a0_1 : Int) (a0_2 : ByteArray) (A1 : Option Addr) (c1 : Nat) (l1 : List Int) (r : Bool) (w : World) (hr1 : Kd.C (Kd.int .u8) w A1 l1.length l1) (hc1 : l1.length ≤ c1) (h : augurylaw04_ValueBack.f k a0_0 a0_1 a0_2 l1 = some r) :
    Calls Try.prog 5 #[.agg #[.int .i64 a0_0, .int .i64 a0_1, .string a0_2], .slice A1 l1.length c1] w fun e w' => e = .returned (.bool r) ∧ Below w.heap.size w w' := by
  have hu23 := Try.underlying23
  have HR1 := Aside0.mk hr1
  have HC1 := Aside0.mk hc1
  clear hr1 hc1
  have HB := Aside0.mk (Below.refl w.heap.size w)
  have H : ((augurylaw04_head.f k).bind fun t368 => (if (a0_2.size : Int) > 9000 then (augurylaw04_ValueBack.j0 k l1 t368 true a0_0 a0_1 a0_2) else (augurylaw04_ValueBack.j0 k l1 t368 (decide ((l1.length : Int) > 9000)) a0_0 a0_1 a0_2))) = some r := h
  clear h
  replace H := Option.bind_eq_some_iff.mp H
  obtain ⟨t368, A30, H⟩ := H
  replace H : (if (a0_2.size : Int) > 9000 then (augurylaw04_ValueBack.j0 k l1 t368 true a0_0 a0_1 a0_2) else (augurylaw04_ValueBack.j0 k l1 t368 (decide ((l1.length : Int) > 9000)) a0_0 a0_1 a0_2)) = some r := H
  have A3 := Aside0.mk A30
  clear A30
  have HC4 := Aside0.mk H
  clear H
  go_enter Try.func5, Try.ntmps5
  go_upto_region 2 with (first | ((with_reducible refine gate_dst (N := 2) rfl ?_); (try (refine gate_guard (by rfl) ?_; dsimp only)); refine box_event ?hg (N := 2) ?hd (cs := #[.int .i64 a0_0, .int .i64 a0_1, .string a0_2]) (t := 23) ?hr ?_; (case hd => rfl); (case hg => rfl); (case hr => first | (go_simp; done) | (go_simp; rfl)); intro gb367 hg w5 hbox hb; have n0_ := Aside0.mk (below_step (by repeat (first | (with_reducible first | exact HB.out | apply below_alloc | apply pw_below_drewN | apply below_drew1) | exact HB.out)) hb); have n1_ := Aside0.mk (hbox); have n2_ := Aside0.mk ((by rw [hg]; exact (below_size (by repeat (first | (with_reducible first | exact HB.out | apply below_alloc | apply pw_below_drewN | apply below_drew1) | exact HB.out))) : w.heap.size ≤ gb367)); have n3_ := Aside0.mk ((by rw [hg]; exact (below_size (by repeat (first | (with_reducible first | exact HB.out | apply below_alloc | apply pw_below_drewN | apply below_drew1) | exact HB.out))) : w.heap.size ≤ gb367)); clear HB; have HB := n0_; have BK367 := n1_; have GW367 := n2_; have GE367 := n3_; clear n0_ n1_ n2_ n3_; clear hb hbox hg) | ((with_reducible refine gate_callee (f := 9) rfl ?_); refine goesL_ (some 16) rfl rfl Try.func9 (by kernel_rfl) rfl #[] rfl (by (try simp only [List.map_toArray, List.map_cons, List.map_nil]); first | done | rfl | (simp only [List.length_drop, List.length_take]; rfl)) ?_; (with_reducible refine (augurylaw04_head.calls k  t368 _ A3.out).mono ?_); rintro e w6 ⟨rfl, hb⟩; refine ⟨_, rfl, ?_⟩; have n0_ := Aside0.mk (blk_below (g := gb367) (o := .cells #[.int .i64 a0_0, .int .i64 a0_1, .string a0_2] 23 (0, 0)) (by (with_reducible repeat (first | refine blk_drewN ?_ _ | refine blk_drew ?_ | refine blk_alloc ?_ _)); exact BK367.out) hb); have n1_ := Aside0.mk (below_step (by repeat (first | (with_reducible first | exact HB.out | apply below_alloc | apply pw_below_drewN | apply below_drew1 | refine below_set ?_ GE367.out) | exact HB.out)) hb); clear BK367; clear HB; have BK367 := n0_; have HB := n1_; clear n0_ n1_; (try clear hb); (try clear hb2); (try clear hk); (try clear hi)))
  (try simp only [Act.put, List.setIfInBounds_toArray, List.set_cons_zero, List.set_cons_succ])
  go_cut [25] (fun v25 wc => ∃ (kq : Nat) (x25_3 : Bool), v25 = .bool x25_3 ∧ Aside0 (augurylaw04_ValueBack.j0 kq l1 t368 x25_3 a0_0 a0_1 a0_2 = some r) ∧ Aside0 (kq ≤ k) ∧ Aside0 (wc.heap[gb367]? = some (.cells #[.int .i64 a0_0, .int .i64 a0_1, .string a0_2] 23 (0, 0))) ∧ Aside0 (Below w.heap.size w wc))
  case first =>
    have H := HC4.out
    clear HC4
    by_cases c7 : (a0_2.size : Int) > 9000
    · rw [if_pos c7] at H
      have c7b0 : decide (9000 < (a0_2.size : Int)) = true := decide_eq_true c7
      have c7b1 : decide (9000 < a0_2.size) = true := decide_eq_true (by omega)
      clear c7
      (first | rw [c7b0] | (simp only [i64_w, i32_w]; rw [c7b0]) | rw [c7b1] | skip)
      have H' := Aside0.mk H
      clear H
      have hcz8_0 : w6.cell? ⟨gb367, 0, none⟩ = some (.int .i64 a0_0) := (blk_cell BK367.out 0).trans rfl
      have hcz8_1 : w6.cell? ⟨gb367, 1, none⟩ = some (.int .i64 a0_1) := (blk_cell BK367.out 1).trans rfl
      have hcz8_2 : w6.cell? ⟨gb367, 2, none⟩ = some (.string a0_2) := (blk_cell BK367.out 2).trans rfl
      have hfz8_0 := blk_frozen BK367.out 0
      have hfz8_1 := blk_frozen BK367.out 1
      have hfz8_2 := blk_frozen BK367.out 2
      go_wp2
      go_meet
      case rel => exact ⟨_, (true), (by first | rfl | (simp; done) | (simp [*]; done) | grind), H', ⟨by first | omega | exact Nat.le_refl _⟩, ⟨by (with_reducible repeat (first | refine blk_drewN ?_ _ | refine blk_drew ?_ | refine blk_alloc ?_ _)); exact BK367.out⟩, ⟨by repeat (first | (with_reducible first | exact HB.out | apply below_alloc | apply pw_below_drewN | apply below_drew1 | refine below_set ?_ GE367.out) | exact HB.out)⟩⟩
    · rw [if_neg c7] at H
      have c7b0 : decide (9000 < (a0_2.size : Int)) = false := decide_eq_false c7
      have c7b1 : decide (9000 < a0_2.size) = false := decide_eq_false (by omega)
      clear c7
      (first | rw [c7b0] | (simp only [i64_w, i32_w]; rw [c7b0]) | rw [c7b1] | skip)
      have H' := Aside0.mk H
      clear H
      have hcz9_0 : w6.cell? ⟨gb367, 0, none⟩ = some (.int .i64 a0_0) := (blk_cell BK367.out 0).trans rfl
      have hcz9_1 : w6.cell? ⟨gb367, 1, none⟩ = some (.int .i64 a0_1) := (blk_cell BK367.out 1).trans rfl
      have hcz9_2 : w6.cell? ⟨gb367, 2, none⟩ = some (.string a0_2) := (blk_cell BK367.out 2).trans rfl
      have hfz9_0 := blk_frozen BK367.out 0
      have hfz9_1 := blk_frozen BK367.out 1
      have hfz9_2 := blk_frozen BK367.out 2
      go_wp2
      go_meet
      case rel => exact ⟨_, (decide ((l1.length : Int) > 9000)), (by first | rfl | (simp; done) | (simp [*]; done) | grind), H', ⟨by first | omega | exact Nat.le_refl _⟩, ⟨by (with_reducible repeat (first | refine blk_drewN ?_ _ | refine blk_drew ?_ | refine blk_alloc ?_ _)); exact BK367.out⟩, ⟨by repeat (first | (with_reducible first | exact HB.out | apply below_alloc | apply pw_below_drewN | apply below_drew1 | refine below_set ?_ GE367.out) | exact HB.out)⟩⟩
  case rest =>
    clear HC4
    try clear c1
    try clear p2
    try clear c5
    try clear c7
    try clear c7b0
    try clear c7b1
    try clear c9
    try clear hcz8_0
    try clear hcz8_1
    try clear hcz8_2
    try clear hcz9_0
    try clear hcz9_1
    try clear hcz9_2
    try clear hfz8_0
    try clear hfz8_1
    try clear hfz8_2
    try clear hfz9_0
    try clear hfz9_1
    try clear hfz9_2
    obtain ⟨kq, x25_3, rfl, HA, HJ3, BK367, HB⟩ := hcut
    cases kq with
    | zero => exact absurd HA.out (by simp [augurylaw04_ValueBack.j0])
    | succ kj3 =>
      have H := HA.out
      clear HA
      simp only [augurylaw04_ValueBack.j0] at H
      by_cases c10 : x25_3 = true
      · subst c10
        have H1 : (if t368 = true then (some true) else (none)) = some r := by rw [if_pos rfl] at H; exact H
        clear H
        have H := H1
        clear H1
        by_cases c11 : t368 = true
        · subst c11
          have H1 : (some true) = some r := by rw [if_pos rfl] at H; exact H
          clear H
          have H := H1
          clear H1
          obtain rfl := Option.some.inj H
          go_wp2
          go_ret
          exact ⟨by first | rfl | (simp [errW_none, errW_some] <;> rfl) | (simp [*, errW_none, errW_some] <;> rfl), by repeat (first | (with_reducible first | exact HB.out | apply below_alloc | apply pw_below_drewN | apply below_drew1 | refine below_set ?_ GE367.out) | exact HB.out)⟩
        · replace c11 := Bool.eq_false_iff.mpr c11
          subst c11
          have H1 : (none) = some r := by rw [if_neg (show ¬ (false = true) by decide)] at H; exact H
          clear H
          have H := H1
          clear H1
          exact absurd H (by simp)
      · replace c10 := Bool.eq_false_iff.mpr c10
        subst c10
        have H1 : ((value_Put.f kj3 a0_0 a0_1 a0_2).bind fun t369 => ((value_Right.f a0_0 a0_1 a0_2).bind fun t372 => (if ((decide ((t369.length : Int) > 0)) != t372) = true then (none) else (if (t369.length : Int) > 0 then ((some (([] : List Int) : List Int)).bind fun y373 => (if y373.length + t369.length < 140737488355328 then ((some (y373 ++ t369 : List Int)).bind fun y376 => (if y376.length + l1.length < 140737488355328 then ((value_Get.f kj3 (y376 ++ l1)).bind fun bt382 => (if 0 ≤ (wrap64 ((t369.length : Int) - 1)) then (if (wrap64 ((t369.length : Int) - 1)) ≤ (t369.length : Int) then ((value_Get.f kj3 (t369.take ((wrap64 ((t369.length : Int) - 1)) : Int).toNat)).bind fun bt392 => (if bt382.2.2.2.2 = true then (if (!(bt382.1 == a0_0) || (!(bt382.2.1 == a0_1) || (!(bt382.2.2.1.toList == a0_2.toList)))) = true then (none) else (if bt382.2.2.2.1 = (t369.length : Int) then (if bt392.2.2.2.2 = true then (none) else (augurylaw04_ValueBack.j1 kj3 l1 t368)) else (none))) else (none))) else (none)) else (none))) else (none))) else (none))) else (augurylaw04_ValueBack.j1 kj3 l1 t368))))) = some r := by rw [if_neg (show ¬ (false = true) by decide)] at H; exact H
        clear H
        have H := H1
        clear H1
        replace H := Option.bind_eq_some_iff.mp H
        obtain ⟨t369, A120, H⟩ := H
        replace H : ((value_Right.f a0_0 a0_1 a0_2).bind fun t372 => (if ((decide ((t369.length : Int) > 0)) != t372) = true then (none) else (if (t369.length : Int) > 0 then ((some (([] : List Int) : List Int)).bind fun y373 => (if y373.length + t369.length < 140737488355328 then ((some (y373 ++ t369 : List Int)).bind fun y376 => (if y376.length + l1.length < 140737488355328 then ((value_Get.f kj3 (y376 ++ l1)).bind fun bt382 => (if 0 ≤ (wrap64 ((t369.length : Int) - 1)) then (if (wrap64 ((t369.length : Int) - 1)) ≤ (t369.length : Int) then ((value_Get.f kj3 (t369.take ((wrap64 ((t369.length : Int) - 1)) : Int).toNat)).bind fun bt392 => (if bt382.2.2.2.2 = true then (if (!(bt382.1 == a0_0) || (!(bt382.2.1 == a0_1) || (!(bt382.2.2.1.toList == a0_2.toList)))) = true then (none) else (if bt382.2.2.2.1 = (t369.length : Int) then (if bt392.2.2.2.2 = true then (none) else (augurylaw04_ValueBack.j1 kj3 l1 t368)) else (none))) else (none))) else (none)) else (none))) else (none))) else (none))) else (augurylaw04_ValueBack.j1 kj3 l1 t368)))) = some r := H
        have A12 := Aside0.mk A120
        clear A120
        replace H := Option.bind_eq_some_iff.mp H
        obtain ⟨t372, A130, H⟩ := H
        replace H : (if ((decide ((t369.length : Int) > 0)) != t372) = true then (none) else (if (t369.length : Int) > 0 then ((some (([] : List Int) : List Int)).bind fun y373 => (if y373.length + t369.length < 140737488355328 then ((some (y373 ++ t369 : List Int)).bind fun y376 => (if y376.length + l1.length < 140737488355328 then ((value_Get.f kj3 (y376 ++ l1)).bind fun bt382 => (if 0 ≤ (wrap64 ((t369.length : Int) - 1)) then (if (wrap64 ((t369.length : Int) - 1)) ≤ (t369.length : Int) then ((value_Get.f kj3 (t369.take ((wrap64 ((t369.length : Int) - 1)) : Int).toNat)).bind fun bt392 => (if bt382.2.2.2.2 = true then (if (!(bt382.1 == a0_0) || (!(bt382.2.1 == a0_1) || (!(bt382.2.2.1.toList == a0_2.toList)))) = true then (none) else (if bt382.2.2.2.1 = (t369.length : Int) then (if bt392.2.2.2.2 = true then (none) else (augurylaw04_ValueBack.j1 kj3 l1 t368)) else (none))) else (none))) else (none)) else (none))) else (none))) else (none))) else (augurylaw04_ValueBack.j1 kj3 l1 t368))) = some r := H
        have A13 := Aside0.mk A130
        clear A130
        by_cases c14 : ((decide ((t369.length : Int) > 0)) != t372) = true
        · rw [if_pos c14] at H
          exact absurd H (by simp)
        · rw [if_neg c14] at H
          have c14b0 : ((decide ((t369.length : Int) > 0)) != t372) = false := by simpa using c14
          (try (have c14b1 : ((decide (0 < (t369.length : Int))) != t372) = false := by first | simpa using c14 | simpa [bne_nil_] using c14))
          (try (have c14b2 : ((decide (0 < (t369.length : Int))) == t372) = true := by first | simpa using c14 | simpa [bne_nil_] using c14))
          (try (have c14b3 : decide ((decide (0 < (t369.length : Int))) = t372) = true := by first | simpa using c14 | simpa [bne_nil_] using c14))
          (try (have c14b4 : ((decide (0 < t369.length)) != t372) = false := by first | simpa using c14 | simpa [bne_nil_] using c14))
          (try (have c14b5 : ((decide (0 < t369.length)) == t372) = true := by first | simpa using c14 | simpa [bne_nil_] using c14))
          (try (have c14b6 : decide ((decide (0 < t369.length)) = t372) = true := by first | simpa using c14 | simpa [bne_nil_] using c14))
          (try (have c14b7 : decide ((decide ((t369.length : Int) > 0)) = t372) = true := by simpa using c14))
          (try (have c14b8 : ((decide ((t369.length : Int) > 0)) == t372) = true := by simpa using c14))
          clear c14
          have HC15 := Aside0.mk H
          clear H
          have hcz16_0 : wc.cell? ⟨gb367, 0, none⟩ = some (.int .i64 a0_0) := (blk_cell BK367.out 0).trans rfl
          have hcz16_1 : wc.cell? ⟨gb367, 1, none⟩ = some (.int .i64 a0_1) := (blk_cell BK367.out 1).trans rfl
          have hcz16_2 : wc.cell? ⟨gb367, 2, none⟩ = some (.string a0_2) := (blk_cell BK367.out 2).trans rfl
          have hfz16_0 := blk_frozen BK367.out 0
          have hfz16_1 := blk_frozen BK367.out 1
          have hfz16_2 := blk_frozen BK367.out 2
          go_upto_if 37 with (first | ((with_reducible refine gate_callee (f := 18) rfl ?_); refine goesL_ (some 28) rfl rfl Try.func18 (by kernel_rfl) rfl #[.agg #[.int .i64 a0_0, .int .i64 a0_1, .string a0_2]] rfl (by (try simp only [List.map_toArray, List.map_cons, List.map_nil]); first | done | rfl | (simp only [List.length_drop, List.length_take]; rfl)) ?_; (with_reducible refine (value_Put.calls kj3 a0_0 a0_1 a0_2 t369 _ A12.out).mono ?_); rintro e w17 ⟨v370, rfl, ho0, hb⟩; refine ⟨_, rfl, ?_⟩; have n0_ := Aside0.mk (Kd.R_lower ho0 (below_size (by repeat (first | (with_reducible first | exact HB.out | apply below_alloc | apply pw_below_drewN | apply below_drew1 | refine below_set ?_ GE367.out) | exact HB.out)))); have n1_ := Aside0.mk (blk_below (g := gb367) (o := .cells #[.int .i64 a0_0, .int .i64 a0_1, .string a0_2] 23 (0, 0)) (by (with_reducible repeat (first | refine blk_drewN ?_ _ | refine blk_drew ?_ | refine blk_alloc ?_ _)); exact BK367.out) hb); have n2_ := Aside0.mk (below_step (by repeat (first | (with_reducible first | exact HB.out | apply below_alloc | apply pw_below_drewN | apply below_drew1 | refine below_set ?_ GE367.out) | exact HB.out)) hb); clear BK367; clear HB; have HO371 := n0_; have BK367 := n1_; have HB := n2_; clear n0_ n1_ n2_; (try clear hb); (try clear hb2); (try clear hk); (try clear hi); (try clear ho0); obtain ⟨Ao18, co18, eo18⟩ := Kd.R_slice HO371.out; subst eo18; have hcz19_0 : w17.cell? ⟨gb367, 0, none⟩ = some (.int .i64 a0_0) := (blk_cell BK367.out 0).trans rfl; have hcz19_1 : w17.cell? ⟨gb367, 1, none⟩ = some (.int .i64 a0_1) := (blk_cell BK367.out 1).trans rfl; have hcz19_2 : w17.cell? ⟨gb367, 2, none⟩ = some (.string a0_2) := (blk_cell BK367.out 2).trans rfl; have hfz19_0 := blk_frozen BK367.out 0; have hfz19_1 := blk_frozen BK367.out 1; have hfz19_2 := blk_frozen BK367.out 2) | ((with_reducible refine gate_callee (f := 16) rfl ?_); refine goesL_ (some 33) rfl rfl Try.func16 (by kernel_rfl) rfl #[.agg #[.int .i64 a0_0, .int .i64 a0_1, .string a0_2]] rfl (by (try simp only [List.map_toArray, List.map_cons, List.map_nil]); first | done | rfl | (simp only [List.length_drop, List.length_take]; rfl)) ?_; (with_reducible refine (value_Right.calls a0_0 a0_1 a0_2 t372 _ A13.out).mono ?_); rintro e w20 ⟨rfl, hb⟩; refine ⟨_, rfl, ?_⟩; have n0_ := Aside0.mk (Kd.R_below (by (with_reducible repeat (first | apply Kd.R_alloc | apply Kd.R_drewN | apply Kd.R_drew)); exact HO371.out) hb); have n1_ := Aside0.mk (blk_below (g := gb367) (o := .cells #[.int .i64 a0_0, .int .i64 a0_1, .string a0_2] 23 (0, 0)) (by (with_reducible repeat (first | refine blk_drewN ?_ _ | refine blk_drew ?_ | refine blk_alloc ?_ _)); exact BK367.out) hb); have n2_ := Aside0.mk (below_step (by repeat (first | (with_reducible first | exact HB.out | apply below_alloc | apply pw_below_drewN | apply below_drew1 | refine below_set ?_ GE367.out) | exact HB.out)) hb); clear HO371; clear BK367; clear HB; have HO371 := n0_; have BK367 := n1_; have HB := n2_; clear n0_ n1_ n2_; (try clear hb); (try clear hb2); (try clear hk); (try clear hi)))
          (try simp only [Act.put, List.setIfInBounds_toArray, List.set_cons_zero, List.set_cons_succ])
          go_cut [] (fun wc => ∃ (kq : Nat), Aside0 (augurylaw04_ValueBack.j1 kq l1 t368 = some r) ∧ Aside0 (kq ≤ kj3) ∧ Aside0 (wc.heap[gb367]? = some (.cells #[.int .i64 a0_0, .int .i64 a0_1, .string a0_2] 23 (0, 0))) ∧ Aside0 (Below w.heap.size w wc))
          case first =>
            have H := HC15.out
            clear HC15
            by_cases c21 : (t369.length : Int) > 0
            · rw [if_pos c21] at H
              have c21b0 : decide (0 < (t369.length : Int)) = true := decide_eq_true c21
              have c21b1 : decide (0 < t369.length) = true := decide_eq_true (by omega)
              clear c21
              (first | rw [c21b0] | (simp only [i64_w, i32_w]; rw [c21b0]) | rw [c21b1] | skip)
              obtain ⟨y373, hy373⟩ : ∃ y_ : List Int, y_ = (([] : List Int)) := ⟨_, rfl⟩
              replace H : (if y373.length + t369.length < 140737488355328 then ((some (y373 ++ t369 : List Int)).bind fun y376 => (if y376.length + l1.length < 140737488355328 then ((value_Get.f kj3 (y376 ++ l1)).bind fun bt382 => (if 0 ≤ (wrap64 ((t369.length : Int) - 1)) then (if (wrap64 ((t369.length : Int) - 1)) ≤ (t369.length : Int) then ((value_Get.f kj3 (t369.take ((wrap64 ((t369.length : Int) - 1)) : Int).toNat)).bind fun bt392 => (if bt382.2.2.2.2 = true then (if (!(bt382.1 == a0_0) || (!(bt382.2.1 == a0_1) || (!(bt382.2.2.1.toList == a0_2.toList)))) = true then (none) else (if bt382.2.2.2.1 = (t369.length : Int) then (if bt392.2.2.2.2 = true then (none) else (augurylaw04_ValueBack.j1 kj3 l1 t368)) else (none))) else (none))) else (none)) else (none))) else (none))) else (none)) = some r := by first | (rw [hy373]; with_reducible exact H) | (have H2_ := (Option.bind_some _ _).symm.trans H; rw [hy373]; with_reducible exact H2_) | (have H2_ := (Option.bind_some _ _).symm.trans H; with_reducible exact H2_) | with_reducible exact H | (rw [hy373]; exact H) | exact H
              have Ny373 := Aside0.mk hy373
              clear hy373
              by_cases c22 : y373.length + t369.length < 140737488355328
              · rw [if_pos c22] at H
                have LMc22 := Aside0.mk c22
                clear c22
                obtain ⟨y376, hy376⟩ : ∃ y_ : List Int, y_ = (y373 ++ t369) := ⟨_, rfl⟩
                replace H : (if y376.length + l1.length < 140737488355328 then ((value_Get.f kj3 (y376 ++ l1)).bind fun bt382 => (if 0 ≤ (wrap64 ((t369.length : Int) - 1)) then (if (wrap64 ((t369.length : Int) - 1)) ≤ (t369.length : Int) then ((value_Get.f kj3 (t369.take ((wrap64 ((t369.length : Int) - 1)) : Int).toNat)).bind fun bt392 => (if bt382.2.2.2.2 = true then (if (!(bt382.1 == a0_0) || (!(bt382.2.1 == a0_1) || (!(bt382.2.2.1.toList == a0_2.toList)))) = true then (none) else (if bt382.2.2.2.1 = (t369.length : Int) then (if bt392.2.2.2.2 = true then (none) else (augurylaw04_ValueBack.j1 kj3 l1 t368)) else (none))) else (none))) else (none)) else (none))) else (none)) = some r := by first | (rw [hy376]; with_reducible exact H) | (have H2_ := (Option.bind_some _ _).symm.trans H; rw [hy376]; with_reducible exact H2_) | (have H2_ := (Option.bind_some _ _).symm.trans H; with_reducible exact H2_) | with_reducible exact H | (rw [hy376]; exact H) | exact H
                have Ny376 := Aside0.mk hy376
                clear hy376
                by_cases c23 : y376.length + l1.length < 140737488355328
                · rw [if_pos c23] at H
                  have LMc23 := Aside0.mk c23
                  clear c23
                  obtain ⟨y379, hy379⟩ : ∃ y_ : List Int, y_ = (y376 ++ l1) := ⟨_, rfl⟩
                  replace H : ((value_Get.f kj3 y379).bind fun bt382 => (if 0 ≤ (wrap64 ((t369.length : Int) - 1)) then (if (wrap64 ((t369.length : Int) - 1)) ≤ (t369.length : Int) then ((value_Get.f kj3 (t369.take ((wrap64 ((t369.length : Int) - 1)) : Int).toNat)).bind fun bt392 => (if bt382.2.2.2.2 = true then (if (!(bt382.1 == a0_0) || (!(bt382.2.1 == a0_1) || (!(bt382.2.2.1.toList == a0_2.toList)))) = true then (none) else (if bt382.2.2.2.1 = (t369.length : Int) then (if bt392.2.2.2.2 = true then (none) else (augurylaw04_ValueBack.j1 kj3 l1 t368)) else (none))) else (none))) else (none)) else (none))) = some r := by first | (rw [hy379]; with_reducible exact H) | (have H2_ := (Option.bind_some _ _).symm.trans H; rw [hy379]; with_reducible exact H2_) | (have H2_ := (Option.bind_some _ _).symm.trans H; with_reducible exact H2_) | with_reducible exact H | (rw [hy379]; exact H) | exact H
                  have Ny379 := Aside0.mk hy379
                  clear hy379
                  replace H := Option.bind_eq_some_iff.mp H
                  obtain ⟨⟨t382, t383, t384, t385, t386⟩, A240, H⟩ := H
                  replace H : (if 0 ≤ (wrap64 ((t369.length : Int) - 1)) then (if (wrap64 ((t369.length : Int) - 1)) ≤ (t369.length : Int) then ((value_Get.f kj3 (t369.take ((wrap64 ((t369.length : Int) - 1)) : Int).toNat)).bind fun bt392 => (if t386 = true then (if (!(t382 == a0_0) || (!(t383 == a0_1) || (!(t384.toList == a0_2.toList)))) = true then (none) else (if t385 = (t369.length : Int) then (if bt392.2.2.2.2 = true then (none) else (augurylaw04_ValueBack.j1 kj3 l1 t368)) else (none))) else (none))) else (none)) else (none)) = some r := H
                  have A24 := Aside0.mk A240
                  clear A240
                  obtain ⟨ji25, hji25⟩ : ∃ j_ : Int, (wrap64 ((t369.length : Int) - 1)) = j_ := ⟨_, rfl⟩
                  replace H : (if 0 ≤ (ji25) then (if (ji25) ≤ (t369.length : Int) then ((value_Get.f kj3 (t369.take ((ji25) : Int).toNat)).bind fun bt392 => (if t386 = true then (if (!(t382 == a0_0) || (!(t383 == a0_1) || (!(t384.toList == a0_2.toList)))) = true then (none) else (if t385 = (t369.length : Int) then (if bt392.2.2.2.2 = true then (none) else (augurylaw04_ValueBack.j1 kj3 l1 t368)) else (none))) else (none))) else (none)) else (none)) = some r := by first | (rw [hji25] at H; exact H) | (simp only [hji25] at H ⊢; exact H)
                  (try rw [hji25] at A24)
                  have hji25w : (IntKind.i64.wrap ((t369.length : Int) - 1)) = ji25 := (i64_w _).trans hji25
                  by_cases c26 : 0 ≤ (ji25)
                  · rw [if_pos c26] at H
                    have c26b0 := eq_true c26
                    have c26b1 : decide (0 ≤ (ji25)) = true := decide_eq_true c26
                    clear c26
                    by_cases c27 : (ji25) ≤ (t369.length : Int)
                    · rw [if_pos c27] at H
                      have c27b0 := eq_true c27
                      have c27b1 : decide ((ji25) ≤ (t369.length : Int)) = true := decide_eq_true c27
                      clear c27
                      obtain ⟨y388, hy388⟩ : ∃ y_ : List Int, y_ = (t369.take ((ji25) : Int).toNat) := ⟨_, rfl⟩
                      replace H : ((value_Get.f kj3 y388).bind fun bt392 => (if t386 = true then (if (!(t382 == a0_0) || (!(t383 == a0_1) || (!(t384.toList == a0_2.toList)))) = true then (none) else (if t385 = (t369.length : Int) then (if bt392.2.2.2.2 = true then (none) else (augurylaw04_ValueBack.j1 kj3 l1 t368)) else (none))) else (none))) = some r := by first | (rw [hy388]; with_reducible exact H) | (have H2_ := (Option.bind_some _ _).symm.trans H; rw [hy388]; with_reducible exact H2_) | (have H2_ := (Option.bind_some _ _).symm.trans H; with_reducible exact H2_) | with_reducible exact H | (rw [hy388]; exact H) | exact H
                      have Ny388 := Aside0.mk hy388
                      clear hy388
                      replace H := Option.bind_eq_some_iff.mp H
                      obtain ⟨⟨t392, t393, t394, t395, t396⟩, A280, H⟩ := H
                      replace H : (if t386 = true then (if (!(t382 == a0_0) || (!(t383 == a0_1) || (!(t384.toList == a0_2.toList)))) = true then (none) else (if t385 = (t369.length : Int) then (if t396 = true then (none) else (augurylaw04_ValueBack.j1 kj3 l1 t368)) else (none))) else (none)) = some r := H
                      have A28 := Aside0.mk A280
                      clear A280
                      by_cases c29 : t386 = true
                      · subst c29
                        have H1 : (if (!(t382 == a0_0) || (!(t383 == a0_1) || (!(t384.toList == a0_2.toList)))) = true then (none) else (if t385 = (t369.length : Int) then (if t396 = true then (none) else (augurylaw04_ValueBack.j1 kj3 l1 t368)) else (none))) = some r := by rw [if_pos rfl] at H; exact H
                        clear H
                        have H := H1
                        clear H1
                        by_cases c30 : (!(t382 == a0_0) || (!(t383 == a0_1) || (!(t384.toList == a0_2.toList)))) = true
                        · rw [if_pos c30] at H
                          exact absurd H (by simp)
                        · rw [if_neg c30] at H
                          have c30b0 : (!(t382 == a0_0) || (!(t383 == a0_1) || (!(t384.toList == a0_2.toList)))) = false := by simpa using c30
                          clear c30
                          by_cases c31 : t385 = (t369.length : Int)
                          · rw [if_pos c31] at H
                            have c31b0 : (t385 == (t369.length : Int)) = true := beq_iff_eq.mpr c31
                            have c31b1 : (t385 != (t369.length : Int)) = false := bne_eq_false_iff_eq.mpr c31
                            clear c31
                            by_cases c32 : t396 = true
                            · subst c32
                              have H1 : (none) = some r := by rw [if_pos rfl] at H; exact H
                              clear H
                              have H := H1
                              clear H1
                              exact absurd H (by simp)
                            · replace c32 := Bool.eq_false_iff.mpr c32
                              subst c32
                              have H1 : (augurylaw04_ValueBack.j1 kj3 l1 t368) = some r := by rw [if_neg (show ¬ (false = true) by decide)] at H; exact H
                              clear H
                              have H := H1
                              clear H1
                              have H' := Aside0.mk H
                              clear H
                              go_wp2_with (first | ((with_reducible refine gate_dst (N := 39) rfl ?_); (try (refine gate_guard (by rfl) ?_; dsimp only)); refine Kd.R_lit (Kd.int .u8) _ 5 ?hg (N := 39) ?hd (xs := ([] : List Int)) (inner := []) (ok := fun _ => True) (okp := fun _ => True) ?hr ?hp (fun _ hk => hk) trivial (Below.refl _ _) (Nat.le_refl _) (by simp) ?_; (case hd => rfl); (case hg => rfl); (case hr => first | (go_simp; done) | (go_simp; rfl)); (case hp => exact (Reps.none _ _)); intro v374 w33 ho34 hb hg_ hnew_; clear hg_ hnew_; (first | rw [← Ny373.out] at ho34 | (simp only [Int.reduceToNat] at ho34; rw [← Ny373.out] at ho34)); have n0_ := Aside0.mk (Kd.R_elder' (by (with_reducible repeat (first | apply Kd.R_alloc | apply Kd.R_drewN | apply Kd.R_drew)); exact HO371.out) (Kd.R_base ho34) hb); have n1_ := Aside0.mk (Kd.R_lower (Kd.R_new' ho34 (Kd.R_lt (by (with_reducible repeat (first | apply Kd.R_alloc | apply Kd.R_drewN | apply Kd.R_drew)); exact HO371.out))) (below_size (by repeat (first | (with_reducible first | exact HB.out | apply below_alloc | apply pw_below_drewN | apply below_drew1 | refine below_set ?_ GE367.out) | exact HB.out)))); have n2_ := Aside0.mk (blk_below (g := gb367) (o := .cells #[.int .i64 a0_0, .int .i64 a0_1, .string a0_2] 23 (0, 0)) (by (with_reducible repeat (first | refine blk_drewN ?_ _ | refine blk_drew ?_ | refine blk_alloc ?_ _)); exact BK367.out) hb); have n3_ := Aside0.mk (below_step (by repeat (first | (with_reducible first | exact HB.out | apply below_alloc | apply pw_below_drewN | apply below_drew1 | refine below_set ?_ GE367.out) | exact HB.out)) hb); clear HO371; clear BK367; clear HB; have HO371 := n0_; have HO375 := n1_; have BK367 := n2_; have HB := n3_; clear n0_ n1_ n2_ n3_; clear hb ho34) | ((with_reducible refine gate_builtin (b := .append) (xs := #[.tmp 39, .tmp 40]) rfl ?_); (try (refine gate_guard (by rfl) ?_; dsimp only)); at_builtin; refine Kd.R_append_rows (Kd.int .u8) (w0 := w) w.heap.size rfl (.tmp 39) (.tmp 40) 31 5 (.int .u8 0) 1 rfl Try.underlying31 info5 rfl (by decide) (by omega) v374 y373 t369 _ _ _ (fun k_ => some k_ ≠ (.slice Ao18 t369.length co18 : Value).ownBlock) (fun _ => False) rfl rfl ?aO ?aR (fun _ _ h => h) (fun _ h => h.elim) ?aF ?aB ?aS ?aL ?_; (case aR => repeat (first | exact (Kd.R_reads' HO371.out).2.2 | (with_reducible refine Kd.C_alloc ?_ _) | (with_reducible refine Kd.C_drewN ?_ _) | (with_reducible refine Kd.C_drew ?_))); (case aB => exact (by repeat (first | (with_reducible first | exact HB.out | apply below_alloc | apply pw_below_drewN | apply below_drew1 | refine below_set ?_ GE367.out) | exact HB.out))); (case aF => exact (fun k_ hk => Kd.fresh' (Kd.R_lt (by (with_reducible repeat (first | apply Kd.R_alloc | apply Kd.R_drewN | apply Kd.R_drew)); exact HO371.out)) k_ hk)); (case aO => exact (by (with_reducible repeat (first | apply Kd.R_alloc | apply Kd.R_drewN | apply Kd.R_drew)); exact Kd.R_mono HO375.out (fun _ hk => hk.2))); (case aS => exact (below_size (by repeat (first | (with_reducible first | exact HB.out | apply below_alloc | apply pw_below_drewN | apply below_drew1 | refine below_set ?_ GE367.out) | exact HB.out)))); (case aL => have := LMc22.out; omega); intro v377 w35 ho hb hg hat; rw [← Ny376.out] at ho; have n0_ := Aside0.mk (blk_grown (g := gb367) (o := .cells #[.int .i64 a0_0, .int .i64 a0_1, .string a0_2] 23 (0, 0)) (by (with_reducible repeat (first | refine blk_drewN ?_ _ | refine blk_drew ?_ | refine blk_alloc ?_ _)); exact BK367.out) hg (Kd.R_ne HO375.out BK367.out (by decide))); have n1_ := Aside0.mk (Kd.R_after (ok := (fun _ => True)) (by (with_reducible repeat (first | apply Kd.R_alloc | apply Kd.R_drewN | apply Kd.R_drew)); exact HO371.out) hg hat); have n2_ := Aside0.mk (hb); have n3_ := Aside0.mk (ho); clear BK367; clear HO371; clear HB; clear HO375; have BK367 := n0_; have HO371 := n1_; have HB := n2_; have HO378 := n3_; clear n0_ n1_ n2_ n3_; clear ho hb hg hat) | ((with_reducible refine gate_builtin (b := .append) (xs := #[.tmp 41, .tmp 42]) rfl ?_); (try (refine gate_guard (by rfl) ?_; dsimp only)); at_builtin; refine Kd.R_append_rows (Kd.int .u8) (w0 := w) w.heap.size rfl (.tmp 41) (.tmp 42) 31 5 (.int .u8 0) 1 rfl Try.underlying31 info5 rfl (by decide) (by omega) v377 y376 l1 _ _ _ (fun k_ => some k_ ≠ (.slice Ao18 t369.length co18 : Value).ownBlock) (fun _ => False) rfl rfl ?aO ?aR (fun _ _ h => h) (fun _ h => h.elim) ?aF ?aB ?aS ?aL ?_; (case aR => repeat (first | exact (Kd.C_below HR1.out HB.out) | (with_reducible refine Kd.C_alloc ?_ _) | (with_reducible refine Kd.C_drewN ?_ _) | (with_reducible refine Kd.C_drew ?_))); (case aB => exact (by repeat (first | (with_reducible first | exact HB.out | apply below_alloc | apply pw_below_drewN | apply below_drew1 | refine below_set ?_ GE367.out) | exact HB.out))); (case aF => exact (fun k_ hk => Kd.fresh' (Kd.R_lt (by (with_reducible repeat (first | apply Kd.R_alloc | apply Kd.R_drewN | apply Kd.R_drew)); exact HO371.out)) k_ hk)); (case aO => exact (by (with_reducible repeat (first | apply Kd.R_alloc | apply Kd.R_drewN | apply Kd.R_drew)); exact HO378.out)); (case aS => exact (below_size (by repeat (first | (with_reducible first | exact HB.out | apply below_alloc | apply pw_below_drewN | apply below_drew1 | refine below_set ?_ GE367.out) | exact HB.out)))); (case aL => have := LMc23.out; omega); intro v380 w36 ho hb hg hat; rw [← Ny379.out] at ho; have n0_ := Aside0.mk (blk_grown (g := gb367) (o := .cells #[.int .i64 a0_0, .int .i64 a0_1, .string a0_2] 23 (0, 0)) (by (with_reducible repeat (first | refine blk_drewN ?_ _ | refine blk_drew ?_ | refine blk_alloc ?_ _)); exact BK367.out) hg (Kd.R_ne HO378.out BK367.out (by decide))); have n1_ := Aside0.mk (Kd.R_after (ok := (fun _ => True)) (by (with_reducible repeat (first | apply Kd.R_alloc | apply Kd.R_drewN | apply Kd.R_drew)); exact HO371.out) hg hat); have n2_ := Aside0.mk (hb); have n3_ := Aside0.mk (ho); clear BK367; clear HO371; clear HB; clear HO378; have BK367 := n0_; have HO371 := n1_; have HB := n2_; have HO381 := n3_; clear n0_ n1_ n2_ n3_; clear ho hb hg hat; obtain ⟨Ao37, co37, eo37⟩ := Kd.R_slice HO381.out; subst eo37) | ((with_reducible refine gate_callee (f := 20) rfl ?_); refine goesL_ (some 44) rfl rfl Try.func20 (by kernel_rfl) rfl #[.slice Ao37 y379.length co37] rfl (by (try simp only [List.map_toArray, List.map_cons, List.map_nil]); first | done | rfl | (simp only [List.length_drop, List.length_take]; rfl)) ?_; (with_reducible refine (value_Get.calls kj3 _ _ y379 t382 t383 t384 t385 true _ ?side1 ?side2 A24.out).mono ?_); (case side1 => repeat (first | exact (Kd.R_reads' HO381.out).2.2 | (with_reducible refine Kd.C_alloc ?_ _) | (with_reducible refine Kd.C_drewN ?_ _) | (with_reducible refine Kd.C_drew ?_))); (case side2 => exact (Kd.R_reads' HO381.out).2.1); rintro e w38 ⟨rfl, hb⟩; refine ⟨_, rfl, ?_⟩; have n0_ := Aside0.mk (Kd.R_below (by (with_reducible repeat (first | apply Kd.R_alloc | apply Kd.R_drewN | apply Kd.R_drew)); exact HO371.out) hb); have n1_ := Aside0.mk (Kd.R_below (by (with_reducible repeat (first | apply Kd.R_alloc | apply Kd.R_drewN | apply Kd.R_drew)); exact HO381.out) hb); have n2_ := Aside0.mk (blk_below (g := gb367) (o := .cells #[.int .i64 a0_0, .int .i64 a0_1, .string a0_2] 23 (0, 0)) (by (with_reducible repeat (first | refine blk_drewN ?_ _ | refine blk_drew ?_ | refine blk_alloc ?_ _)); exact BK367.out) hb); have n3_ := Aside0.mk (below_step (by repeat (first | (with_reducible first | exact HB.out | apply below_alloc | apply pw_below_drewN | apply below_drew1 | refine below_set ?_ GE367.out) | exact HB.out)) hb); clear HO371; clear HO381; clear BK367; clear HB; have HO371 := n0_; have HO381 := n1_; have BK367 := n2_; have HB := n3_; clear n0_ n1_ n2_ n3_; (try clear hb); (try clear hb2); (try clear hk); (try clear hi)) | ((with_reducible refine gate_dst (N := 7) rfl ?_); (try (refine gate_guard (by rfl) ?_; dsimp only)); refine box_event ?hg (N := 7) ?hd (cs := #[.int .i64 0, .int .i64 0, .string (⟨#[]⟩ : ByteArray)]) (t := 23) ?hr ?_; (case hd => rfl); (case hg => rfl); (case hr => first | (go_simp; done) | (go_simp; rfl)); intro gb387 hg w39 hbox hb; have n0_ := Aside0.mk (Kd.R_below (by (with_reducible repeat (first | apply Kd.R_alloc | apply Kd.R_drewN | apply Kd.R_drew)); exact HO371.out) hb); have n1_ := Aside0.mk (Kd.R_below (by (with_reducible repeat (first | apply Kd.R_alloc | apply Kd.R_drewN | apply Kd.R_drew)); exact HO381.out) hb); have n2_ := Aside0.mk (blk_below (g := gb367) (o := .cells #[.int .i64 a0_0, .int .i64 a0_1, .string a0_2] 23 (0, 0)) (by (with_reducible repeat (first | refine blk_drewN ?_ _ | refine blk_drew ?_ | refine blk_alloc ?_ _)); exact BK367.out) hb); have n3_ := Aside0.mk (below_step (by repeat (first | (with_reducible first | exact HB.out | apply below_alloc | apply pw_below_drewN | apply below_drew1 | refine below_set ?_ GE367.out) | exact HB.out)) hb); have n4_ := Aside0.mk (hbox); have n5_ := Aside0.mk ((by rw [hg]; exact (below_size (by repeat (first | (with_reducible first | exact HB.out | apply below_alloc | apply pw_below_drewN | apply below_drew1 | refine below_set ?_ GE367.out) | exact HB.out))) : w.heap.size ≤ gb387)); have n6_ := Aside0.mk ((by rw [hg]; exact (below_size (by repeat (first | (with_reducible first | exact HB.out | apply below_alloc | apply pw_below_drewN | apply below_drew1 | refine below_set ?_ GE367.out) | exact HB.out))) : w.heap.size ≤ gb387)); have n7_ := Aside0.mk ((by rw [hg]; exact Nat.ne_of_lt (blk_lt (g := gb367) (o := .cells #[.int .i64 a0_0, .int .i64 a0_1, .string a0_2] 23 (0, 0)) (by (with_reducible repeat (first | refine blk_drewN ?_ _ | refine blk_drew ?_ | refine blk_alloc ?_ _)); exact BK367.out)) : gb367 ≠ gb387)); have n8_ := Aside0.mk ((by rw [hg]; exact Nat.ne_of_gt (blk_lt (g := gb367) (o := .cells #[.int .i64 a0_0, .int .i64 a0_1, .string a0_2] 23 (0, 0)) (by (with_reducible repeat (first | refine blk_drewN ?_ _ | refine blk_drew ?_ | refine blk_alloc ?_ _)); exact BK367.out)) : gb387 ≠ gb367)); clear HO371; clear HO381; clear BK367; clear HB; have HO371 := n0_; have HO381 := n1_; have BK367 := n2_; have HB := n3_; have BK387 := n4_; have GW387 := n5_; have GE387 := n6_; have NB367_387 := n7_; have NB387_367 := n8_; clear n0_ n1_ n2_ n3_ n4_ n5_ n6_ n7_ n8_; clear hb hbox hg; have hnb40 := NB387_367.out; have hnc40 := NB367_387.out; have hcz41_0 : w39.cell? ⟨gb387, 0, none⟩ = some (.int .i64 0) := (blk_cell BK387.out 0).trans rfl; have hcz41_1 : w39.cell? ⟨gb387, 1, none⟩ = some (.int .i64 0) := (blk_cell BK387.out 1).trans rfl; have hcz41_2 : w39.cell? ⟨gb387, 2, none⟩ = some (.string (⟨#[]⟩ : ByteArray)) := (blk_cell BK387.out 2).trans rfl; have hfz41_0 := blk_frozen BK387.out 0; have hfz41_1 := blk_frozen BK387.out 1; have hfz41_2 := blk_frozen BK387.out 2) | ((with_reducible refine gate_store (t := 23) (p := 7) rfl ?_); refine store_event (t := 23) (p := 7) (v := ?vo_w42) (w1 := (((w39.setCell ⟨gb387, 0, none⟩ (.int .i64 t382)).setCell ⟨gb387, 1, none⟩ (.int .i64 t383)).setCell ⟨gb387, 2, none⟩ (.string t384))) ?hg ?ho ?hn ?hr ?_; (case ho => rfl); (case hg => rfl); (case hn => rfl); (case hr => first | (go_simp; done) | (go_simp; rfl)); intro w42 hw; have n0_ : Aside0 (Kd.R (Kd.int .u8) 5 w42 w.heap.size (fun k_ => some k_ ≠ (.slice Ao37 y379.length co37 : Value).ownBlock) (.slice Ao18 t369.length co18) t369) := ⟨(by rw [hw]; exact (by (with_reducible repeat (first | apply Kd.R_alloc | apply Kd.R_drewN | apply Kd.R_drew)); exact Kd.R_mono (Kd.R_far (p := ⟨gb387, 2, none⟩) (Kd.R_far (p := ⟨gb387, 1, none⟩) (Kd.R_far (p := ⟨gb387, 0, none⟩) (Kd.R_types HO371.out BK387.out (by decide)) (fun _ hk => hk.2) (.int .i64 t382)) (fun _ hk => hk.2) (.int .i64 t383)) (fun _ hk => hk.2) (.string t384)) (fun _ hk => hk.1.2)))⟩; have n1_ : Aside0 (Kd.R (Kd.int .u8) 5 w42 w.heap.size (fun k_ => some k_ ≠ (.slice Ao18 t369.length co18 : Value).ownBlock) (.slice Ao37 y379.length co37) y379) := ⟨(by rw [hw]; exact (by (with_reducible repeat (first | apply Kd.R_alloc | apply Kd.R_drewN | apply Kd.R_drew)); exact Kd.R_mono (Kd.R_far (p := ⟨gb387, 2, none⟩) (Kd.R_far (p := ⟨gb387, 1, none⟩) (Kd.R_far (p := ⟨gb387, 0, none⟩) (Kd.R_types HO381.out BK387.out (by decide)) (fun _ hk => hk.2) (.int .i64 t382)) (fun _ hk => hk.2) (.int .i64 t383)) (fun _ hk => hk.2) (.string t384)) (fun _ hk => hk.1)))⟩; have n2_ : Aside0 (w42.heap[gb367]? = some (.cells #[.int .i64 a0_0, .int .i64 a0_1, .string a0_2] 23 (0, 0))) := ⟨(by rw [hw]; exact (by (with_reducible repeat (first | refine blk_drewN ?_ _ | refine blk_drew ?_ | refine blk_alloc ?_ _)); refine blk_far ?_ NB367_387.out _; (with_reducible repeat (first | refine blk_drewN ?_ _ | refine blk_drew ?_ | refine blk_alloc ?_ _)); refine blk_far ?_ NB367_387.out _; (with_reducible repeat (first | refine blk_drewN ?_ _ | refine blk_drew ?_ | refine blk_alloc ?_ _)); refine blk_far ?_ NB367_387.out _; (with_reducible repeat (first | refine blk_drewN ?_ _ | refine blk_drew ?_ | refine blk_alloc ?_ _)); exact BK367.out))⟩; have n3_ : Aside0 (w42.heap[gb387]? = some (.cells #[.int .i64 t382, .int .i64 t383, .string t384] 23 (0, 0))) := ⟨(by rw [hw]; exact (by (with_reducible repeat (first | refine blk_drewN ?_ _ | refine blk_drew ?_ | refine blk_alloc ?_ _)); refine blk_put (cs := #[.int .i64 t382, .int .i64 t383, .string (⟨#[]⟩ : ByteArray)]) ?_ 2 _ rfl; (with_reducible repeat (first | refine blk_drewN ?_ _ | refine blk_drew ?_ | refine blk_alloc ?_ _)); refine blk_put (cs := #[.int .i64 t382, .int .i64 0, .string (⟨#[]⟩ : ByteArray)]) ?_ 1 _ rfl; (with_reducible repeat (first | refine blk_drewN ?_ _ | refine blk_drew ?_ | refine blk_alloc ?_ _)); refine blk_put (cs := #[.int .i64 0, .int .i64 0, .string (⟨#[]⟩ : ByteArray)]) ?_ 0 _ rfl; (with_reducible repeat (first | refine blk_drewN ?_ _ | refine blk_drew ?_ | refine blk_alloc ?_ _)); exact BK387.out))⟩; have n4_ : Aside0 (Below w.heap.size w w42) := ⟨(by rw [hw]; exact (by repeat (first | (with_reducible first | exact HB.out | apply below_alloc | apply pw_below_drewN | apply below_drew1 | refine below_set ?_ GE367.out | refine below_set ?_ GE387.out) | exact HB.out)))⟩; clear hw; clear HO371; clear HO381; clear BK367; clear BK387; clear HB; have HO371 := n0_; have HO381 := n1_; have BK367 := n2_; have BK387 := n3_; have HB := n4_; clear n0_ n1_ n2_ n3_ n4_; have q43 : ((ji25) : Int) ≤ ((t369.length : Int) : Int) := of_decide_eq_true (by first | (with_reducible assumption) | assumption); obtain ⟨i043, hi043, _, hsz43, _⟩ := info_parts info5; have hroom43 : t369.length ≤ co18 := (Kd.R_reads' HO371.out).2.1; have hC43 : Kd.C (Kd.int .u8) _ Ao18 t369.length t369 := (Kd.R_reads' HO371.out).2.2; have hcut43 := cut_to (P := Try.prog) 31 5 .i64 Try.underlying31 hi043 Ao18 t369.length co18 (ji25) (of_decide_eq_true (by first | (with_reducible assumption) | assumption)) q43 hroom43; have hr43 := Kd.C_take (m := ((ji25) : Int).toNat) hC43 (by omega); have hy43 : y388.length = ((ji25) : Int).toNat := (by rw [Ny388.out, List.length_take]; omega); rw [← Ny388.out] at hr43; rw [← hy43] at hcut43; have HR391 := Aside0.mk hr43; have HC391 := Aside0.mk (show y388.length ≤ co18 from by omega); clear hr43 hC43 hroom43 hi043 hsz43; have KY43 := Aside0.mk hy43; clear hy43; have KL43 := Aside0.mk (show ((ji25) : Int).toNat ≤ t369.length from by omega); replace q43 := eq_true q43) | ((with_reducible refine gate_callee (f := 20) rfl ?_); refine goesL_ (some 54) rfl rfl Try.func20 (by kernel_rfl) rfl #[.slice Ao18 y388.length co18] rfl (by (try simp only [List.map_toArray, List.map_cons, List.map_nil]); first | done | rfl | (simp only [List.length_drop, List.length_take]; rfl)) ?_; (with_reducible refine (value_Get.calls kj3 _ _ y388 t392 t393 t394 t395 false _ ?side1 ?side2 A28.out).mono ?_); (case side1 => repeat (first | exact (by repeat (first | (with_reducible exact HR391.out) | (with_reducible refine Kd.C_alloc ?_ _) | (with_reducible refine Kd.C_drewN ?_ _) | (with_reducible refine Kd.C_drew ?_) | exact HR391.out)) | (with_reducible refine Kd.C_alloc ?_ _) | (with_reducible refine Kd.C_drewN ?_ _) | (with_reducible refine Kd.C_drew ?_))); (case side2 => exact HC391.out); rintro e w44 ⟨rfl, hb⟩; refine ⟨_, rfl, ?_⟩; have n0_ := Aside0.mk (Kd.R_below (by (with_reducible repeat (first | apply Kd.R_alloc | apply Kd.R_drewN | apply Kd.R_drew)); exact HO371.out) hb); have n1_ := Aside0.mk (Kd.R_below (by (with_reducible repeat (first | apply Kd.R_alloc | apply Kd.R_drewN | apply Kd.R_drew)); exact HO381.out) hb); have n2_ := Aside0.mk (blk_below (g := gb367) (o := .cells #[.int .i64 a0_0, .int .i64 a0_1, .string a0_2] 23 (0, 0)) (by (with_reducible repeat (first | refine blk_drewN ?_ _ | refine blk_drew ?_ | refine blk_alloc ?_ _)); exact BK367.out) hb); have n3_ := Aside0.mk (blk_below (g := gb387) (o := .cells #[.int .i64 t382, .int .i64 t383, .string t384] 23 (0, 0)) (by (with_reducible repeat (first | refine blk_drewN ?_ _ | refine blk_drew ?_ | refine blk_alloc ?_ _)); exact BK387.out) hb); have n4_ := Aside0.mk (Kd.C_below (by repeat (first | (with_reducible exact HR391.out) | (with_reducible refine Kd.C_alloc ?_ _) | (with_reducible refine Kd.C_drewN ?_ _) | (with_reducible refine Kd.C_drew ?_) | exact HR391.out)) hb); have n5_ := Aside0.mk (below_step (by repeat (first | (with_reducible first | exact HB.out | apply below_alloc | apply pw_below_drewN | apply below_drew1 | refine below_set ?_ GE367.out | refine below_set ?_ GE387.out) | exact HB.out)) hb); clear HO371; clear HO381; clear BK367; clear BK387; clear HR391; clear HB; have HO371 := n0_; have HO381 := n1_; have BK367 := n2_; have BK387 := n3_; have HR391 := n4_; have HB := n5_; clear n0_ n1_ n2_ n3_ n4_ n5_; (try clear hb); (try clear hb2); (try clear hk); (try clear hi)) | ((with_reducible refine gate_dst (N := 10) rfl ?_); (try (refine gate_guard (by rfl) ?_; dsimp only)); refine box_event ?hg (N := 10) ?hd (cs := #[.int .i64 0, .int .i64 0, .string (⟨#[]⟩ : ByteArray)]) (t := 23) ?hr ?_; (case hd => rfl); (case hg => rfl); (case hr => first | (go_simp; done) | (go_simp; rfl)); intro gb397 hg w45 hbox hb; have n0_ := Aside0.mk (Kd.R_below (by (with_reducible repeat (first | apply Kd.R_alloc | apply Kd.R_drewN | apply Kd.R_drew)); exact HO371.out) hb); have n1_ := Aside0.mk (Kd.R_below (by (with_reducible repeat (first | apply Kd.R_alloc | apply Kd.R_drewN | apply Kd.R_drew)); exact HO381.out) hb); have n2_ := Aside0.mk (blk_below (g := gb367) (o := .cells #[.int .i64 a0_0, .int .i64 a0_1, .string a0_2] 23 (0, 0)) (by (with_reducible repeat (first | refine blk_drewN ?_ _ | refine blk_drew ?_ | refine blk_alloc ?_ _)); exact BK367.out) hb); have n3_ := Aside0.mk (blk_below (g := gb387) (o := .cells #[.int .i64 t382, .int .i64 t383, .string t384] 23 (0, 0)) (by (with_reducible repeat (first | refine blk_drewN ?_ _ | refine blk_drew ?_ | refine blk_alloc ?_ _)); exact BK387.out) hb); have n4_ := Aside0.mk (Kd.C_below (by repeat (first | (with_reducible exact HR391.out) | (with_reducible refine Kd.C_alloc ?_ _) | (with_reducible refine Kd.C_drewN ?_ _) | (with_reducible refine Kd.C_drew ?_) | exact HR391.out)) hb); have n5_ := Aside0.mk (below_step (by repeat (first | (with_reducible first | exact HB.out | apply below_alloc | apply pw_below_drewN | apply below_drew1 | refine below_set ?_ GE367.out | refine below_set ?_ GE387.out) | exact HB.out)) hb); have n6_ := Aside0.mk (hbox); have n7_ := Aside0.mk ((by rw [hg]; exact (below_size (by repeat (first | (with_reducible first | exact HB.out | apply below_alloc | apply pw_below_drewN | apply below_drew1 | refine below_set ?_ GE367.out | refine below_set ?_ GE387.out) | exact HB.out))) : w.heap.size ≤ gb397)); have n8_ := Aside0.mk ((by rw [hg]; exact (below_size (by repeat (first | (with_reducible first | exact HB.out | apply below_alloc | apply pw_below_drewN | apply below_drew1 | refine below_set ?_ GE367.out | refine below_set ?_ GE387.out) | exact HB.out))) : w.heap.size ≤ gb397)); have n9_ := Aside0.mk ((by rw [hg]; exact Nat.ne_of_lt (blk_lt (g := gb367) (o := .cells #[.int .i64 a0_0, .int .i64 a0_1, .string a0_2] 23 (0, 0)) (by (with_reducible repeat (first | refine blk_drewN ?_ _ | refine blk_drew ?_ | refine blk_alloc ?_ _)); exact BK367.out)) : gb367 ≠ gb397)); have n10_ := Aside0.mk ((by rw [hg]; exact Nat.ne_of_gt (blk_lt (g := gb367) (o := .cells #[.int .i64 a0_0, .int .i64 a0_1, .string a0_2] 23 (0, 0)) (by (with_reducible repeat (first | refine blk_drewN ?_ _ | refine blk_drew ?_ | refine blk_alloc ?_ _)); exact BK367.out)) : gb397 ≠ gb367)); have n11_ := Aside0.mk ((by rw [hg]; exact Nat.ne_of_lt (blk_lt (g := gb387) (o := .cells #[.int .i64 t382, .int .i64 t383, .string t384] 23 (0, 0)) (by (with_reducible repeat (first | refine blk_drewN ?_ _ | refine blk_drew ?_ | refine blk_alloc ?_ _)); exact BK387.out)) : gb387 ≠ gb397)); have n12_ := Aside0.mk ((by rw [hg]; exact Nat.ne_of_gt (blk_lt (g := gb387) (o := .cells #[.int .i64 t382, .int .i64 t383, .string t384] 23 (0, 0)) (by (with_reducible repeat (first | refine blk_drewN ?_ _ | refine blk_drew ?_ | refine blk_alloc ?_ _)); exact BK387.out)) : gb397 ≠ gb387)); clear HO371; clear HO381; clear BK367; clear BK387; clear HR391; clear HB; have HO371 := n0_; have HO381 := n1_; have BK367 := n2_; have BK387 := n3_; have HR391 := n4_; have HB := n5_; have BK397 := n6_; have GW397 := n7_; have GE397 := n8_; have NB367_397 := n9_; have NB397_367 := n10_; have NB387_397 := n11_; have NB397_387 := n12_; clear n0_ n1_ n2_ n3_ n4_ n5_ n6_ n7_ n8_ n9_ n10_ n11_ n12_; clear hb hbox hg; have hnb46 := NB397_367.out; have hnc46 := NB367_397.out; have hnb47 := NB397_387.out; have hnc47 := NB387_397.out; have hcz48_0 : w45.cell? ⟨gb397, 0, none⟩ = some (.int .i64 0) := (blk_cell BK397.out 0).trans rfl; have hcz48_1 : w45.cell? ⟨gb397, 1, none⟩ = some (.int .i64 0) := (blk_cell BK397.out 1).trans rfl; have hcz48_2 : w45.cell? ⟨gb397, 2, none⟩ = some (.string (⟨#[]⟩ : ByteArray)) := (blk_cell BK397.out 2).trans rfl; have hfz48_0 := blk_frozen BK397.out 0; have hfz48_1 := blk_frozen BK397.out 1; have hfz48_2 := blk_frozen BK397.out 2; have hcz49_0 : w45.cell? ⟨gb387, 0, none⟩ = some (.int .i64 t382) := (blk_cell BK387.out 0).trans rfl; have hcz49_1 : w45.cell? ⟨gb387, 1, none⟩ = some (.int .i64 t383) := (blk_cell BK387.out 1).trans rfl; have hcz49_2 : w45.cell? ⟨gb387, 2, none⟩ = some (.string t384) := (blk_cell BK387.out 2).trans rfl; have hfz49_0 := blk_frozen BK387.out 0; have hfz49_1 := blk_frozen BK387.out 1; have hfz49_2 := blk_frozen BK387.out 2; have hcz50_0 : w45.cell? ⟨gb367, 0, none⟩ = some (.int .i64 a0_0) := (blk_cell BK367.out 0).trans rfl; have hcz50_1 : w45.cell? ⟨gb367, 1, none⟩ = some (.int .i64 a0_1) := (blk_cell BK367.out 1).trans rfl; have hcz50_2 : w45.cell? ⟨gb367, 2, none⟩ = some (.string a0_2) := (blk_cell BK367.out 2).trans rfl; have hfz50_0 := blk_frozen BK367.out 0; have hfz50_1 := blk_frozen BK367.out 1; have hfz50_2 := blk_frozen BK367.out 2))
                              go_meet
                              case rel => exact ⟨_, H', ⟨by have := HJ3.out; first | omega | exact Nat.le_refl _⟩, ⟨by (with_reducible repeat (first | refine blk_drewN ?_ _ | refine blk_drew ?_ | refine blk_alloc ?_ _)); refine blk_far ?_ NB367_397.out _; (with_reducible repeat (first | refine blk_drewN ?_ _ | refine blk_drew ?_ | refine blk_alloc ?_ _)); refine blk_far ?_ NB367_397.out _; (with_reducible repeat (first | refine blk_drewN ?_ _ | refine blk_drew ?_ | refine blk_alloc ?_ _)); refine blk_far ?_ NB367_397.out _; (with_reducible repeat (first | refine blk_drewN ?_ _ | refine blk_drew ?_ | refine blk_alloc ?_ _)); exact BK367.out⟩, ⟨by repeat (first | (with_reducible first | exact HB.out | apply below_alloc | apply pw_below_drewN | apply below_drew1 | refine below_set ?_ GE367.out | refine below_set ?_ GE387.out | refine below_set ?_ GE397.out) | exact HB.out)⟩⟩
                          · rw [if_neg c31] at H
                            exact absurd H (by simp)
                      · replace c29 := Bool.eq_false_iff.mpr c29
                        subst c29
                        have H1 : (none) = some r := by rw [if_neg (show ¬ (false = true) by decide)] at H; exact H
                        clear H
                        have H := H1
                        clear H1
                        exact absurd H (by simp)
                    · rw [if_neg c27] at H
                      exact absurd H (by simp)
                  · rw [if_neg c26] at H
                    exact absurd H (by simp)
                · rw [if_neg c23] at H
                  exact absurd H (by simp)
              · rw [if_neg c22] at H
                exact absurd H (by simp)
            · rw [if_neg c21] at H
              have c21b0 : decide (0 < (t369.length : Int)) = false := decide_eq_false c21
              have c21b1 : decide (0 < t369.length) = false := decide_eq_false (by omega)
              clear c21
              (first | rw [c21b0] | (simp only [i64_w, i32_w]; rw [c21b0]) | rw [c21b1] | skip)
              have H' := Aside0.mk H
              clear H
              go_wp2
              go_meet
              case rel => exact ⟨_, H', ⟨by have := HJ3.out; first | omega | exact Nat.le_refl _⟩, ⟨by (with_reducible repeat (first | refine blk_drewN ?_ _ | refine blk_drew ?_ | refine blk_alloc ?_ _)); exact BK367.out⟩, ⟨by repeat (first | (with_reducible first | exact HB.out | apply below_alloc | apply pw_below_drewN | apply below_drew1 | refine below_set ?_ GE367.out) | exact HB.out)⟩⟩
          case rest =>
            clear HC15
            try clear c1
            try clear c2
            try clear p2
            try clear c3
            try clear c4
            try clear q4
            try clear c5
            try clear p6
            try clear c7
            try clear c7b0
            try clear c7b1
            try clear c9
            try clear c10
            try clear c11
            try clear c14
            try clear c14b0
            try clear c14b1
            try clear c14b2
            try clear c16
            try clear c18
            try clear c20
            try clear c21
            try clear c21b0
            try clear c21b1
            try clear c22
            try clear c23
            try clear c26
            try clear c26b0
            try clear c26b1
            try clear c27
            try clear c27b0
            try clear c27b1
            try clear c29
            try clear c30
            try clear c30b0
            try clear c31
            try clear c31b0
            try clear c31b1
            try clear c32
            try clear c40
            try clear q43
            try clear c46
            try clear c47
            try clear hcz16_0
            try clear hcz16_1
            try clear hcz16_2
            try clear hcz19_0
            try clear hcz19_1
            try clear hcz19_2
            try clear hcz41_0
            try clear hcz41_1
            try clear hcz41_2
            try clear hcz48_0
            try clear hcz48_1
            try clear hcz48_2
            try clear hcz49_0
            try clear hcz49_1
            try clear hcz49_2
            try clear hcz50_0
            try clear hcz50_1
            try clear hcz50_2
            try clear hcz8_0
            try clear hcz8_1
            try clear hcz8_2
            try clear hcz9_0
            try clear hcz9_1
            try clear hcz9_2
            try clear hfz16_0
            try clear hfz16_1
            try clear hfz16_2
            try clear hfz19_0
            try clear hfz19_1
            try clear hfz19_2
            try clear hfz41_0
            try clear hfz41_1
            try clear hfz41_2
            try clear hfz48_0
            try clear hfz48_1
            try clear hfz48_2
            try clear hfz49_0
            try clear hfz49_1
            try clear hfz49_2
            try clear hfz50_0
            try clear hfz50_1
            try clear hfz50_2
            try clear hfz8_0
            try clear hfz8_1
            try clear hfz8_2
            try clear hfz9_0
            try clear hfz9_1
            try clear hfz9_2
            try clear p2
            try clear q43
            obtain ⟨kq, HA, HJ14, BK367, HB⟩ := hcut
            cases kq with
            | zero => exact absurd HA.out (by simp [augurylaw04_ValueBack.j1])
            | succ kj14 =>
              have H := HA.out
              clear HA
              simp only [augurylaw04_ValueBack.j1] at H
              replace H := Option.bind_eq_some_iff.mp H
              obtain ⟨⟨t398, t399, t400, t401, t402⟩, A510, H⟩ := H
              replace H : (if t402 = true then (if t368 = true then ((value_Right.f t398 t399 t400).bind fun t404 => (if t404 = true then (if t401 > 0 then (if t401 ≤ (l1.length : Int) then ((value_Put.f kj14 t398 t399 t400).bind fun t405 => (if 0 ≤ t401 then (if (strOfNums t405).toList = (strOfNums (l1.take (t401 : Int).toNat)).toList then (some true) else (none)) else (none))) else (none)) else (none)) else (none))) else (none)) else (if t368 = true then (if t401 = 0 then (some true) else (none)) else (none))) = some r := H
              have A51 := Aside0.mk A510
              clear A510
              by_cases c52 : t402 = true
              · subst c52
                have H1 : (if t368 = true then ((value_Right.f t398 t399 t400).bind fun t404 => (if t404 = true then (if t401 > 0 then (if t401 ≤ (l1.length : Int) then ((value_Put.f kj14 t398 t399 t400).bind fun t405 => (if 0 ≤ t401 then (if (strOfNums t405).toList = (strOfNums (l1.take (t401 : Int).toNat)).toList then (some true) else (none)) else (none))) else (none)) else (none)) else (none))) else (none)) = some r := by rw [if_pos rfl] at H; exact H
                clear H
                have H := H1
                clear H1
                by_cases c53 : t368 = true
                · subst c53
                  have H1 : ((value_Right.f t398 t399 t400).bind fun t404 => (if t404 = true then (if t401 > 0 then (if t401 ≤ (l1.length : Int) then ((value_Put.f kj14 t398 t399 t400).bind fun t405 => (if 0 ≤ t401 then (if (strOfNums t405).toList = (strOfNums (l1.take (t401 : Int).toNat)).toList then (some true) else (none)) else (none))) else (none)) else (none)) else (none))) = some r := by rw [if_pos rfl] at H; exact H
                  clear H
                  have H := H1
                  clear H1
                  replace H := Option.bind_eq_some_iff.mp H
                  obtain ⟨t404, A540, H⟩ := H
                  replace H : (if t404 = true then (if t401 > 0 then (if t401 ≤ (l1.length : Int) then ((value_Put.f kj14 t398 t399 t400).bind fun t405 => (if 0 ≤ t401 then (if (strOfNums t405).toList = (strOfNums (l1.take (t401 : Int).toNat)).toList then (some true) else (none)) else (none))) else (none)) else (none)) else (none)) = some r := H
                  have A54 := Aside0.mk A540
                  clear A540
                  by_cases c55 : t404 = true
                  · subst c55
                    have H1 : (if t401 > 0 then (if t401 ≤ (l1.length : Int) then ((value_Put.f kj14 t398 t399 t400).bind fun t405 => (if 0 ≤ t401 then (if (strOfNums t405).toList = (strOfNums (l1.take (t401 : Int).toNat)).toList then (some true) else (none)) else (none))) else (none)) else (none)) = some r := by rw [if_pos rfl] at H; exact H
                    clear H
                    have H := H1
                    clear H1
                    by_cases c56 : t401 > 0
                    · rw [if_pos c56] at H
                      have c56b0 : decide (0 < t401) = true := decide_eq_true c56
                      clear c56
                      by_cases c57 : t401 ≤ (l1.length : Int)
                      · rw [if_pos c57] at H
                        have c57b0 : decide (t401 ≤ (l1.length : Int)) = true := decide_eq_true c57
                        clear c57
                        replace H := Option.bind_eq_some_iff.mp H
                        obtain ⟨t405, A580, H⟩ := H
                        replace H : (if 0 ≤ t401 then (if (strOfNums t405).toList = (strOfNums (l1.take (t401 : Int).toNat)).toList then (some true) else (none)) else (none)) = some r := H
                        have A58 := Aside0.mk A580
                        clear A580
                        by_cases c59 : 0 ≤ t401
                        · rw [if_pos c59] at H
                          have c59b0 := eq_true c59
                          have c59b1 : decide (0 ≤ t401) = true := decide_eq_true c59
                          clear c59
                          have c60b0 := eq_true (of_decide_eq_true (by first | (with_reducible assumption) | assumption) : t401 ≤ (l1.length : Int))
                          by_cases c61 : (strOfNums t405).toList = (strOfNums (l1.take (t401 : Int).toNat)).toList
                          · rw [if_pos c61] at H
                            have c61b0 : ((strOfNums t405).toList == (strOfNums (l1.take (t401 : Int).toNat)).toList) = true := beq_iff_eq.mpr c61
                            have c61b1 : ((strOfNums t405).toList != (strOfNums (l1.take (t401 : Int).toNat)).toList) = false := bne_eq_false_iff_eq.mpr c61
                            clear c61
                            obtain rfl := Option.some.inj H
                            try go_wp2_with (first | ((with_reducible refine gate_callee (f := 20) rfl ?_); refine goesL_ (some 76) rfl rfl Try.func20 (by kernel_rfl) rfl #[.slice A1 l1.length c1] rfl (by (try simp only [List.map_toArray, List.map_cons, List.map_nil]); first | done | rfl | (simp only [List.length_drop, List.length_take]; rfl)) ?_; (with_reducible refine (value_Get.calls kj14 _ _ l1 t398 t399 t400 t401 true _ ?side1 ?side2 A51.out).mono ?_); (case side1 => repeat (first | exact (Kd.C_below HR1.out HB.out) | (with_reducible refine Kd.C_alloc ?_ _) | (with_reducible refine Kd.C_drewN ?_ _) | (with_reducible refine Kd.C_drew ?_))); (case side2 => exact HC1.out); rintro e w62 ⟨rfl, hb⟩; refine ⟨_, rfl, ?_⟩; have n0_ := Aside0.mk (blk_below (g := gb367) (o := .cells #[.int .i64 a0_0, .int .i64 a0_1, .string a0_2] 23 (0, 0)) (by (with_reducible repeat (first | refine blk_drewN ?_ _ | refine blk_drew ?_ | refine blk_alloc ?_ _)); exact BK367.out) hb); have n1_ := Aside0.mk (below_step (by repeat (first | (with_reducible first | exact HB.out | apply below_alloc | apply pw_below_drewN | apply below_drew1 | refine below_set ?_ GE367.out) | exact HB.out)) hb); clear BK367; clear HB; have BK367 := n0_; have HB := n1_; clear n0_ n1_; (try clear hb); (try clear hb2); (try clear hk); (try clear hi)) | ((with_reducible refine gate_dst (N := 13) rfl ?_); (try (refine gate_guard (by rfl) ?_; dsimp only)); refine box_event ?hg (N := 13) ?hd (cs := #[.int .i64 0, .int .i64 0, .string (⟨#[]⟩ : ByteArray)]) (t := 23) ?hr ?_; (case hd => rfl); (case hg => rfl); (case hr => first | (go_simp; done) | (go_simp; rfl)); intro gb403 hg w63 hbox hb; have n0_ := Aside0.mk (blk_below (g := gb367) (o := .cells #[.int .i64 a0_0, .int .i64 a0_1, .string a0_2] 23 (0, 0)) (by (with_reducible repeat (first | refine blk_drewN ?_ _ | refine blk_drew ?_ | refine blk_alloc ?_ _)); exact BK367.out) hb); have n1_ := Aside0.mk (below_step (by repeat (first | (with_reducible first | exact HB.out | apply below_alloc | apply pw_below_drewN | apply below_drew1 | refine below_set ?_ GE367.out) | exact HB.out)) hb); have n2_ := Aside0.mk (hbox); have n3_ := Aside0.mk ((by rw [hg]; exact (below_size (by repeat (first | (with_reducible first | exact HB.out | apply below_alloc | apply pw_below_drewN | apply below_drew1 | refine below_set ?_ GE367.out) | exact HB.out))) : w.heap.size ≤ gb403)); have n4_ := Aside0.mk ((by rw [hg]; exact (below_size (by repeat (first | (with_reducible first | exact HB.out | apply below_alloc | apply pw_below_drewN | apply below_drew1 | refine below_set ?_ GE367.out) | exact HB.out))) : w.heap.size ≤ gb403)); have n5_ := Aside0.mk ((by rw [hg]; exact Nat.ne_of_lt (blk_lt (g := gb367) (o := .cells #[.int .i64 a0_0, .int .i64 a0_1, .string a0_2] 23 (0, 0)) (by (with_reducible repeat (first | refine blk_drewN ?_ _ | refine blk_drew ?_ | refine blk_alloc ?_ _)); exact BK367.out)) : gb367 ≠ gb403)); have n6_ := Aside0.mk ((by rw [hg]; exact Nat.ne_of_gt (blk_lt (g := gb367) (o := .cells #[.int .i64 a0_0, .int .i64 a0_1, .string a0_2] 23 (0, 0)) (by (with_reducible repeat (first | refine blk_drewN ?_ _ | refine blk_drew ?_ | refine blk_alloc ?_ _)); exact BK367.out)) : gb403 ≠ gb367)); clear BK367; clear HB; have BK367 := n0_; have HB := n1_; have BK403 := n2_; have GW403 := n3_; have GE403 := n4_; have NB367_403 := n5_; have NB403_367 := n6_; clear n0_ n1_ n2_ n3_ n4_ n5_ n6_; clear hb hbox hg; have hnb64 := NB403_367.out; have hnc64 := NB367_403.out; have hcz65_0 : w63.cell? ⟨gb403, 0, none⟩ = some (.int .i64 0) := (blk_cell BK403.out 0).trans rfl; have hcz65_1 : w63.cell? ⟨gb403, 1, none⟩ = some (.int .i64 0) := (blk_cell BK403.out 1).trans rfl; have hcz65_2 : w63.cell? ⟨gb403, 2, none⟩ = some (.string (⟨#[]⟩ : ByteArray)) := (blk_cell BK403.out 2).trans rfl; have hfz65_0 := blk_frozen BK403.out 0; have hfz65_1 := blk_frozen BK403.out 1; have hfz65_2 := blk_frozen BK403.out 2; obtain ⟨i066, hi066, _, hsz66, _⟩ := info_parts info5; obtain ⟨hcut66, hA66, hC66⟩ := print_take_of (P := Try.prog) (Value.int .u8) 0 31 5 .i64 Try.underlying31 hi066 hsz66 A1 c1 l1 t401 (of_decide_eq_true (by first | (with_reducible assumption) | assumption)) (of_decide_eq_true (by first | (with_reducible assumption) | assumption)) HC1.out; have HR408 := Aside0.mk (Kd.C_of_reads (h1 := fun _ => rfl) (hA66 _ (Kd.reads_of_C HR1.out))); have HC408 := Aside0.mk hC66; clear hA66 hC66 hi066 hsz66))
                            have n0_ : Aside0 ((((w63.setCell ⟨gb403, 0, none⟩ (.int .i64 t398)).setCell ⟨gb403, 1, none⟩ (.int .i64 t399)).setCell ⟨gb403, 2, none⟩ (.string t400)).heap[gb367]? = some (.cells #[.int .i64 a0_0, .int .i64 a0_1, .string a0_2] 23 (0, 0))) := ⟨by (with_reducible repeat (first | refine blk_drewN ?_ _ | refine blk_drew ?_ | refine blk_alloc ?_ _)); refine blk_far ?_ NB367_403.out _; (with_reducible repeat (first | refine blk_drewN ?_ _ | refine blk_drew ?_ | refine blk_alloc ?_ _)); refine blk_far ?_ NB367_403.out _; (with_reducible repeat (first | refine blk_drewN ?_ _ | refine blk_drew ?_ | refine blk_alloc ?_ _)); refine blk_far ?_ NB367_403.out _; (with_reducible repeat (first | refine blk_drewN ?_ _ | refine blk_drew ?_ | refine blk_alloc ?_ _)); exact BK367.out⟩
                            have n1_ : Aside0 ((((w63.setCell ⟨gb403, 0, none⟩ (.int .i64 t398)).setCell ⟨gb403, 1, none⟩ (.int .i64 t399)).setCell ⟨gb403, 2, none⟩ (.string t400)).heap[gb403]? = some (.cells #[.int .i64 t398, .int .i64 t399, .string t400] 23 (0, 0))) := ⟨by (with_reducible repeat (first | refine blk_drewN ?_ _ | refine blk_drew ?_ | refine blk_alloc ?_ _)); refine blk_put (cs := #[.int .i64 t398, .int .i64 t399, .string (⟨#[]⟩ : ByteArray)]) ?_ 2 _ rfl; (with_reducible repeat (first | refine blk_drewN ?_ _ | refine blk_drew ?_ | refine blk_alloc ?_ _)); refine blk_put (cs := #[.int .i64 t398, .int .i64 0, .string (⟨#[]⟩ : ByteArray)]) ?_ 1 _ rfl; (with_reducible repeat (first | refine blk_drewN ?_ _ | refine blk_drew ?_ | refine blk_alloc ?_ _)); refine blk_put (cs := #[.int .i64 0, .int .i64 0, .string (⟨#[]⟩ : ByteArray)]) ?_ 0 _ rfl; (with_reducible repeat (first | refine blk_drewN ?_ _ | refine blk_drew ?_ | refine blk_alloc ?_ _)); exact BK403.out⟩
                            have n2_ : Aside0 (Below w.heap.size w (((w63.setCell ⟨gb403, 0, none⟩ (.int .i64 t398)).setCell ⟨gb403, 1, none⟩ (.int .i64 t399)).setCell ⟨gb403, 2, none⟩ (.string t400))) := ⟨by repeat (first | (with_reducible first | exact HB.out | apply below_alloc | apply pw_below_drewN | apply below_drew1 | refine below_set ?_ GE367.out | refine below_set ?_ GE403.out) | exact HB.out)⟩
                            (try clear BK367)
                            (try clear BK403)
                            (try clear HB)
                            generalize (((w63.setCell ⟨gb403, 0, none⟩ (.int .i64 t398)).setCell ⟨gb403, 1, none⟩ (.int .i64 t399)).setCell ⟨gb403, 2, none⟩ (.string t400)) = w67 at n0_ n1_ n2_ ⊢
                            have BK367 := n0_
                            have BK403 := n1_
                            have HB := n2_
                            clear n0_ n1_ n2_
                            have n0_ := Aside0.mk (blk_drew BK367.out)
                            have n1_ := Aside0.mk (blk_drew BK403.out)
                            have n2_ := Aside0.mk (below_drew1 HB.out)
                            clear BK367
                            clear BK403
                            clear HB
                            have BK367 := n0_
                            have BK403 := n1_
                            have HB := n2_
                            clear n0_ n1_ n2_
                            refine start_ (n := 26) (S := fun w' => w'.cell? ⟨gb403, 0, none⟩ = some (.int .i64 t398) ∧ w'.cell? ⟨gb403, 1, none⟩ = some (.int .i64 t399) ∧ w'.cell? ⟨gb403, 2, none⟩ = some (.string t400) ∧ ∀ n_ : Nat, n_ = (l1.take (t401 : Int).toNat).length → (convert 31 9 (.slice A1 n_ c1)).run Try.prog w' = .ok (.string (strOfNums (l1.take (t401 : Int).toNat))) w') (ds := []) #[false, false, false, false, false, false, false, false, false, false, false, false, false, false, false, false, false, false, false, false, false, false, false, false, false, false] (by kernel_rfl) rfl rfl ⟨(blk_cell BK403.out 0).trans rfl, (blk_cell BK403.out 1).trans rfl, (blk_cell BK403.out 2).trans rfl, (fun n_ hn_ => by subst hn_; exact Kd.C_string (P := Try.prog) Try.underlying31 Try.underlying5 Try.underlying9 (Kd.C_below HR408.out HB.out))⟩ (fun hHeld => ?_); refine with_tabW augurylaw04_ValueBack.tab15 augurylaw04_ValueBack.bits15 (fun HT_ HW_ => ?_)
                            generalize w67.drew = w68 at BK367 BK403 HB hHeld ⊢
                            refine pure_ (i := 0) (N := some 87) (v := ?_) (a' := ?_) #[true, false, false, false, false, false, false, false, false, false, false, false, false, false, false, false, false, false, false, false, false, false, false, false, false, false] rfl rfl (any_of HT_.out (by kernel_rfl)) (fun _ _ _ h => h) (Or.inl ⟨by rfl, ?_⟩) ?_ ?_
                            rotate_left
                            · intro w'
                              go_simp
                              with_reducible rfl
                            rotate_left
                            · simp only [Act.put, List.setIfInBounds_toArray, List.set_cons_zero, List.set_cons_succ, i64_w, i32_w]
                              rfl
                            refine pure_ (i := 1) (N := some 88) (v := ?_) (a' := ?_) #[true, true, false, false, false, false, false, false, false, false, false, false, false, false, false, false, false, false, false, false, false, false, false, false, false, false] rfl rfl (any_of HT_.out (by kernel_rfl)) (fun _ _ _ h => h) (Or.inl ⟨by rfl, ?_⟩) ?_ ?_
                            rotate_left
                            · intro w'
                              go_simp
                              with_reducible rfl
                            rotate_left
                            · simp only [Act.put, List.setIfInBounds_toArray, List.set_cons_zero, List.set_cons_succ, i64_w, i32_w]
                              rfl
                            refine take_ (i := 2) (N := some 89) (v := ?_) (a' := ?_) #[true, true, true, false, false, false, false, false, false, false, false, false, false, false, false, false, false, false, false, false, false, false, false, false, false, false] rfl rfl (take_ofW HT_.out HW_.out (by kernel_rfl)) (fun _ _ _ h => h) (Or.inl ⟨by rfl, ?_⟩) hHeld ?_ ?_
                            rotate_left
                            · rintro w' ⟨s0, s1, s2, s3⟩
                              go_simp
                              with_reducible rfl
                            rotate_left
                            · simp only [Act.put, List.setIfInBounds_toArray, List.set_cons_zero, List.set_cons_succ, i64_w, i32_w]
                              rfl
                            refine one_ (i := 3) (N := some 90) #[true, true, true, true, false, false, false, false, false, false, false, false, false, false, false, false, false, false, false, false, false, false, false, false, false, false] rfl rfl (one_of HT_.out (by kernel_rfl)) (by decide) (fun K hK => ?_)
                            refine goes_ Try.func16 (by kernel_rfl) rfl #[.agg #[.int .i64 t398, .int .i64 t399, .string t400]] (by rfl) rfl rfl (by (try simp only [List.map_toArray, List.map_cons, List.map_nil]); first | done | rfl | (simp only [List.length_drop, List.length_take]; rfl)) ?_
                            with_reducible refine (value_Right.calls t398 t399 t400 true _ A54.out).mono ?_
                            rintro e w69 ⟨rfl, hb⟩
                            refine ⟨_, rfl, ?_⟩
                            have n0_ := Aside0.mk (blk_below (g := gb367) (o := .cells #[.int .i64 a0_0, .int .i64 a0_1, .string a0_2] 23 (0, 0)) (by (with_reducible repeat (first | refine blk_drewN ?_ _ | refine blk_drew ?_ | refine blk_alloc ?_ _)); exact BK367.out) hb)
                            have n1_ := Aside0.mk (blk_below (g := gb403) (o := .cells #[.int .i64 t398, .int .i64 t399, .string t400] 23 (0, 0)) (by (with_reducible repeat (first | refine blk_drewN ?_ _ | refine blk_drew ?_ | refine blk_alloc ?_ _)); exact BK403.out) hb)
                            have n2_ := Aside0.mk (below_step (by repeat (first | (with_reducible first | exact HB.out | apply below_alloc | apply pw_below_drewN | apply below_drew1 | refine below_set ?_ GE367.out | refine below_set ?_ GE403.out) | exact HB.out)) hb)
                            clear BK367
                            clear BK403
                            clear HB
                            have BK367 := n0_
                            have BK403 := n1_
                            have HB := n2_
                            clear n0_ n1_ n2_
                            (try clear hb)
                            (try clear hb2)
                            (try clear hk)
                            (try clear hi)
                            refine hK.out _ _ ⟨(blk_cell BK403.out 0).trans rfl, (blk_cell BK403.out 1).trans rfl, (blk_cell BK403.out 2).trans rfl, (fun n_ hn_ => by subst hn_; exact Kd.C_string (P := Try.prog) Try.underlying31 Try.underlying5 Try.underlying9 (Kd.C_below HR408.out HB.out))⟩ (fun hHeld => ?_)
                            clear hK K
                            refine norm_ (a' := ?_) ?_ ?_
                            rotate_left
                            · show Act.put _ (some 90) _ = _
                              simp only [Act.put, List.setIfInBounds_toArray, List.set_cons_zero, List.set_cons_succ, i64_w, i32_w]
                              rfl
                            refine pure_ (i := 4) (N := some 91) (v := ?_) (a' := ?_) #[true, true, true, true, true, false, false, false, false, false, false, false, false, false, false, false, false, false, false, false, false, false, false, false, false, false] rfl rfl (any_of HT_.out (by kernel_rfl)) (fun _ _ _ h => h) (Or.inl ⟨by rfl, ?_⟩) ?_ ?_
                            rotate_left
                            · intro w'
                              go_simp
                              with_reducible rfl
                            rotate_left
                            · simp only [Act.put, List.setIfInBounds_toArray, List.set_cons_zero, List.set_cons_succ, i64_w, i32_w]
                              rfl
                            refine pure_ (i := 5) (N := some 92) (v := ?_) (a' := ?_) #[true, true, true, true, true, true, false, false, false, false, false, false, false, false, false, false, false, false, false, false, false, false, false, false, false, false] rfl rfl (any_of HT_.out (by kernel_rfl)) (fun _ _ _ h => h) (Or.inl ⟨by rfl, ?_⟩) ?_ ?_
                            rotate_left
                            · intro w'
                              go_simp
                              with_reducible rfl
                            rotate_left
                            · simp only [Act.put, List.setIfInBounds_toArray, List.set_cons_zero, List.set_cons_succ, i64_w, i32_w]
                              rfl
                            refine pure_ (i := 6) (N := some 93) (v := ?_) (a' := ?_) #[true, true, true, true, true, true, true, false, false, false, false, false, false, false, false, false, false, false, false, false, false, false, false, false, false, false] rfl rfl (any_of HT_.out (by kernel_rfl)) (fun _ _ _ h => h) (Or.inl ⟨by rfl, ?_⟩) ?_ ?_
                            rotate_left
                            · intro w'
                              go_simp
                              with_reducible rfl
                            rotate_left
                            · simp only [Act.put, List.setIfInBounds_toArray, List.set_cons_zero, List.set_cons_succ, i64_w, i32_w]
                              rfl
                            refine pure_ (i := 7) (N := some 94) (v := ?_) (a' := ?_) #[true, true, true, true, true, true, true, true, false, false, false, false, false, false, false, false, false, false, false, false, false, false, false, false, false, false] rfl rfl (any_of HT_.out (by kernel_rfl)) (fun _ _ _ h => h) (Or.inl ⟨by rfl, ?_⟩) ?_ ?_
                            rotate_left
                            · intro w'
                              go_simp
                              with_reducible rfl
                            rotate_left
                            · simp only [Act.put, List.setIfInBounds_toArray, List.set_cons_zero, List.set_cons_succ, i64_w, i32_w]
                              rfl
                            refine pure_ (i := 8) (N := some 95) (v := ?_) (a' := ?_) #[true, true, true, true, true, true, true, true, true, false, false, false, false, false, false, false, false, false, false, false, false, false, false, false, false, false] rfl rfl (any_of HT_.out (by kernel_rfl)) (fun _ _ _ h => h) (Or.inl ⟨by rfl, ?_⟩) ?_ ?_
                            rotate_left
                            · intro w'
                              go_simp
                              with_reducible rfl
                            rotate_left
                            · simp only [Act.put, List.setIfInBounds_toArray, List.set_cons_zero, List.set_cons_succ, i64_w, i32_w]
                              rfl
                            refine pure_ (i := 9) (N := some 96) (v := ?_) (a' := ?_) #[true, true, true, true, true, true, true, true, true, true, false, false, false, false, false, false, false, false, false, false, false, false, false, false, false, false] rfl rfl (any_of HT_.out (by kernel_rfl)) (fun _ _ _ h => h) (Or.inl ⟨by rfl, ?_⟩) ?_ ?_
                            rotate_left
                            · intro w'
                              go_simp
                              with_reducible rfl
                            rotate_left
                            · simp only [Act.put, List.setIfInBounds_toArray, List.set_cons_zero, List.set_cons_succ, i64_w, i32_w]
                              rfl
                            refine pure_ (i := 10) (N := some 97) (v := ?_) (a' := ?_) #[true, true, true, true, true, true, true, true, true, true, true, false, false, false, false, false, false, false, false, false, false, false, false, false, false, false] rfl rfl (any_of HT_.out (by kernel_rfl)) (fun _ _ _ h => h) (Or.inl ⟨by rfl, ?_⟩) ?_ ?_
                            rotate_left
                            · intro w'
                              go_simp
                              with_reducible rfl
                            rotate_left
                            · simp only [Act.put, List.setIfInBounds_toArray, List.set_cons_zero, List.set_cons_succ, i64_w, i32_w]
                              rfl
                            refine pure_ (i := 11) (N := some 98) (v := ?_) (a' := ?_) #[true, true, true, true, true, true, true, true, true, true, true, true, false, false, false, false, false, false, false, false, false, false, false, false, false, false] rfl rfl (any_of HT_.out (by kernel_rfl)) (fun _ _ _ h => h) (Or.inl ⟨by rfl, ?_⟩) ?_ ?_
                            rotate_left
                            · intro w'
                              go_simp
                              with_reducible rfl
                            rotate_left
                            · simp only [Act.put, List.setIfInBounds_toArray, List.set_cons_zero, List.set_cons_succ, i64_w, i32_w]
                              rfl
                            refine pure_ (i := 12) (N := some 99) (v := ?_) (a' := ?_) #[true, true, true, true, true, true, true, true, true, true, true, true, true, false, false, false, false, false, false, false, false, false, false, false, false, false] rfl rfl (any_of HT_.out (by kernel_rfl)) (fun _ _ _ h => h) (Or.inl ⟨by rfl, ?_⟩) ?_ ?_
                            rotate_left
                            · intro w'
                              go_simp
                              with_reducible rfl
                            rotate_left
                            · simp only [Act.put, List.setIfInBounds_toArray, List.set_cons_zero, List.set_cons_succ, i64_w, i32_w]
                              rfl
                            refine pure_ (i := 13) (N := some 100) (v := ?_) (a' := ?_) #[true, true, true, true, true, true, true, true, true, true, true, true, true, true, false, false, false, false, false, false, false, false, false, false, false, false] rfl rfl (any_of HT_.out (by kernel_rfl)) (fun _ _ _ h => h) (Or.inl ⟨by rfl, ?_⟩) ?_ ?_
                            rotate_left
                            · intro w'
                              go_simp
                              with_reducible rfl
                            rotate_left
                            · simp only [Act.put, List.setIfInBounds_toArray, List.set_cons_zero, List.set_cons_succ, i64_w, i32_w]
                              rfl
                            refine pure_ (i := 14) (N := some 101) (v := ?_) (a' := ?_) #[true, true, true, true, true, true, true, true, true, true, true, true, true, true, true, false, false, false, false, false, false, false, false, false, false, false] rfl rfl (any_of HT_.out (by kernel_rfl)) (fun _ _ _ h => h) (Or.inl ⟨by rfl, ?_⟩) ?_ ?_
                            rotate_left
                            · intro w'
                              go_simp
                              with_reducible rfl
                            rotate_left
                            · simp only [Act.put, List.setIfInBounds_toArray, List.set_cons_zero, List.set_cons_succ, i64_w, i32_w]
                              rfl
                            refine pure_ (i := 15) (N := some 102) (v := ?_) (a' := ?_) #[true, true, true, true, true, true, true, true, true, true, true, true, true, true, true, true, false, false, false, false, false, false, false, false, false, false] rfl rfl (any_of HT_.out (by kernel_rfl)) (fun _ _ _ h => h) (Or.inl ⟨by rfl, ?_⟩) ?_ ?_
                            rotate_left
                            · intro w'
                              go_simp
                              with_reducible rfl
                            rotate_left
                            · simp only [Act.put, List.setIfInBounds_toArray, List.set_cons_zero, List.set_cons_succ, i64_w, i32_w]
                              rfl
                            refine pure_ (i := 19) (N := some 106) (v := ?_) (a' := ?_) #[true, true, true, true, true, true, true, true, true, true, true, true, true, true, true, true, false, false, false, true, false, false, false, false, false, false] rfl rfl (any_of HT_.out (by kernel_rfl)) (fun _ _ _ h => h) (Or.inl ⟨by rfl, ?_⟩) ?_ ?_
                            rotate_left
                            · intro w'
                              go_simp
                              with_reducible rfl
                            rotate_left
                            · simp only [Act.put, List.setIfInBounds_toArray, List.set_cons_zero, List.set_cons_succ, i64_w, i32_w]
                              rfl
                            refine pure_ (i := 20) (N := some 107) (v := ?_) (a' := ?_) #[true, true, true, true, true, true, true, true, true, true, true, true, true, true, true, true, false, false, false, true, true, false, false, false, false, false] rfl rfl (any_of HT_.out (by kernel_rfl)) (fun _ _ _ h => h) (Or.inl ⟨by rfl, ?_⟩) ?_ ?_
                            rotate_left
                            · intro w'
                              go_simp
                              with_reducible rfl
                            rotate_left
                            · simp only [Act.put, List.setIfInBounds_toArray, List.set_cons_zero, List.set_cons_succ, i64_w, i32_w]
                              rfl
                            refine pure_ (i := 21) (N := some 108) (v := ?_) (a' := ?_) #[true, true, true, true, true, true, true, true, true, true, true, true, true, true, true, true, false, false, false, true, true, true, false, false, false, false] rfl rfl (any_of HT_.out (by kernel_rfl)) (fun _ _ _ h => h) (Or.inl ⟨by rfl, ?_⟩) ?_ ?_
                            rotate_left
                            · intro w'
                              go_simp
                              with_reducible rfl
                            rotate_left
                            · simp only [Act.put, List.setIfInBounds_toArray, List.set_cons_zero, List.set_cons_succ, i64_w, i32_w]
                              rfl
                            refine take_ (i := 16) (N := some 103) (v := ?_) (a' := ?_) #[true, true, true, true, true, true, true, true, true, true, true, true, true, true, true, true, true, false, false, true, true, true, false, false, false, false] rfl rfl (take_ofW HT_.out HW_.out (by kernel_rfl)) (fun _ _ _ h => h) (Or.inl ⟨by rfl, ?_⟩) hHeld ?_ ?_
                            rotate_left
                            · rintro w' ⟨s0, s1, s2, s3⟩
                              go_simp
                              with_reducible rfl
                            rotate_left
                            · simp only [Act.put, List.setIfInBounds_toArray, List.set_cons_zero, List.set_cons_succ, i64_w, i32_w]
                              rfl
                            refine take_ (i := 22) (N := some 109) (v := ?_) (a' := ?_) #[true, true, true, true, true, true, true, true, true, true, true, true, true, true, true, true, true, false, false, true, true, true, true, false, false, false] rfl rfl (take_ofW HT_.out HW_.out (by kernel_rfl)) (fun _ _ _ h => h) (Or.inl ⟨by rfl, ?_⟩) hHeld ?_ ?_
                            rotate_left
                            · rintro w' ⟨s0, s1, s2, s3⟩
                              go_simp
                              with_reducible rfl
                            rotate_left
                            · simp only [Act.put, List.setIfInBounds_toArray, List.set_cons_zero, List.set_cons_succ, i64_w, i32_w]
                              rfl
                            refine one_ (i := 17) (N := some 104) #[true, true, true, true, true, true, true, true, true, true, true, true, true, true, true, true, true, true, false, true, true, true, true, false, false, false] rfl rfl (one_of HT_.out (by kernel_rfl)) (by decide) (fun K hK => ?_)
                            refine goes_ Try.func18 (by kernel_rfl) rfl #[.agg #[.int .i64 t398, .int .i64 t399, .string t400]] (by rfl) rfl rfl (by (try simp only [List.map_toArray, List.map_cons, List.map_nil]); first | done | rfl | (simp only [List.length_drop, List.length_take]; rfl)) ?_
                            with_reducible refine (value_Put.calls kj14 t398 t399 t400 t405 _ A58.out).mono ?_
                            rintro e w70 ⟨v406, rfl, ho0, hb⟩
                            refine ⟨_, rfl, ?_⟩
                            have n0_ := Aside0.mk (Kd.R_lower ho0 (below_size (by repeat (first | (with_reducible first | exact HB.out | apply below_alloc | apply pw_below_drewN | apply below_drew1 | refine below_set ?_ GE367.out | refine below_set ?_ GE403.out) | exact HB.out))))
                            have n1_ := Aside0.mk (blk_below (g := gb367) (o := .cells #[.int .i64 a0_0, .int .i64 a0_1, .string a0_2] 23 (0, 0)) (by (with_reducible repeat (first | refine blk_drewN ?_ _ | refine blk_drew ?_ | refine blk_alloc ?_ _)); exact BK367.out) hb)
                            have n2_ := Aside0.mk (blk_below (g := gb403) (o := .cells #[.int .i64 t398, .int .i64 t399, .string t400] 23 (0, 0)) (by (with_reducible repeat (first | refine blk_drewN ?_ _ | refine blk_drew ?_ | refine blk_alloc ?_ _)); exact BK403.out) hb)
                            have n3_ := Aside0.mk (below_step (by repeat (first | (with_reducible first | exact HB.out | apply below_alloc | apply pw_below_drewN | apply below_drew1 | refine below_set ?_ GE367.out | refine below_set ?_ GE403.out) | exact HB.out)) hb)
                            clear BK367
                            clear BK403
                            clear HB
                            have HO407 := n0_
                            have BK367 := n1_
                            have BK403 := n2_
                            have HB := n3_
                            clear n0_ n1_ n2_ n3_
                            (try clear hb)
                            (try clear hb2)
                            (try clear hk)
                            (try clear hi)
                            (try clear ho0)
                            refine hK.out _ _ ⟨(blk_cell BK403.out 0).trans rfl, (blk_cell BK403.out 1).trans rfl, (blk_cell BK403.out 2).trans rfl, (fun n_ hn_ => by subst hn_; exact Kd.C_string (P := Try.prog) Try.underlying31 Try.underlying5 Try.underlying9 (Kd.C_below HR408.out HB.out))⟩ (fun hHeld => ?_)
                            clear hK K
                            refine norm_ (a' := ?_) ?_ ?_
                            rotate_left
                            · show Act.put _ (some 104) _ = _
                              simp only [Act.put, List.setIfInBounds_toArray, List.set_cons_zero, List.set_cons_succ, i64_w, i32_w]
                              rfl
                            refine one_ (i := 18) (N := some 105) #[true, true, true, true, true, true, true, true, true, true, true, true, true, true, true, true, true, true, true, true, true, true, true, false, false, false] rfl rfl (one_of HT_.out (by kernel_rfl)) (by decide) (fun K hK => ?_)
                            have hcv71 := own_string (P := Try.prog) Try.underlying31 Try.underlying5 Try.underlying9 (Kd.own_of_R HO407.out)
                            refine value_ (w1 := ?_) (v := ?_) (by rfl) rfl ?_ ?_
                            rotate_left 2
                            · go_simp
                              constructor
                              · rfl
                              · rfl
                            clear hcv71
                            refine hK.out _ _ ⟨(blk_cell BK403.out 0).trans rfl, (blk_cell BK403.out 1).trans rfl, (blk_cell BK403.out 2).trans rfl, (fun n_ hn_ => by subst hn_; exact Kd.C_string (P := Try.prog) Try.underlying31 Try.underlying5 Try.underlying9 (Kd.C_below HR408.out HB.out))⟩ (fun hHeld => ?_)
                            clear hK K
                            refine norm_ (a' := ?_) ?_ ?_
                            rotate_left
                            · show Act.put _ (some 105) _ = _
                              simp only [Act.put, List.setIfInBounds_toArray, List.set_cons_zero, List.set_cons_succ, i64_w, i32_w]
                              rfl
                            refine pure_ (i := 23) (N := some 110) (v := ?_) (a' := ?_) #[true, true, true, true, true, true, true, true, true, true, true, true, true, true, true, true, true, true, true, true, true, true, true, true, false, false] rfl rfl (any_of HT_.out (by kernel_rfl)) (fun _ _ _ h => h) (Or.inl ⟨by rfl, ?_⟩) ?_ ?_
                            rotate_left
                            · intro w'
                              go_simp
                              with_reducible rfl
                            rotate_left
                            · simp only [Act.put, List.setIfInBounds_toArray, List.set_cons_zero, List.set_cons_succ, i64_w, i32_w]
                              rfl
                            refine pure_ (i := 24) (N := some 111) (v := ?_) (a' := ?_) #[true, true, true, true, true, true, true, true, true, true, true, true, true, true, true, true, true, true, true, true, true, true, true, true, true, false] rfl rfl (any_of HT_.out (by kernel_rfl)) (fun _ _ _ h => h) (Or.inl ⟨by rfl, ?_⟩) ?_ ?_
                            rotate_left
                            · intro w'
                              go_simp
                              with_reducible rfl
                            rotate_left
                            · simp only [Act.put, List.setIfInBounds_toArray, List.set_cons_zero, List.set_cons_succ, i64_w, i32_w]
                              rfl
                            refine pure_ (i := 25) (N := some 4) (v := ?_) (a' := ?_) #[true, true, true, true, true, true, true, true, true, true, true, true, true, true, true, true, true, true, true, true, true, true, true, true, true, true] rfl rfl (any_of HT_.out (by kernel_rfl)) (fun _ _ _ h => h) (Or.inl ⟨by rfl, ?_⟩) ?_ ?_
                            rotate_left
                            · intro w'
                              go_simp
                              with_reducible rfl
                            rotate_left
                            · simp only [Act.put, List.setIfInBounds_toArray, List.set_cons_zero, List.set_cons_succ, i64_w, i32_w]
                              rfl
                            refine done_ (done_of HT_.out (by kernel_rfl)) ?_
                            try go_wp2
                            go_ret
                            exact ⟨by first | rfl | (simp [errW_none, errW_some] <;> rfl) | (simp [*, errW_none, errW_some] <;> rfl), by repeat (first | (with_reducible first | exact HB.out | apply below_alloc | apply pw_below_drewN | apply below_drew1 | refine below_set ?_ GE367.out | refine below_set ?_ GE403.out) | exact HB.out)⟩
                          · rw [if_neg c61] at H
                            exact absurd H (by simp)
                        · rw [if_neg c59] at H
                          exact absurd H (by simp)
                      · rw [if_neg c57] at H
                        have c57b0 : decide (t401 ≤ (l1.length : Int)) = false := decide_eq_false c57
                        clear c57
                        exact absurd H (by simp)
                    · rw [if_neg c56] at H
                      have c56b0 : decide (0 < t401) = false := decide_eq_false c56
                      clear c56
                      exact absurd H (by simp)
                  · replace c55 := Bool.eq_false_iff.mpr c55
                    subst c55
                    have H1 : (none) = some r := by rw [if_neg (show ¬ (false = true) by decide)] at H; exact H
                    clear H
                    have H := H1
                    clear H1
                    exact absurd H (by simp)
                · replace c53 := Bool.eq_false_iff.mpr c53
                  subst c53
                  have H1 : (none) = some r := by rw [if_neg (show ¬ (false = true) by decide)] at H; exact H
                  clear H
                  have H := H1
                  clear H1
                  exact absurd H (by simp)
              · replace c52 := Bool.eq_false_iff.mpr c52
                subst c52
                have H1 : (if t368 = true then (if t401 = 0 then (some true) else (none)) else (none)) = some r := by rw [if_neg (show ¬ (false = true) by decide)] at H; exact H
                clear H
                have H := H1
                clear H1
                by_cases c74 : t368 = true
                · subst c74
                  have H1 : (if t401 = 0 then (some true) else (none)) = some r := by rw [if_pos rfl] at H; exact H
                  clear H
                  have H := H1
                  clear H1
                  by_cases c75 : t401 = 0
                  · rw [if_pos c75] at H
                    have c75b0 : (t401 == 0) = true := beq_iff_eq.mpr c75
                    have c75b1 : (t401 != 0) = false := bne_eq_false_iff_eq.mpr c75
                    clear c75
                    obtain rfl := Option.some.inj H
                    go_wp2_with (first | ((with_reducible refine gate_callee (f := 20) rfl ?_); refine goesL_ (some 76) rfl rfl Try.func20 (by kernel_rfl) rfl #[.slice A1 l1.length c1] rfl (by (try simp only [List.map_toArray, List.map_cons, List.map_nil]); first | done | rfl | (simp only [List.length_drop, List.length_take]; rfl)) ?_; (with_reducible refine (value_Get.calls kj14 _ _ l1 t398 t399 t400 t401 false _ ?side1 ?side2 A51.out).mono ?_); (case side1 => repeat (first | exact (Kd.C_below HR1.out HB.out) | (with_reducible refine Kd.C_alloc ?_ _) | (with_reducible refine Kd.C_drewN ?_ _) | (with_reducible refine Kd.C_drew ?_))); (case side2 => exact HC1.out); rintro e w76 ⟨rfl, hb⟩; refine ⟨_, rfl, ?_⟩; have n0_ := Aside0.mk (blk_below (g := gb367) (o := .cells #[.int .i64 a0_0, .int .i64 a0_1, .string a0_2] 23 (0, 0)) (by (with_reducible repeat (first | refine blk_drewN ?_ _ | refine blk_drew ?_ | refine blk_alloc ?_ _)); exact BK367.out) hb); have n1_ := Aside0.mk (below_step (by repeat (first | (with_reducible first | exact HB.out | apply below_alloc | apply pw_below_drewN | apply below_drew1 | refine below_set ?_ GE367.out) | exact HB.out)) hb); clear BK367; clear HB; have BK367 := n0_; have HB := n1_; clear n0_ n1_; (try clear hb); (try clear hb2); (try clear hk); (try clear hi)) | ((with_reducible refine gate_dst (N := 13) rfl ?_); (try (refine gate_guard (by rfl) ?_; dsimp only)); refine box_event ?hg (N := 13) ?hd (cs := #[.int .i64 0, .int .i64 0, .string (⟨#[]⟩ : ByteArray)]) (t := 23) ?hr ?_; (case hd => rfl); (case hg => rfl); (case hr => first | (go_simp; done) | (go_simp; rfl)); intro gb403 hg w77 hbox hb; have n0_ := Aside0.mk (blk_below (g := gb367) (o := .cells #[.int .i64 a0_0, .int .i64 a0_1, .string a0_2] 23 (0, 0)) (by (with_reducible repeat (first | refine blk_drewN ?_ _ | refine blk_drew ?_ | refine blk_alloc ?_ _)); exact BK367.out) hb); have n1_ := Aside0.mk (below_step (by repeat (first | (with_reducible first | exact HB.out | apply below_alloc | apply pw_below_drewN | apply below_drew1 | refine below_set ?_ GE367.out) | exact HB.out)) hb); have n2_ := Aside0.mk (hbox); have n3_ := Aside0.mk ((by rw [hg]; exact (below_size (by repeat (first | (with_reducible first | exact HB.out | apply below_alloc | apply pw_below_drewN | apply below_drew1 | refine below_set ?_ GE367.out) | exact HB.out))) : w.heap.size ≤ gb403)); have n4_ := Aside0.mk ((by rw [hg]; exact (below_size (by repeat (first | (with_reducible first | exact HB.out | apply below_alloc | apply pw_below_drewN | apply below_drew1 | refine below_set ?_ GE367.out) | exact HB.out))) : w.heap.size ≤ gb403)); have n5_ := Aside0.mk ((by rw [hg]; exact Nat.ne_of_lt (blk_lt (g := gb367) (o := .cells #[.int .i64 a0_0, .int .i64 a0_1, .string a0_2] 23 (0, 0)) (by (with_reducible repeat (first | refine blk_drewN ?_ _ | refine blk_drew ?_ | refine blk_alloc ?_ _)); exact BK367.out)) : gb367 ≠ gb403)); have n6_ := Aside0.mk ((by rw [hg]; exact Nat.ne_of_gt (blk_lt (g := gb367) (o := .cells #[.int .i64 a0_0, .int .i64 a0_1, .string a0_2] 23 (0, 0)) (by (with_reducible repeat (first | refine blk_drewN ?_ _ | refine blk_drew ?_ | refine blk_alloc ?_ _)); exact BK367.out)) : gb403 ≠ gb367)); clear BK367; clear HB; have BK367 := n0_; have HB := n1_; have BK403 := n2_; have GW403 := n3_; have GE403 := n4_; have NB367_403 := n5_; have NB403_367 := n6_; clear n0_ n1_ n2_ n3_ n4_ n5_ n6_; clear hb hbox hg; have hnb78 := NB403_367.out; have hnc78 := NB367_403.out; have hcz79_0 : w77.cell? ⟨gb403, 0, none⟩ = some (.int .i64 0) := (blk_cell BK403.out 0).trans rfl; have hcz79_1 : w77.cell? ⟨gb403, 1, none⟩ = some (.int .i64 0) := (blk_cell BK403.out 1).trans rfl; have hcz79_2 : w77.cell? ⟨gb403, 2, none⟩ = some (.string (⟨#[]⟩ : ByteArray)) := (blk_cell BK403.out 2).trans rfl; have hfz79_0 := blk_frozen BK403.out 0; have hfz79_1 := blk_frozen BK403.out 1; have hfz79_2 := blk_frozen BK403.out 2))
                    go_ret
                    exact ⟨by first | rfl | (simp [errW_none, errW_some] <;> rfl) | (simp [*, errW_none, errW_some] <;> rfl), by repeat (first | (with_reducible first | exact HB.out | apply below_alloc | apply pw_below_drewN | apply below_drew1 | refine below_set ?_ GE367.out | refine below_set ?_ GE403.out) | exact HB.out)⟩
                  · rw [if_neg c75] at H
                    exact absurd H (by simp)
                · replace c74 := Bool.eq_false_iff.mpr c74
                  subst c74
                  have H1 : (none) = some r := by rw [if_neg (show ¬ (false = true) by decide)] at H; exact H
                  clear H
                  have H := H1
                  clear H1
                  exact absurd H (by simp)

/-- THE ONE PURE STATEMENT of augurylaw04_ValueBack: yours. -/
def augurylaw04_ValueBack.Pure : Prop := ∀ (x0 : S23) (l1 : List Int), ok23 x0 → (l1.length ≤ maxLen ∧ ∀ x ∈ l1, (Lit.int .u8 x).wf = true) → ∃ k, augurylaw04_ValueBack.f k x0.f0 x0.f1 x0.f2 l1 = some true

end Go.Proofs.Ytlbaoekmnfeogaa.PAll
