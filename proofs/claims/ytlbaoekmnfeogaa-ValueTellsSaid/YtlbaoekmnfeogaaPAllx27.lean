/- Written by this session's own program (wip/xprint): functions of the Go program as Lean functions, and proofs that the Go code computes them. -/
import Derived.Test.YtlbaoekmnfeogaaPAllx0
import Derived.Test.YtlbaoekmnfeogaaPAllx1
import Derived.Test.YtlbaoekmnfeogaaPAllx2
import Derived.Test.YtlbaoekmnfeogaaPAllx5
import Derived.Test.YtlbaoekmnfeogaaPAllx6
import Derived.Test.YtlbaoekmnfeogaaPAllx12
import Derived.Test.YtlbaoekmnfeogaaPAllx13
import Derived.Test.YtlbaoekmnfeogaaPAllx18
import Derived.Test.YtlbaoekmnfeogaaPAllx19
import Derived.Test.YtlbaoekmnfeogaaPAllx22
import Derived.Test.YtlbaoekmnfeogaaPAllx23
import Derived.Test.YtlbaoekmnfeogaaPAllx24
import Derived.Test.YtlbaoekmnfeogaaPAllx26
namespace Go.Proofs.Ytlbaoekmnfeogaa.PAll
open Go.RowKit Go.Proofs.YtlbaoekmnfeogaaW.PrintWords Go.Proofs.YtlbaoekmnfeogaaW.PrintLast Go.Proofs.YtlbaoekmnfeogaaW.PrintMore
attribute [local go_sem] max2_int min2_int max_two min_two max_three min_three max_four min_four   -- for this text's walks alone
set_option linter.unusedVariables false
set_option linter.unusedSimpArgs false

attribute [local go_sem high] eqA23
/-! ### augurylaw04_ValueTells: function 3 -/
def augurylaw04_ValueTells.j0 : Nat → Int → Bool → Bool → Int → Int → ByteArray → Int → Int → ByteArray → Option (Bool)
  | 0, _, _, _, _, _, _, _, _, _ => none
  | k + 1, x0, x7, x30, x301000, x301001, x301002, x302000, x302001, x302002 => if x30 = true then (if x7 = true then (some true) else (none)) else ((value_Add.f k x301000 x301001 x301002 x302000 x302001 x302002).bind fun bt303 => ((auguryref04_Add.f k x301000 x301001 x301002 x302000 x302001 x302002).bind fun bt308 => ((value_Sub.f k x301000 x301001 x301002 x302000 x302001 x302002).bind fun bt313 => ((auguryref04_Sub.f k x301000 x301001 x301002 x302000 x302001 x302002).bind fun bt318 => ((value_Compare.f x0 x301000 x301001 x301002 x302000 x302001 x302002).bind fun bt323 => ((auguryref04_Compare.f k x0 x301000 x301001 x301002 x302000 x302001 x302002).bind fun bt325 => (if x7 = true then ((value_Right.f x301000 x301001 x301002).bind fun t327 => ((auguryref04_Right.f x301000 x301001 x301002).bind fun t328 => (if (t327 == t328) = true then (if (bt303.1 == bt308.1 && (bt303.2.1 == bt308.2.1 && (bt303.2.2.1.toList == bt308.2.2.1.toList))) = true then (if bt303.2.2.2 = bt308.2.2.2 then (if (bt313.1 == bt318.1 && (bt313.2.1 == bt318.2.1 && (bt313.2.2.1.toList == bt318.2.2.1.toList))) = true then (if bt313.2.2.2 = bt318.2.2.2 then (if (bt323.1 == bt325.1) = true then (if bt323.2 = bt325.2 then ((value_Put.f k x301000 x301001 x301002).bind fun t329 => ((auguryref04_Put.f k x301000 x301001 x301002).bind fun t332 => (if (strOfNums t329).toList = (strOfNums t332).toList then (some true) else (none)))) else (none)) else (none)) else (none)) else (none)) else (none)) else (none)) else (none)))) else (none))))))))
def augurylaw04_ValueTells.f (k : Nat) (a0 : Int) (a1_0 : Int) (a1_1 : Int) (a1_2 : ByteArray) (a2_0 : Int) (a2_1 : Int) (a2_2 : ByteArray) : Option (Bool) := (augurylaw04_head.f k).bind fun t302 => (if (a1_2.size : Int) > 9000 then (augurylaw04_ValueTells.j0 k a0 t302 true a1_0 a1_1 a1_2 a2_0 a2_1 a2_2) else (augurylaw04_ValueTells.j0 k a0 t302 (decide ((a2_2.size : Int) > 9000)) a1_0 a1_1 a1_2 a2_0 a2_1 a2_2))
theorem augurylaw04_ValueTells.mono_l : ∀ k, (∀ y0 y1 y2 y3 y4 y5 y6 y7 y8, LeO (augurylaw04_ValueTells.j0 k y0 y1 y2 y3 y4 y5 y6 y7 y8) (augurylaw04_ValueTells.j0 (k + 1) y0 y1 y2 y3 y4 y5 y6 y7 y8))
  | 0 => fun _ _ _ _ _ _ _ _ _ r h => by simp [augurylaw04_ValueTells.j0] at h
  | k + 1 => by
    have ih0 := augurylaw04_ValueTells.mono_l k
    · intro y0 y1 y2 y3 y4 y5 y6 y7 y8
      unfold augurylaw04_ValueTells.j0
      repeat' first
      | (with_reducible exact ih0 _ _ _ _ _ _ _ _ _)
      | (with_reducible exact augurylaw04_head.mono _)
      | (with_reducible exact auguryref04_Add.mono _ _ _ _ _ _ _)
      | (with_reducible exact auguryref04_Compare.mono _ _ _ _ _ _ _ _)
      | (with_reducible exact auguryref04_Put.mono _ _ _ _)
      | (with_reducible exact auguryref04_Sub.mono _ _ _ _ _ _ _)
      | (with_reducible exact value_Add.mono _ _ _ _ _ _ _)
      | (with_reducible exact value_Put.mono _ _ _ _)
      | (with_reducible exact value_Sub.mono _ _ _ _ _ _ _)
      | (with_reducible exact LeO.refl _)
      | (with_reducible exact LeO.none _)
      | (with_reducible refine LeO.ite ?_ ?_)
      | (with_reducible refine LeO.bind ?_ (fun _ => ?_))
      | exact ih0 _ _ _ _ _ _ _ _ _
      | exact augurylaw04_head.mono _
      | exact auguryref04_Add.mono _ _ _ _ _ _ _
      | exact auguryref04_Compare.mono _ _ _ _ _ _ _ _
      | exact auguryref04_Put.mono _ _ _ _
      | exact auguryref04_Sub.mono _ _ _ _ _ _ _
      | exact value_Add.mono _ _ _ _ _ _ _
      | exact value_Put.mono _ _ _ _
      | exact value_Sub.mono _ _ _ _ _ _ _
      | exact LeO.none _
      | refine LeO.ite ?_ ?_
      | refine LeO.bind ?_ (fun _ => ?_)
theorem augurylaw04_ValueTells.mono : ∀ a0 a1 a2 a3 a4 a5 a6 k, LeO (augurylaw04_ValueTells.f k a0 a1 a2 a3 a4 a5 a6) (augurylaw04_ValueTells.f (k + 1) a0 a1 a2 a3 a4 a5 a6) := by
  intro a0 a1 a2 a3 a4 a5 a6 k
  have ih0 := augurylaw04_ValueTells.mono_l k
  unfold augurylaw04_ValueTells.f
  repeat' first
      | (with_reducible exact ih0 _ _ _ _ _ _ _ _ _)
      | (with_reducible exact augurylaw04_head.mono _)
      | (with_reducible exact auguryref04_Add.mono _ _ _ _ _ _ _)
      | (with_reducible exact auguryref04_Compare.mono _ _ _ _ _ _ _ _)
      | (with_reducible exact auguryref04_Put.mono _ _ _ _)
      | (with_reducible exact auguryref04_Sub.mono _ _ _ _ _ _ _)
      | (with_reducible exact value_Add.mono _ _ _ _ _ _ _)
      | (with_reducible exact value_Put.mono _ _ _ _)
      | (with_reducible exact value_Sub.mono _ _ _ _ _ _ _)
      | (with_reducible exact LeO.refl _)
      | (with_reducible exact LeO.none _)
      | (with_reducible refine LeO.ite ?_ ?_)
      | (with_reducible refine LeO.bind ?_ (fun _ => ?_))
      | exact ih0 _ _ _ _ _ _ _ _ _
      | exact augurylaw04_head.mono _
      | exact auguryref04_Add.mono _ _ _ _ _ _ _
      | exact auguryref04_Compare.mono _ _ _ _ _ _ _ _
      | exact auguryref04_Put.mono _ _ _ _
      | exact auguryref04_Sub.mono _ _ _ _ _ _ _
      | exact value_Add.mono _ _ _ _ _ _ _
      | exact value_Put.mono _ _ _ _
      | exact value_Sub.mono _ _ _ _ _ _ _
      | exact LeO.none _
      | refine LeO.ite ?_ ?_
      | refine LeO.bind ?_ (fun _ => ?_)
def augurylaw04_ValueTells.T10 : Bool × List (List Nat × List Nat) := (true, [([], []), ([0], [0]), ([1], [1]), ([2, 1, 1], [1, 2]), ([1], [1]), ([4, 3, 1], [1, 4]), ([3, 5, 1], [1, 3, 5]), ([1, 6], [1, 6]), ([7, 5], [7]), ([8], [8]), ([8], [8]), ([9, 10, 8], [8, 9, 10]), ([8, 11], [8, 11]), ([12, 8], [12]), ([13], [13]), ([13], [13]), ([14, 15, 13], [13, 14, 15]), ([13, 16], [13, 16]), ([17, 13], [17]), ([18], [18]), ([18], [18]), ([19, 20, 18], [18, 19, 20]), ([18, 21], [18, 21]), ([22, 18], [22]), ([23], [23]), ([23], [23]), ([24, 25, 23], [23, 24, 25]), ([23, 26], [23, 26]), ([27, 23], [27]), ([28], [28]), ([28], [28]), ([29, 30, 28], [28, 29, 30]), ([28, 31], [28, 31]), ([32, 28], [32]), ([33], [33]), ([33], [33]), ([34, 35, 33], [33, 34, 35]), ([33, 36], [33, 36]), ([37, 33], [37]), ([38], [38]), ([39, 38, 38], [38, 39]), ([40, 38], [38, 40]), ([38], [38]), ([42, 40, 38], [38, 42]), ([43, 38], [38, 43]), ([41, 44, 38], [38, 41, 44]), ([38, 45], [38, 45]), ([46, 43, 0, 1, 2, 3, 4, 5, 6, 7, 8, 9, 10, 11, 12, 13, 14, 15, 16, 17, 18, 19, 20, 21, 22, 23, 24, 25, 26, 27, 28, 29, 30, 31, 32, 33, 34, 35, 36, 37, 38, 39, 40, 41, 42, 43, 44, 45, 46], [46])])
def augurylaw04_ValueTells.B10 : List Nat := [0, 1, 3, 7, 3, 31, 63, 127, 255, 511, 511, 2047, 4095, 8191, 16383, 16383, 65535, 131071, 262143, 524287, 524287, 2097151, 4194303, 8388607, 16777215, 16777215, 67108863, 134217727, 268435455, 536870911, 536870911, 2147483647, 4294967295, 8589934591, 17179869183, 17179869183, 68719476735, 137438953471, 274877906943, 549755813887, 1099511627775, 2199023255551, 549755813887, 6597069766655, 15393162788863, 35184372088831, 70368744177663, 140737488355327]
theorem augurylaw04_ValueTells.tab10 : rtab .any (opsOf Try.f3 10) = augurylaw04_ValueTells.T10 := by kernel_rfl
theorem augurylaw04_ValueTells.bits10 : waitsOk augurylaw04_ValueTells.T10.2 augurylaw04_ValueTells.B10 = true := by kernel_rfl
set_option maxHeartbeats 8000000 in
set_option maxRecDepth 100000 in
theorem augurylaw04_ValueTells.calls (k : Nat) (a0 : Int) (a1_0 : Int) (a1_1 : Int) (a1_2 : ByteArray) (a2_0 : Int) (a2_1 : Int) (a2_2 : ByteArray) (r : Bool) (w : World) (h : augurylaw04_ValueTells.f k a0 a1_0 a1_1 a1_2 a2_0 a2_1 a2_2 = some r) :
    Calls Try.prog 3 #[.int .i64 a0, .agg #[.int .i64 a1_0, .int .i64 a1_1, .string a1_2], .agg #[.int .i64 a2_0, .int .i64 a2_1, .string a2_2]] w fun e w' => e = .returned (.bool r) ∧ Below w.heap.size w w' := by
  have hu23 := Try.underlying23
  have HB := Aside0.mk (Below.refl w.heap.size w)
  have H : ((augurylaw04_head.f k).bind fun t302 => (if (a1_2.size : Int) > 9000 then (augurylaw04_ValueTells.j0 k a0 t302 true a1_0 a1_1 a1_2 a2_0 a2_1 a2_2) else (augurylaw04_ValueTells.j0 k a0 t302 (decide ((a2_2.size : Int) > 9000)) a1_0 a1_1 a1_2 a2_0 a2_1 a2_2))) = some r := h
  clear h
  replace H := Option.bind_eq_some_iff.mp H
  obtain ⟨t302, A40, H⟩ := H
  replace H : (if (a1_2.size : Int) > 9000 then (augurylaw04_ValueTells.j0 k a0 t302 true a1_0 a1_1 a1_2 a2_0 a2_1 a2_2) else (augurylaw04_ValueTells.j0 k a0 t302 (decide ((a2_2.size : Int) > 9000)) a1_0 a1_1 a1_2 a2_0 a2_1 a2_2)) = some r := H
  have A4 := Aside0.mk A40
  clear A40
  have HC5 := Aside0.mk H
  clear H
  go_enter Try.func3, Try.ntmps3
  go_upto_region 2 with (first | ((with_reducible refine gate_dst (N := 4) rfl ?_); (try (refine gate_guard (by rfl) ?_; dsimp only)); refine box_event ?hg (N := 4) ?hd (cs := #[.int .i64 a1_0, .int .i64 a1_1, .string a1_2]) (t := 23) ?hr ?_; (case hd => rfl); (case hg => rfl); (case hr => first | (go_simp; done) | (go_simp; rfl)); intro gb300 hg w6 hbox hb; have n0_ := Aside0.mk (below_step (by repeat (first | (with_reducible first | exact HB.out | apply below_alloc | apply pw_below_drewN | apply below_drew1) | exact HB.out)) hb); have n1_ := Aside0.mk (hbox); have n2_ := Aside0.mk ((by rw [hg]; exact (below_size (by repeat (first | (with_reducible first | exact HB.out | apply below_alloc | apply pw_below_drewN | apply below_drew1) | exact HB.out))) : w.heap.size ≤ gb300)); have n3_ := Aside0.mk ((by rw [hg]; exact (below_size (by repeat (first | (with_reducible first | exact HB.out | apply below_alloc | apply pw_below_drewN | apply below_drew1) | exact HB.out))) : w.heap.size ≤ gb300)); clear HB; have HB := n0_; have BK300 := n1_; have GW300 := n2_; have GE300 := n3_; clear n0_ n1_ n2_ n3_; clear hb hbox hg) | ((with_reducible refine gate_dst (N := 5) rfl ?_); (try (refine gate_guard (by rfl) ?_; dsimp only)); refine box_event ?hg (N := 5) ?hd (cs := #[.int .i64 a2_0, .int .i64 a2_1, .string a2_2]) (t := 23) ?hr ?_; (case hd => rfl); (case hg => rfl); (case hr => first | (go_simp; done) | (go_simp; rfl)); intro gb301 hg w7 hbox hb; have n0_ := Aside0.mk (blk_below (g := gb300) (o := .cells #[.int .i64 a1_0, .int .i64 a1_1, .string a1_2] 23 (0, 0)) (by (with_reducible repeat (first | refine blk_drewN ?_ _ | refine blk_drew ?_ | refine blk_alloc ?_ _)); exact BK300.out) hb); have n1_ := Aside0.mk (below_step (by repeat (first | (with_reducible first | exact HB.out | apply below_alloc | apply pw_below_drewN | apply below_drew1 | refine below_set ?_ GE300.out) | exact HB.out)) hb); have n2_ := Aside0.mk (hbox); have n3_ := Aside0.mk ((by rw [hg]; exact (below_size (by repeat (first | (with_reducible first | exact HB.out | apply below_alloc | apply pw_below_drewN | apply below_drew1 | refine below_set ?_ GE300.out) | exact HB.out))) : w.heap.size ≤ gb301)); have n4_ := Aside0.mk ((by rw [hg]; exact (below_size (by repeat (first | (with_reducible first | exact HB.out | apply below_alloc | apply pw_below_drewN | apply below_drew1 | refine below_set ?_ GE300.out) | exact HB.out))) : w.heap.size ≤ gb301)); have n5_ := Aside0.mk ((by rw [hg]; exact Nat.ne_of_lt (blk_lt (g := gb300) (o := .cells #[.int .i64 a1_0, .int .i64 a1_1, .string a1_2] 23 (0, 0)) (by (with_reducible repeat (first | refine blk_drewN ?_ _ | refine blk_drew ?_ | refine blk_alloc ?_ _)); exact BK300.out)) : gb300 ≠ gb301)); have n6_ := Aside0.mk ((by rw [hg]; exact Nat.ne_of_gt (blk_lt (g := gb300) (o := .cells #[.int .i64 a1_0, .int .i64 a1_1, .string a1_2] 23 (0, 0)) (by (with_reducible repeat (first | refine blk_drewN ?_ _ | refine blk_drew ?_ | refine blk_alloc ?_ _)); exact BK300.out)) : gb301 ≠ gb300)); clear BK300; clear HB; have BK300 := n0_; have HB := n1_; have BK301 := n2_; have GW301 := n3_; have GE301 := n4_; have NB300_301 := n5_; have NB301_300 := n6_; clear n0_ n1_ n2_ n3_ n4_ n5_ n6_; clear hb hbox hg) | ((with_reducible refine gate_callee (f := 9) rfl ?_); refine goesL_ (some 20) rfl rfl Try.func9 (by kernel_rfl) rfl #[] rfl (by (try simp only [List.map_toArray, List.map_cons, List.map_nil]); first | done | rfl | (simp only [List.length_drop, List.length_take]; rfl)) ?_; (with_reducible refine (augurylaw04_head.calls k  t302 _ A4.out).mono ?_); rintro e w8 ⟨rfl, hb⟩; refine ⟨_, rfl, ?_⟩; have n0_ := Aside0.mk (blk_below (g := gb300) (o := .cells #[.int .i64 a1_0, .int .i64 a1_1, .string a1_2] 23 (0, 0)) (by (with_reducible repeat (first | refine blk_drewN ?_ _ | refine blk_drew ?_ | refine blk_alloc ?_ _)); exact BK300.out) hb); have n1_ := Aside0.mk (blk_below (g := gb301) (o := .cells #[.int .i64 a2_0, .int .i64 a2_1, .string a2_2] 23 (0, 0)) (by (with_reducible repeat (first | refine blk_drewN ?_ _ | refine blk_drew ?_ | refine blk_alloc ?_ _)); exact BK301.out) hb); have n2_ := Aside0.mk (below_step (by repeat (first | (with_reducible first | exact HB.out | apply below_alloc | apply pw_below_drewN | apply below_drew1 | refine below_set ?_ GE300.out | refine below_set ?_ GE301.out) | exact HB.out)) hb); clear BK300; clear BK301; clear HB; have BK300 := n0_; have BK301 := n1_; have HB := n2_; clear n0_ n1_ n2_; (try clear hb); (try clear hb2); (try clear hk); (try clear hi)))
  (try simp only [Act.put, List.setIfInBounds_toArray, List.set_cons_zero, List.set_cons_succ])
  go_cut [30] (fun v30 wc => ∃ (kq : Nat) (x30_4 : Bool), v30 = .bool x30_4 ∧ Aside0 (augurylaw04_ValueTells.j0 kq a0 t302 x30_4 a1_0 a1_1 a1_2 a2_0 a2_1 a2_2 = some r) ∧ Aside0 (kq ≤ k) ∧ Aside0 (wc.heap[gb300]? = some (.cells #[.int .i64 a1_0, .int .i64 a1_1, .string a1_2] 23 (0, 0))) ∧ Aside0 (wc.heap[gb301]? = some (.cells #[.int .i64 a2_0, .int .i64 a2_1, .string a2_2] 23 (0, 0))) ∧ Aside0 (Below w.heap.size w wc))
  case first =>
    have H := HC5.out
    clear HC5
    by_cases c9 : (a1_2.size : Int) > 9000
    · rw [if_pos c9] at H
      have c9b0 : decide (9000 < (a1_2.size : Int)) = true := decide_eq_true c9
      have c9b1 : decide (9000 < a1_2.size) = true := decide_eq_true (by omega)
      clear c9
      (first | rw [c9b0] | (simp only [i64_w, i32_w]; rw [c9b0]) | skip)
      have H' := Aside0.mk H
      clear H
      have hnb10 := NB300_301.out
      have hnc10 := NB301_300.out
      have hcz11_0 : w8.cell? ⟨gb300, 0, none⟩ = some (.int .i64 a1_0) := (blk_cell BK300.out 0).trans rfl
      have hcz11_1 : w8.cell? ⟨gb300, 1, none⟩ = some (.int .i64 a1_1) := (blk_cell BK300.out 1).trans rfl
      have hcz11_2 : w8.cell? ⟨gb300, 2, none⟩ = some (.string a1_2) := (blk_cell BK300.out 2).trans rfl
      have hfz11_0 := blk_frozen BK300.out 0
      have hfz11_1 := blk_frozen BK300.out 1
      have hfz11_2 := blk_frozen BK300.out 2
      go_wp2
      go_meet
      case rel => exact ⟨_, (true), (by first | rfl | (simp; done) | (simp [*]; done) | grind), H', ⟨by first | omega | exact Nat.le_refl _⟩, ⟨by (with_reducible repeat (first | refine blk_drewN ?_ _ | refine blk_drew ?_ | refine blk_alloc ?_ _)); exact BK300.out⟩, ⟨by (with_reducible repeat (first | refine blk_drewN ?_ _ | refine blk_drew ?_ | refine blk_alloc ?_ _)); exact BK301.out⟩, ⟨by repeat (first | (with_reducible first | exact HB.out | apply below_alloc | apply pw_below_drewN | apply below_drew1 | refine below_set ?_ GE300.out | refine below_set ?_ GE301.out) | exact HB.out)⟩⟩
    · rw [if_neg c9] at H
      have c9b0 : decide (9000 < (a1_2.size : Int)) = false := decide_eq_false c9
      have c9b1 : decide (9000 < a1_2.size) = false := decide_eq_false (by omega)
      clear c9
      (first | rw [c9b0] | (simp only [i64_w, i32_w]; rw [c9b0]) | skip)
      have H' := Aside0.mk H
      clear H
      have hnb12 := NB300_301.out
      have hnc12 := NB301_300.out
      have hcz13_0 : w8.cell? ⟨gb300, 0, none⟩ = some (.int .i64 a1_0) := (blk_cell BK300.out 0).trans rfl
      have hcz13_1 : w8.cell? ⟨gb300, 1, none⟩ = some (.int .i64 a1_1) := (blk_cell BK300.out 1).trans rfl
      have hcz13_2 : w8.cell? ⟨gb300, 2, none⟩ = some (.string a1_2) := (blk_cell BK300.out 2).trans rfl
      have hfz13_0 := blk_frozen BK300.out 0
      have hfz13_1 := blk_frozen BK300.out 1
      have hfz13_2 := blk_frozen BK300.out 2
      have hcz14_0 : w8.cell? ⟨gb301, 0, none⟩ = some (.int .i64 a2_0) := (blk_cell BK301.out 0).trans rfl
      have hcz14_1 : w8.cell? ⟨gb301, 1, none⟩ = some (.int .i64 a2_1) := (blk_cell BK301.out 1).trans rfl
      have hcz14_2 : w8.cell? ⟨gb301, 2, none⟩ = some (.string a2_2) := (blk_cell BK301.out 2).trans rfl
      have hfz14_0 := blk_frozen BK301.out 0
      have hfz14_1 := blk_frozen BK301.out 1
      have hfz14_2 := blk_frozen BK301.out 2
      go_wp2
      go_meet
      case rel => exact ⟨_, (decide ((a2_2.size : Int) > 9000)), (by first | rfl | (simp; done) | (simp [*]; done) | grind), H', ⟨by first | omega | exact Nat.le_refl _⟩, ⟨by (with_reducible repeat (first | refine blk_drewN ?_ _ | refine blk_drew ?_ | refine blk_alloc ?_ _)); exact BK300.out⟩, ⟨by (with_reducible repeat (first | refine blk_drewN ?_ _ | refine blk_drew ?_ | refine blk_alloc ?_ _)); exact BK301.out⟩, ⟨by repeat (first | (with_reducible first | exact HB.out | apply below_alloc | apply pw_below_drewN | apply below_drew1 | refine below_set ?_ GE300.out | refine below_set ?_ GE301.out) | exact HB.out)⟩⟩
  case rest =>
    clear HC5
    try clear c1
    try clear p2
    try clear c3
    try clear c9
    try clear c9b0
    try clear c9b1
    try clear c10
    try clear c12
    try clear hcz11_0
    try clear hcz11_1
    try clear hcz11_2
    try clear hcz13_0
    try clear hcz13_1
    try clear hcz13_2
    try clear hcz14_0
    try clear hcz14_1
    try clear hcz14_2
    try clear hfz11_0
    try clear hfz11_1
    try clear hfz11_2
    try clear hfz13_0
    try clear hfz13_1
    try clear hfz13_2
    try clear hfz14_0
    try clear hfz14_1
    try clear hfz14_2
    obtain ⟨kq, x30_4, rfl, HA, HJ4, BK300, BK301, HB⟩ := hcut
    cases kq with
    | zero => exact absurd HA.out (by simp [augurylaw04_ValueTells.j0])
    | succ kj4 =>
      have H := HA.out
      clear HA
      simp only [augurylaw04_ValueTells.j0] at H
      by_cases c15 : x30_4 = true
      · subst c15
        have H1 : (if t302 = true then (some true) else (none)) = some r := by rw [if_pos rfl] at H; exact H
        clear H
        have H := H1
        clear H1
        by_cases c16 : t302 = true
        · subst c16
          have H1 : (some true) = some r := by rw [if_pos rfl] at H; exact H
          clear H
          have H := H1
          clear H1
          obtain rfl := Option.some.inj H
          go_wp2
          go_ret
          exact ⟨by first | rfl | (simp [errW_none, errW_some] <;> rfl) | (simp [*, errW_none, errW_some] <;> rfl), by repeat (first | (with_reducible first | exact HB.out | apply below_alloc | apply pw_below_drewN | apply below_drew1 | refine below_set ?_ GE300.out | refine below_set ?_ GE301.out) | exact HB.out)⟩
        · replace c16 := Bool.eq_false_iff.mpr c16
          subst c16
          have H1 : (none) = some r := by rw [if_neg (show ¬ (false = true) by decide)] at H; exact H
          clear H
          have H := H1
          clear H1
          exact absurd H (by simp)
      · replace c15 := Bool.eq_false_iff.mpr c15
        subst c15
        have H1 : ((value_Add.f kj4 a1_0 a1_1 a1_2 a2_0 a2_1 a2_2).bind fun bt303 => ((auguryref04_Add.f kj4 a1_0 a1_1 a1_2 a2_0 a2_1 a2_2).bind fun bt308 => ((value_Sub.f kj4 a1_0 a1_1 a1_2 a2_0 a2_1 a2_2).bind fun bt313 => ((auguryref04_Sub.f kj4 a1_0 a1_1 a1_2 a2_0 a2_1 a2_2).bind fun bt318 => ((value_Compare.f a0 a1_0 a1_1 a1_2 a2_0 a2_1 a2_2).bind fun bt323 => ((auguryref04_Compare.f kj4 a0 a1_0 a1_1 a1_2 a2_0 a2_1 a2_2).bind fun bt325 => (if t302 = true then ((value_Right.f a1_0 a1_1 a1_2).bind fun t327 => ((auguryref04_Right.f a1_0 a1_1 a1_2).bind fun t328 => (if (t327 == t328) = true then (if (bt303.1 == bt308.1 && (bt303.2.1 == bt308.2.1 && (bt303.2.2.1.toList == bt308.2.2.1.toList))) = true then (if bt303.2.2.2 = bt308.2.2.2 then (if (bt313.1 == bt318.1 && (bt313.2.1 == bt318.2.1 && (bt313.2.2.1.toList == bt318.2.2.1.toList))) = true then (if bt313.2.2.2 = bt318.2.2.2 then (if (bt323.1 == bt325.1) = true then (if bt323.2 = bt325.2 then ((value_Put.f kj4 a1_0 a1_1 a1_2).bind fun t329 => ((auguryref04_Put.f kj4 a1_0 a1_1 a1_2).bind fun t332 => (if (strOfNums t329).toList = (strOfNums t332).toList then (some true) else (none)))) else (none)) else (none)) else (none)) else (none)) else (none)) else (none)) else (none)))) else (none)))))))) = some r := by rw [if_neg (show ¬ (false = true) by decide)] at H; exact H
        clear H
        have H := H1
        clear H1
        replace H := Option.bind_eq_some_iff.mp H
        obtain ⟨⟨t303, t304, t305, t306⟩, A170, H⟩ := H
        replace H : ((auguryref04_Add.f kj4 a1_0 a1_1 a1_2 a2_0 a2_1 a2_2).bind fun bt308 => ((value_Sub.f kj4 a1_0 a1_1 a1_2 a2_0 a2_1 a2_2).bind fun bt313 => ((auguryref04_Sub.f kj4 a1_0 a1_1 a1_2 a2_0 a2_1 a2_2).bind fun bt318 => ((value_Compare.f a0 a1_0 a1_1 a1_2 a2_0 a2_1 a2_2).bind fun bt323 => ((auguryref04_Compare.f kj4 a0 a1_0 a1_1 a1_2 a2_0 a2_1 a2_2).bind fun bt325 => (if t302 = true then ((value_Right.f a1_0 a1_1 a1_2).bind fun t327 => ((auguryref04_Right.f a1_0 a1_1 a1_2).bind fun t328 => (if (t327 == t328) = true then (if (t303 == bt308.1 && (t304 == bt308.2.1 && (t305.toList == bt308.2.2.1.toList))) = true then (if t306 = bt308.2.2.2 then (if (bt313.1 == bt318.1 && (bt313.2.1 == bt318.2.1 && (bt313.2.2.1.toList == bt318.2.2.1.toList))) = true then (if bt313.2.2.2 = bt318.2.2.2 then (if (bt323.1 == bt325.1) = true then (if bt323.2 = bt325.2 then ((value_Put.f kj4 a1_0 a1_1 a1_2).bind fun t329 => ((auguryref04_Put.f kj4 a1_0 a1_1 a1_2).bind fun t332 => (if (strOfNums t329).toList = (strOfNums t332).toList then (some true) else (none)))) else (none)) else (none)) else (none)) else (none)) else (none)) else (none)) else (none)))) else (none))))))) = some r := H
        have A17 := Aside0.mk A170
        clear A170
        replace H := Option.bind_eq_some_iff.mp H
        obtain ⟨⟨t308, t309, t310, t311⟩, A180, H⟩ := H
        replace H : ((value_Sub.f kj4 a1_0 a1_1 a1_2 a2_0 a2_1 a2_2).bind fun bt313 => ((auguryref04_Sub.f kj4 a1_0 a1_1 a1_2 a2_0 a2_1 a2_2).bind fun bt318 => ((value_Compare.f a0 a1_0 a1_1 a1_2 a2_0 a2_1 a2_2).bind fun bt323 => ((auguryref04_Compare.f kj4 a0 a1_0 a1_1 a1_2 a2_0 a2_1 a2_2).bind fun bt325 => (if t302 = true then ((value_Right.f a1_0 a1_1 a1_2).bind fun t327 => ((auguryref04_Right.f a1_0 a1_1 a1_2).bind fun t328 => (if (t327 == t328) = true then (if (t303 == t308 && (t304 == t309 && (t305.toList == t310.toList))) = true then (if t306 = t311 then (if (bt313.1 == bt318.1 && (bt313.2.1 == bt318.2.1 && (bt313.2.2.1.toList == bt318.2.2.1.toList))) = true then (if bt313.2.2.2 = bt318.2.2.2 then (if (bt323.1 == bt325.1) = true then (if bt323.2 = bt325.2 then ((value_Put.f kj4 a1_0 a1_1 a1_2).bind fun t329 => ((auguryref04_Put.f kj4 a1_0 a1_1 a1_2).bind fun t332 => (if (strOfNums t329).toList = (strOfNums t332).toList then (some true) else (none)))) else (none)) else (none)) else (none)) else (none)) else (none)) else (none)) else (none)))) else (none)))))) = some r := H
        have A18 := Aside0.mk A180
        clear A180
        replace H := Option.bind_eq_some_iff.mp H
        obtain ⟨⟨t313, t314, t315, t316⟩, A190, H⟩ := H
        replace H : ((auguryref04_Sub.f kj4 a1_0 a1_1 a1_2 a2_0 a2_1 a2_2).bind fun bt318 => ((value_Compare.f a0 a1_0 a1_1 a1_2 a2_0 a2_1 a2_2).bind fun bt323 => ((auguryref04_Compare.f kj4 a0 a1_0 a1_1 a1_2 a2_0 a2_1 a2_2).bind fun bt325 => (if t302 = true then ((value_Right.f a1_0 a1_1 a1_2).bind fun t327 => ((auguryref04_Right.f a1_0 a1_1 a1_2).bind fun t328 => (if (t327 == t328) = true then (if (t303 == t308 && (t304 == t309 && (t305.toList == t310.toList))) = true then (if t306 = t311 then (if (t313 == bt318.1 && (t314 == bt318.2.1 && (t315.toList == bt318.2.2.1.toList))) = true then (if t316 = bt318.2.2.2 then (if (bt323.1 == bt325.1) = true then (if bt323.2 = bt325.2 then ((value_Put.f kj4 a1_0 a1_1 a1_2).bind fun t329 => ((auguryref04_Put.f kj4 a1_0 a1_1 a1_2).bind fun t332 => (if (strOfNums t329).toList = (strOfNums t332).toList then (some true) else (none)))) else (none)) else (none)) else (none)) else (none)) else (none)) else (none)) else (none)))) else (none))))) = some r := H
        have A19 := Aside0.mk A190
        clear A190
        replace H := Option.bind_eq_some_iff.mp H
        obtain ⟨⟨t318, t319, t320, t321⟩, A200, H⟩ := H
        replace H : ((value_Compare.f a0 a1_0 a1_1 a1_2 a2_0 a2_1 a2_2).bind fun bt323 => ((auguryref04_Compare.f kj4 a0 a1_0 a1_1 a1_2 a2_0 a2_1 a2_2).bind fun bt325 => (if t302 = true then ((value_Right.f a1_0 a1_1 a1_2).bind fun t327 => ((auguryref04_Right.f a1_0 a1_1 a1_2).bind fun t328 => (if (t327 == t328) = true then (if (t303 == t308 && (t304 == t309 && (t305.toList == t310.toList))) = true then (if t306 = t311 then (if (t313 == t318 && (t314 == t319 && (t315.toList == t320.toList))) = true then (if t316 = t321 then (if (bt323.1 == bt325.1) = true then (if bt323.2 = bt325.2 then ((value_Put.f kj4 a1_0 a1_1 a1_2).bind fun t329 => ((auguryref04_Put.f kj4 a1_0 a1_1 a1_2).bind fun t332 => (if (strOfNums t329).toList = (strOfNums t332).toList then (some true) else (none)))) else (none)) else (none)) else (none)) else (none)) else (none)) else (none)) else (none)))) else (none)))) = some r := H
        have A20 := Aside0.mk A200
        clear A200
        replace H := Option.bind_eq_some_iff.mp H
        obtain ⟨⟨t323, t324⟩, A210, H⟩ := H
        replace H : ((auguryref04_Compare.f kj4 a0 a1_0 a1_1 a1_2 a2_0 a2_1 a2_2).bind fun bt325 => (if t302 = true then ((value_Right.f a1_0 a1_1 a1_2).bind fun t327 => ((auguryref04_Right.f a1_0 a1_1 a1_2).bind fun t328 => (if (t327 == t328) = true then (if (t303 == t308 && (t304 == t309 && (t305.toList == t310.toList))) = true then (if t306 = t311 then (if (t313 == t318 && (t314 == t319 && (t315.toList == t320.toList))) = true then (if t316 = t321 then (if (t323 == bt325.1) = true then (if t324 = bt325.2 then ((value_Put.f kj4 a1_0 a1_1 a1_2).bind fun t329 => ((auguryref04_Put.f kj4 a1_0 a1_1 a1_2).bind fun t332 => (if (strOfNums t329).toList = (strOfNums t332).toList then (some true) else (none)))) else (none)) else (none)) else (none)) else (none)) else (none)) else (none)) else (none)))) else (none))) = some r := H
        have A21 := Aside0.mk A210
        clear A210
        replace H := Option.bind_eq_some_iff.mp H
        obtain ⟨⟨t325, t326⟩, A220, H⟩ := H
        replace H : (if t302 = true then ((value_Right.f a1_0 a1_1 a1_2).bind fun t327 => ((auguryref04_Right.f a1_0 a1_1 a1_2).bind fun t328 => (if (t327 == t328) = true then (if (t303 == t308 && (t304 == t309 && (t305.toList == t310.toList))) = true then (if t306 = t311 then (if (t313 == t318 && (t314 == t319 && (t315.toList == t320.toList))) = true then (if t316 = t321 then (if (t323 == t325) = true then (if t324 = t326 then ((value_Put.f kj4 a1_0 a1_1 a1_2).bind fun t329 => ((auguryref04_Put.f kj4 a1_0 a1_1 a1_2).bind fun t332 => (if (strOfNums t329).toList = (strOfNums t332).toList then (some true) else (none)))) else (none)) else (none)) else (none)) else (none)) else (none)) else (none)) else (none)))) else (none)) = some r := H
        have A22 := Aside0.mk A220
        clear A220
        by_cases c23 : t302 = true
        · subst c23
          have H1 : ((value_Right.f a1_0 a1_1 a1_2).bind fun t327 => ((auguryref04_Right.f a1_0 a1_1 a1_2).bind fun t328 => (if (t327 == t328) = true then (if (t303 == t308 && (t304 == t309 && (t305.toList == t310.toList))) = true then (if t306 = t311 then (if (t313 == t318 && (t314 == t319 && (t315.toList == t320.toList))) = true then (if t316 = t321 then (if (t323 == t325) = true then (if t324 = t326 then ((value_Put.f kj4 a1_0 a1_1 a1_2).bind fun t329 => ((auguryref04_Put.f kj4 a1_0 a1_1 a1_2).bind fun t332 => (if (strOfNums t329).toList = (strOfNums t332).toList then (some true) else (none)))) else (none)) else (none)) else (none)) else (none)) else (none)) else (none)) else (none)))) = some r := by rw [if_pos rfl] at H; exact H
          clear H
          have H := H1
          clear H1
          replace H := Option.bind_eq_some_iff.mp H
          obtain ⟨t327, A240, H⟩ := H
          replace H : ((auguryref04_Right.f a1_0 a1_1 a1_2).bind fun t328 => (if (t327 == t328) = true then (if (t303 == t308 && (t304 == t309 && (t305.toList == t310.toList))) = true then (if t306 = t311 then (if (t313 == t318 && (t314 == t319 && (t315.toList == t320.toList))) = true then (if t316 = t321 then (if (t323 == t325) = true then (if t324 = t326 then ((value_Put.f kj4 a1_0 a1_1 a1_2).bind fun t329 => ((auguryref04_Put.f kj4 a1_0 a1_1 a1_2).bind fun t332 => (if (strOfNums t329).toList = (strOfNums t332).toList then (some true) else (none)))) else (none)) else (none)) else (none)) else (none)) else (none)) else (none)) else (none))) = some r := H
          have A24 := Aside0.mk A240
          clear A240
          replace H := Option.bind_eq_some_iff.mp H
          obtain ⟨t328, A250, H⟩ := H
          replace H : (if (t327 == t328) = true then (if (t303 == t308 && (t304 == t309 && (t305.toList == t310.toList))) = true then (if t306 = t311 then (if (t313 == t318 && (t314 == t319 && (t315.toList == t320.toList))) = true then (if t316 = t321 then (if (t323 == t325) = true then (if t324 = t326 then ((value_Put.f kj4 a1_0 a1_1 a1_2).bind fun t329 => ((auguryref04_Put.f kj4 a1_0 a1_1 a1_2).bind fun t332 => (if (strOfNums t329).toList = (strOfNums t332).toList then (some true) else (none)))) else (none)) else (none)) else (none)) else (none)) else (none)) else (none)) else (none)) = some r := H
          have A25 := Aside0.mk A250
          clear A250
          by_cases c26 : (t327 == t328) = true
          · rw [if_pos c26] at H
            have c26b0 : (t327 == t328) = true := c26
            (try (have c26b1 : decide (t327 = t328) = true := by simpa using c26))
            (try (have c26b2 : (t327 == t328) = true := by simpa using c26))
            clear c26
            by_cases c27 : (t303 == t308 && (t304 == t309 && (t305.toList == t310.toList))) = true
            · rw [if_pos c27] at H
              have c27b0 : (t303 == t308 && (t304 == t309 && (t305.toList == t310.toList))) = true := c27
              (try (have c27b1 : decide (t303 = t308 && (t304 == t309 && (t305.toList == t310.toList))) = true := by simpa using c27))
              (try (have c27b2 : (t303 == t308 && (t304 == t309 && (t305.toList == t310.toList))) = true := by simpa using c27))
              clear c27
              by_cases c28 : t306 = t311
              · rw [if_pos c28] at H
                have c28b0 : (t306 == t311) = true := beq_iff_eq.mpr c28
                have c28b1 : (t306 != t311) = false := bne_eq_false_iff_eq.mpr c28
                clear c28
                by_cases c29 : (t313 == t318 && (t314 == t319 && (t315.toList == t320.toList))) = true
                · rw [if_pos c29] at H
                  have c29b0 : (t313 == t318 && (t314 == t319 && (t315.toList == t320.toList))) = true := c29
                  (try (have c29b1 : decide (t313 = t318 && (t314 == t319 && (t315.toList == t320.toList))) = true := by simpa using c29))
                  (try (have c29b2 : (t313 == t318 && (t314 == t319 && (t315.toList == t320.toList))) = true := by simpa using c29))
                  clear c29
                  by_cases c30 : t316 = t321
                  · rw [if_pos c30] at H
                    have c30b0 : (t316 == t321) = true := beq_iff_eq.mpr c30
                    have c30b1 : (t316 != t321) = false := bne_eq_false_iff_eq.mpr c30
                    clear c30
                    by_cases c31 : (t323 == t325) = true
                    · rw [if_pos c31] at H
                      have c31b0 : (t323 == t325) = true := c31
                      (try (have c31b1 : decide (t323 = t325) = true := by simpa using c31))
                      (try (have c31b2 : (t323 == t325) = true := by simpa using c31))
                      clear c31
                      by_cases c32 : t324 = t326
                      · rw [if_pos c32] at H
                        have c32b0 : (t324 == t326) = true := beq_iff_eq.mpr c32
                        have c32b1 : (t324 != t326) = false := bne_eq_false_iff_eq.mpr c32
                        clear c32
                        replace H := Option.bind_eq_some_iff.mp H
                        obtain ⟨t329, A330, H⟩ := H
                        replace H : ((auguryref04_Put.f kj4 a1_0 a1_1 a1_2).bind fun t332 => (if (strOfNums t329).toList = (strOfNums t332).toList then (some true) else (none))) = some r := H
                        have A33 := Aside0.mk A330
                        clear A330
                        replace H := Option.bind_eq_some_iff.mp H
                        obtain ⟨t332, A340, H⟩ := H
                        replace H : (if (strOfNums t329).toList = (strOfNums t332).toList then (some true) else (none)) = some r := H
                        have A34 := Aside0.mk A340
                        clear A340
                        by_cases c35 : (strOfNums t329).toList = (strOfNums t332).toList
                        · rw [if_pos c35] at H
                          have c35b0 : ((strOfNums t329).toList == (strOfNums t332).toList) = true := beq_iff_eq.mpr c35
                          have c35b1 : ((strOfNums t329).toList != (strOfNums t332).toList) = false := bne_eq_false_iff_eq.mpr c35
                          clear c35
                          obtain rfl := Option.some.inj H
                          have hnb36 := NB300_301.out
                          have hnc36 := NB301_300.out
                          have hcz37_0 : wc.cell? ⟨gb300, 0, none⟩ = some (.int .i64 a1_0) := (blk_cell BK300.out 0).trans rfl
                          have hcz37_1 : wc.cell? ⟨gb300, 1, none⟩ = some (.int .i64 a1_1) := (blk_cell BK300.out 1).trans rfl
                          have hcz37_2 : wc.cell? ⟨gb300, 2, none⟩ = some (.string a1_2) := (blk_cell BK300.out 2).trans rfl
                          have hfz37_0 := blk_frozen BK300.out 0
                          have hfz37_1 := blk_frozen BK300.out 1
                          have hfz37_2 := blk_frozen BK300.out 2
                          have hcz38_0 : wc.cell? ⟨gb301, 0, none⟩ = some (.int .i64 a2_0) := (blk_cell BK301.out 0).trans rfl
                          have hcz38_1 : wc.cell? ⟨gb301, 1, none⟩ = some (.int .i64 a2_1) := (blk_cell BK301.out 1).trans rfl
                          have hcz38_2 : wc.cell? ⟨gb301, 2, none⟩ = some (.string a2_2) := (blk_cell BK301.out 2).trans rfl
                          have hfz38_0 := blk_frozen BK301.out 0
                          have hfz38_1 := blk_frozen BK301.out 1
                          have hfz38_2 := blk_frozen BK301.out 2
                          try go_wp2_with (first | ((with_reducible refine gate_callee (f := 10) rfl ?_); refine goesL_ (some 35) rfl rfl Try.func10 (by kernel_rfl) rfl #[.agg #[.int .i64 a1_0, .int .i64 a1_1, .string a1_2], .agg #[.int .i64 a2_0, .int .i64 a2_1, .string a2_2]] rfl (by (try simp only [List.map_toArray, List.map_cons, List.map_nil]); first | done | rfl | (simp only [List.length_drop, List.length_take]; rfl)) ?_; (with_reducible refine (value_Add.calls kj4 a1_0 a1_1 a1_2 a2_0 a2_1 a2_2 t303 t304 t305 t306 _ A17.out).mono ?_); rintro e w39 ⟨rfl, hb⟩; refine ⟨_, rfl, ?_⟩; have n0_ := Aside0.mk (blk_below (g := gb300) (o := .cells #[.int .i64 a1_0, .int .i64 a1_1, .string a1_2] 23 (0, 0)) (by (with_reducible repeat (first | refine blk_drewN ?_ _ | refine blk_drew ?_ | refine blk_alloc ?_ _)); exact BK300.out) hb); have n1_ := Aside0.mk (blk_below (g := gb301) (o := .cells #[.int .i64 a2_0, .int .i64 a2_1, .string a2_2] 23 (0, 0)) (by (with_reducible repeat (first | refine blk_drewN ?_ _ | refine blk_drew ?_ | refine blk_alloc ?_ _)); exact BK301.out) hb); have n2_ := Aside0.mk (below_step (by repeat (first | (with_reducible first | exact HB.out | apply below_alloc | apply pw_below_drewN | apply below_drew1 | refine below_set ?_ GE300.out | refine below_set ?_ GE301.out) | exact HB.out)) hb); clear BK300; clear BK301; clear HB; have BK300 := n0_; have BK301 := n1_; have HB := n2_; clear n0_ n1_ n2_; (try clear hb); (try clear hb2); (try clear hk); (try clear hi)) | ((with_reducible refine gate_dst (N := 8) rfl ?_); (try (refine gate_guard (by rfl) ?_; dsimp only)); refine box_event ?hg (N := 8) ?hd (cs := #[.int .i64 0, .int .i64 0, .string (⟨#[]⟩ : ByteArray)]) (t := 23) ?hr ?_; (case hd => rfl); (case hg => rfl); (case hr => first | (go_simp; done) | (go_simp; rfl)); intro gb307 hg w40 hbox hb; have n0_ := Aside0.mk (blk_below (g := gb300) (o := .cells #[.int .i64 a1_0, .int .i64 a1_1, .string a1_2] 23 (0, 0)) (by (with_reducible repeat (first | refine blk_drewN ?_ _ | refine blk_drew ?_ | refine blk_alloc ?_ _)); exact BK300.out) hb); have n1_ := Aside0.mk (blk_below (g := gb301) (o := .cells #[.int .i64 a2_0, .int .i64 a2_1, .string a2_2] 23 (0, 0)) (by (with_reducible repeat (first | refine blk_drewN ?_ _ | refine blk_drew ?_ | refine blk_alloc ?_ _)); exact BK301.out) hb); have n2_ := Aside0.mk (below_step (by repeat (first | (with_reducible first | exact HB.out | apply below_alloc | apply pw_below_drewN | apply below_drew1 | refine below_set ?_ GE300.out | refine below_set ?_ GE301.out) | exact HB.out)) hb); have n3_ := Aside0.mk (hbox); have n4_ := Aside0.mk ((by rw [hg]; exact (below_size (by repeat (first | (with_reducible first | exact HB.out | apply below_alloc | apply pw_below_drewN | apply below_drew1 | refine below_set ?_ GE300.out | refine below_set ?_ GE301.out) | exact HB.out))) : w.heap.size ≤ gb307)); have n5_ := Aside0.mk ((by rw [hg]; exact (below_size (by repeat (first | (with_reducible first | exact HB.out | apply below_alloc | apply pw_below_drewN | apply below_drew1 | refine below_set ?_ GE300.out | refine below_set ?_ GE301.out) | exact HB.out))) : w.heap.size ≤ gb307)); have n6_ := Aside0.mk ((by rw [hg]; exact Nat.ne_of_lt (blk_lt (g := gb300) (o := .cells #[.int .i64 a1_0, .int .i64 a1_1, .string a1_2] 23 (0, 0)) (by (with_reducible repeat (first | refine blk_drewN ?_ _ | refine blk_drew ?_ | refine blk_alloc ?_ _)); exact BK300.out)) : gb300 ≠ gb307)); have n7_ := Aside0.mk ((by rw [hg]; exact Nat.ne_of_gt (blk_lt (g := gb300) (o := .cells #[.int .i64 a1_0, .int .i64 a1_1, .string a1_2] 23 (0, 0)) (by (with_reducible repeat (first | refine blk_drewN ?_ _ | refine blk_drew ?_ | refine blk_alloc ?_ _)); exact BK300.out)) : gb307 ≠ gb300)); have n8_ := Aside0.mk ((by rw [hg]; exact Nat.ne_of_lt (blk_lt (g := gb301) (o := .cells #[.int .i64 a2_0, .int .i64 a2_1, .string a2_2] 23 (0, 0)) (by (with_reducible repeat (first | refine blk_drewN ?_ _ | refine blk_drew ?_ | refine blk_alloc ?_ _)); exact BK301.out)) : gb301 ≠ gb307)); have n9_ := Aside0.mk ((by rw [hg]; exact Nat.ne_of_gt (blk_lt (g := gb301) (o := .cells #[.int .i64 a2_0, .int .i64 a2_1, .string a2_2] 23 (0, 0)) (by (with_reducible repeat (first | refine blk_drewN ?_ _ | refine blk_drew ?_ | refine blk_alloc ?_ _)); exact BK301.out)) : gb307 ≠ gb301)); clear BK300; clear BK301; clear HB; have BK300 := n0_; have BK301 := n1_; have HB := n2_; have BK307 := n3_; have GW307 := n4_; have GE307 := n5_; have NB300_307 := n6_; have NB307_300 := n7_; have NB301_307 := n8_; have NB307_301 := n9_; clear n0_ n1_ n2_ n3_ n4_ n5_ n6_ n7_ n8_ n9_; clear hb hbox hg; have hnb41 := NB307_300.out; have hnc41 := NB300_307.out; have hnb42 := NB307_301.out; have hnc42 := NB301_307.out; have hcz43_0 : w40.cell? ⟨gb307, 0, none⟩ = some (.int .i64 0) := (blk_cell BK307.out 0).trans rfl; have hcz43_1 : w40.cell? ⟨gb307, 1, none⟩ = some (.int .i64 0) := (blk_cell BK307.out 1).trans rfl; have hcz43_2 : w40.cell? ⟨gb307, 2, none⟩ = some (.string (⟨#[]⟩ : ByteArray)) := (blk_cell BK307.out 2).trans rfl; have hfz43_0 := blk_frozen BK307.out 0; have hfz43_1 := blk_frozen BK307.out 1; have hfz43_2 := blk_frozen BK307.out 2; have hcz44_0 : w40.cell? ⟨gb300, 0, none⟩ = some (.int .i64 a1_0) := (blk_cell BK300.out 0).trans rfl; have hcz44_1 : w40.cell? ⟨gb300, 1, none⟩ = some (.int .i64 a1_1) := (blk_cell BK300.out 1).trans rfl; have hcz44_2 : w40.cell? ⟨gb300, 2, none⟩ = some (.string a1_2) := (blk_cell BK300.out 2).trans rfl; have hfz44_0 := blk_frozen BK300.out 0; have hfz44_1 := blk_frozen BK300.out 1; have hfz44_2 := blk_frozen BK300.out 2; have hcz45_0 : w40.cell? ⟨gb301, 0, none⟩ = some (.int .i64 a2_0) := (blk_cell BK301.out 0).trans rfl; have hcz45_1 : w40.cell? ⟨gb301, 1, none⟩ = some (.int .i64 a2_1) := (blk_cell BK301.out 1).trans rfl; have hcz45_2 : w40.cell? ⟨gb301, 2, none⟩ = some (.string a2_2) := (blk_cell BK301.out 2).trans rfl; have hfz45_0 := blk_frozen BK301.out 0; have hfz45_1 := blk_frozen BK301.out 1; have hfz45_2 := blk_frozen BK301.out 2) | ((with_reducible refine gate_callee (f := 11) rfl ?_); refine goesL_ (some 41) rfl rfl Try.func11 (by kernel_rfl) rfl #[.agg #[.int .i64 a1_0, .int .i64 a1_1, .string a1_2], .agg #[.int .i64 a2_0, .int .i64 a2_1, .string a2_2]] rfl (by (try simp only [List.map_toArray, List.map_cons, List.map_nil]); first | done | rfl | (simp only [List.length_drop, List.length_take]; rfl)) ?_; (with_reducible refine (auguryref04_Add.calls kj4 a1_0 a1_1 a1_2 a2_0 a2_1 a2_2 t308 t309 t310 t311 _ A18.out).mono ?_); rintro e w46 ⟨rfl, hb⟩; refine ⟨_, rfl, ?_⟩; have n0_ := Aside0.mk (blk_below (g := gb300) (o := .cells #[.int .i64 a1_0, .int .i64 a1_1, .string a1_2] 23 (0, 0)) (by (with_reducible repeat (first | refine blk_drewN ?_ _ | refine blk_drew ?_ | refine blk_alloc ?_ _)); refine blk_far ?_ NB300_307.out _; (with_reducible repeat (first | refine blk_drewN ?_ _ | refine blk_drew ?_ | refine blk_alloc ?_ _)); refine blk_far ?_ NB300_307.out _; (with_reducible repeat (first | refine blk_drewN ?_ _ | refine blk_drew ?_ | refine blk_alloc ?_ _)); refine blk_far ?_ NB300_307.out _; (with_reducible repeat (first | refine blk_drewN ?_ _ | refine blk_drew ?_ | refine blk_alloc ?_ _)); exact BK300.out) hb); have n1_ := Aside0.mk (blk_below (g := gb301) (o := .cells #[.int .i64 a2_0, .int .i64 a2_1, .string a2_2] 23 (0, 0)) (by (with_reducible repeat (first | refine blk_drewN ?_ _ | refine blk_drew ?_ | refine blk_alloc ?_ _)); refine blk_far ?_ NB301_307.out _; (with_reducible repeat (first | refine blk_drewN ?_ _ | refine blk_drew ?_ | refine blk_alloc ?_ _)); refine blk_far ?_ NB301_307.out _; (with_reducible repeat (first | refine blk_drewN ?_ _ | refine blk_drew ?_ | refine blk_alloc ?_ _)); refine blk_far ?_ NB301_307.out _; (with_reducible repeat (first | refine blk_drewN ?_ _ | refine blk_drew ?_ | refine blk_alloc ?_ _)); exact BK301.out) hb); have n2_ := Aside0.mk (blk_below (g := gb307) (o := .cells #[.int .i64 t303, .int .i64 t304, .string t305] 23 (0, 0)) (by (with_reducible repeat (first | refine blk_drewN ?_ _ | refine blk_drew ?_ | refine blk_alloc ?_ _)); refine blk_put (cs := #[.int .i64 t303, .int .i64 t304, .string (⟨#[]⟩ : ByteArray)]) ?_ 2 _ rfl; (with_reducible repeat (first | refine blk_drewN ?_ _ | refine blk_drew ?_ | refine blk_alloc ?_ _)); refine blk_put (cs := #[.int .i64 t303, .int .i64 0, .string (⟨#[]⟩ : ByteArray)]) ?_ 1 _ rfl; (with_reducible repeat (first | refine blk_drewN ?_ _ | refine blk_drew ?_ | refine blk_alloc ?_ _)); refine blk_put (cs := #[.int .i64 0, .int .i64 0, .string (⟨#[]⟩ : ByteArray)]) ?_ 0 _ rfl; (with_reducible repeat (first | refine blk_drewN ?_ _ | refine blk_drew ?_ | refine blk_alloc ?_ _)); exact BK307.out) hb); have n3_ := Aside0.mk (below_step (by repeat (first | (with_reducible first | exact HB.out | apply below_alloc | apply pw_below_drewN | apply below_drew1 | refine below_set ?_ GE300.out | refine below_set ?_ GE301.out | refine below_set ?_ GE307.out) | exact HB.out)) hb); clear BK300; clear BK301; clear BK307; clear HB; have BK300 := n0_; have BK301 := n1_; have BK307 := n2_; have HB := n3_; clear n0_ n1_ n2_ n3_; (try clear hb); (try clear hb2); (try clear hk); (try clear hi)) | ((with_reducible refine gate_dst (N := 10) rfl ?_); (try (refine gate_guard (by rfl) ?_; dsimp only)); refine box_event ?hg (N := 10) ?hd (cs := #[.int .i64 0, .int .i64 0, .string (⟨#[]⟩ : ByteArray)]) (t := 23) ?hr ?_; (case hd => rfl); (case hg => rfl); (case hr => first | (go_simp; done) | (go_simp; rfl)); intro gb312 hg w47 hbox hb; have n0_ := Aside0.mk (blk_below (g := gb300) (o := .cells #[.int .i64 a1_0, .int .i64 a1_1, .string a1_2] 23 (0, 0)) (by (with_reducible repeat (first | refine blk_drewN ?_ _ | refine blk_drew ?_ | refine blk_alloc ?_ _)); exact BK300.out) hb); have n1_ := Aside0.mk (blk_below (g := gb301) (o := .cells #[.int .i64 a2_0, .int .i64 a2_1, .string a2_2] 23 (0, 0)) (by (with_reducible repeat (first | refine blk_drewN ?_ _ | refine blk_drew ?_ | refine blk_alloc ?_ _)); exact BK301.out) hb); have n2_ := Aside0.mk (blk_below (g := gb307) (o := .cells #[.int .i64 t303, .int .i64 t304, .string t305] 23 (0, 0)) (by (with_reducible repeat (first | refine blk_drewN ?_ _ | refine blk_drew ?_ | refine blk_alloc ?_ _)); exact BK307.out) hb); have n3_ := Aside0.mk (below_step (by repeat (first | (with_reducible first | exact HB.out | apply below_alloc | apply pw_below_drewN | apply below_drew1 | refine below_set ?_ GE300.out | refine below_set ?_ GE301.out | refine below_set ?_ GE307.out) | exact HB.out)) hb); have n4_ := Aside0.mk (hbox); have n5_ := Aside0.mk ((by rw [hg]; exact (below_size (by repeat (first | (with_reducible first | exact HB.out | apply below_alloc | apply pw_below_drewN | apply below_drew1 | refine below_set ?_ GE300.out | refine below_set ?_ GE301.out | refine below_set ?_ GE307.out) | exact HB.out))) : w.heap.size ≤ gb312)); have n6_ := Aside0.mk ((by rw [hg]; exact (below_size (by repeat (first | (with_reducible first | exact HB.out | apply below_alloc | apply pw_below_drewN | apply below_drew1 | refine below_set ?_ GE300.out | refine below_set ?_ GE301.out | refine below_set ?_ GE307.out) | exact HB.out))) : w.heap.size ≤ gb312)); have n7_ := Aside0.mk ((by rw [hg]; exact Nat.ne_of_lt (blk_lt (g := gb300) (o := .cells #[.int .i64 a1_0, .int .i64 a1_1, .string a1_2] 23 (0, 0)) (by (with_reducible repeat (first | refine blk_drewN ?_ _ | refine blk_drew ?_ | refine blk_alloc ?_ _)); exact BK300.out)) : gb300 ≠ gb312)); have n8_ := Aside0.mk ((by rw [hg]; exact Nat.ne_of_gt (blk_lt (g := gb300) (o := .cells #[.int .i64 a1_0, .int .i64 a1_1, .string a1_2] 23 (0, 0)) (by (with_reducible repeat (first | refine blk_drewN ?_ _ | refine blk_drew ?_ | refine blk_alloc ?_ _)); exact BK300.out)) : gb312 ≠ gb300)); have n9_ := Aside0.mk ((by rw [hg]; exact Nat.ne_of_lt (blk_lt (g := gb301) (o := .cells #[.int .i64 a2_0, .int .i64 a2_1, .string a2_2] 23 (0, 0)) (by (with_reducible repeat (first | refine blk_drewN ?_ _ | refine blk_drew ?_ | refine blk_alloc ?_ _)); exact BK301.out)) : gb301 ≠ gb312)); have n10_ := Aside0.mk ((by rw [hg]; exact Nat.ne_of_gt (blk_lt (g := gb301) (o := .cells #[.int .i64 a2_0, .int .i64 a2_1, .string a2_2] 23 (0, 0)) (by (with_reducible repeat (first | refine blk_drewN ?_ _ | refine blk_drew ?_ | refine blk_alloc ?_ _)); exact BK301.out)) : gb312 ≠ gb301)); have n11_ := Aside0.mk ((by rw [hg]; exact Nat.ne_of_lt (blk_lt (g := gb307) (o := .cells #[.int .i64 t303, .int .i64 t304, .string t305] 23 (0, 0)) (by (with_reducible repeat (first | refine blk_drewN ?_ _ | refine blk_drew ?_ | refine blk_alloc ?_ _)); exact BK307.out)) : gb307 ≠ gb312)); have n12_ := Aside0.mk ((by rw [hg]; exact Nat.ne_of_gt (blk_lt (g := gb307) (o := .cells #[.int .i64 t303, .int .i64 t304, .string t305] 23 (0, 0)) (by (with_reducible repeat (first | refine blk_drewN ?_ _ | refine blk_drew ?_ | refine blk_alloc ?_ _)); exact BK307.out)) : gb312 ≠ gb307)); clear BK300; clear BK301; clear BK307; clear HB; have BK300 := n0_; have BK301 := n1_; have BK307 := n2_; have HB := n3_; have BK312 := n4_; have GW312 := n5_; have GE312 := n6_; have NB300_312 := n7_; have NB312_300 := n8_; have NB301_312 := n9_; have NB312_301 := n10_; have NB307_312 := n11_; have NB312_307 := n12_; clear n0_ n1_ n2_ n3_ n4_ n5_ n6_ n7_ n8_ n9_ n10_ n11_ n12_; clear hb hbox hg; have hnb48 := NB312_300.out; have hnc48 := NB300_312.out; have hnb49 := NB312_301.out; have hnc49 := NB301_312.out; have hnb50 := NB312_307.out; have hnc50 := NB307_312.out; have hcz51_0 : w47.cell? ⟨gb312, 0, none⟩ = some (.int .i64 0) := (blk_cell BK312.out 0).trans rfl; have hcz51_1 : w47.cell? ⟨gb312, 1, none⟩ = some (.int .i64 0) := (blk_cell BK312.out 1).trans rfl; have hcz51_2 : w47.cell? ⟨gb312, 2, none⟩ = some (.string (⟨#[]⟩ : ByteArray)) := (blk_cell BK312.out 2).trans rfl; have hfz51_0 := blk_frozen BK312.out 0; have hfz51_1 := blk_frozen BK312.out 1; have hfz51_2 := blk_frozen BK312.out 2; have hcz52_0 : w47.cell? ⟨gb300, 0, none⟩ = some (.int .i64 a1_0) := (blk_cell BK300.out 0).trans rfl; have hcz52_1 : w47.cell? ⟨gb300, 1, none⟩ = some (.int .i64 a1_1) := (blk_cell BK300.out 1).trans rfl; have hcz52_2 : w47.cell? ⟨gb300, 2, none⟩ = some (.string a1_2) := (blk_cell BK300.out 2).trans rfl; have hfz52_0 := blk_frozen BK300.out 0; have hfz52_1 := blk_frozen BK300.out 1; have hfz52_2 := blk_frozen BK300.out 2; have hcz53_0 : w47.cell? ⟨gb301, 0, none⟩ = some (.int .i64 a2_0) := (blk_cell BK301.out 0).trans rfl; have hcz53_1 : w47.cell? ⟨gb301, 1, none⟩ = some (.int .i64 a2_1) := (blk_cell BK301.out 1).trans rfl; have hcz53_2 : w47.cell? ⟨gb301, 2, none⟩ = some (.string a2_2) := (blk_cell BK301.out 2).trans rfl; have hfz53_0 := blk_frozen BK301.out 0; have hfz53_1 := blk_frozen BK301.out 1; have hfz53_2 := blk_frozen BK301.out 2) | ((with_reducible refine gate_callee (f := 12) rfl ?_); refine goesL_ (some 47) rfl rfl Try.func12 (by kernel_rfl) rfl #[.agg #[.int .i64 a1_0, .int .i64 a1_1, .string a1_2], .agg #[.int .i64 a2_0, .int .i64 a2_1, .string a2_2]] rfl (by (try simp only [List.map_toArray, List.map_cons, List.map_nil]); first | done | rfl | (simp only [List.length_drop, List.length_take]; rfl)) ?_; (with_reducible refine (value_Sub.calls kj4 a1_0 a1_1 a1_2 a2_0 a2_1 a2_2 t313 t314 t315 t316 _ A19.out).mono ?_); rintro e w54 ⟨rfl, hb⟩; refine ⟨_, rfl, ?_⟩; have n0_ := Aside0.mk (blk_below (g := gb300) (o := .cells #[.int .i64 a1_0, .int .i64 a1_1, .string a1_2] 23 (0, 0)) (by (with_reducible repeat (first | refine blk_drewN ?_ _ | refine blk_drew ?_ | refine blk_alloc ?_ _)); refine blk_far ?_ NB300_312.out _; (with_reducible repeat (first | refine blk_drewN ?_ _ | refine blk_drew ?_ | refine blk_alloc ?_ _)); refine blk_far ?_ NB300_312.out _; (with_reducible repeat (first | refine blk_drewN ?_ _ | refine blk_drew ?_ | refine blk_alloc ?_ _)); refine blk_far ?_ NB300_312.out _; (with_reducible repeat (first | refine blk_drewN ?_ _ | refine blk_drew ?_ | refine blk_alloc ?_ _)); exact BK300.out) hb); have n1_ := Aside0.mk (blk_below (g := gb301) (o := .cells #[.int .i64 a2_0, .int .i64 a2_1, .string a2_2] 23 (0, 0)) (by (with_reducible repeat (first | refine blk_drewN ?_ _ | refine blk_drew ?_ | refine blk_alloc ?_ _)); refine blk_far ?_ NB301_312.out _; (with_reducible repeat (first | refine blk_drewN ?_ _ | refine blk_drew ?_ | refine blk_alloc ?_ _)); refine blk_far ?_ NB301_312.out _; (with_reducible repeat (first | refine blk_drewN ?_ _ | refine blk_drew ?_ | refine blk_alloc ?_ _)); refine blk_far ?_ NB301_312.out _; (with_reducible repeat (first | refine blk_drewN ?_ _ | refine blk_drew ?_ | refine blk_alloc ?_ _)); exact BK301.out) hb); have n2_ := Aside0.mk (blk_below (g := gb307) (o := .cells #[.int .i64 t303, .int .i64 t304, .string t305] 23 (0, 0)) (by (with_reducible repeat (first | refine blk_drewN ?_ _ | refine blk_drew ?_ | refine blk_alloc ?_ _)); refine blk_far ?_ NB307_312.out _; (with_reducible repeat (first | refine blk_drewN ?_ _ | refine blk_drew ?_ | refine blk_alloc ?_ _)); refine blk_far ?_ NB307_312.out _; (with_reducible repeat (first | refine blk_drewN ?_ _ | refine blk_drew ?_ | refine blk_alloc ?_ _)); refine blk_far ?_ NB307_312.out _; (with_reducible repeat (first | refine blk_drewN ?_ _ | refine blk_drew ?_ | refine blk_alloc ?_ _)); exact BK307.out) hb); have n3_ := Aside0.mk (blk_below (g := gb312) (o := .cells #[.int .i64 t308, .int .i64 t309, .string t310] 23 (0, 0)) (by (with_reducible repeat (first | refine blk_drewN ?_ _ | refine blk_drew ?_ | refine blk_alloc ?_ _)); refine blk_put (cs := #[.int .i64 t308, .int .i64 t309, .string (⟨#[]⟩ : ByteArray)]) ?_ 2 _ rfl; (with_reducible repeat (first | refine blk_drewN ?_ _ | refine blk_drew ?_ | refine blk_alloc ?_ _)); refine blk_put (cs := #[.int .i64 t308, .int .i64 0, .string (⟨#[]⟩ : ByteArray)]) ?_ 1 _ rfl; (with_reducible repeat (first | refine blk_drewN ?_ _ | refine blk_drew ?_ | refine blk_alloc ?_ _)); refine blk_put (cs := #[.int .i64 0, .int .i64 0, .string (⟨#[]⟩ : ByteArray)]) ?_ 0 _ rfl; (with_reducible repeat (first | refine blk_drewN ?_ _ | refine blk_drew ?_ | refine blk_alloc ?_ _)); exact BK312.out) hb); have n4_ := Aside0.mk (below_step (by repeat (first | (with_reducible first | exact HB.out | apply below_alloc | apply pw_below_drewN | apply below_drew1 | refine below_set ?_ GE300.out | refine below_set ?_ GE301.out | refine below_set ?_ GE307.out | refine below_set ?_ GE312.out) | exact HB.out)) hb); clear BK300; clear BK301; clear BK307; clear BK312; clear HB; have BK300 := n0_; have BK301 := n1_; have BK307 := n2_; have BK312 := n3_; have HB := n4_; clear n0_ n1_ n2_ n3_ n4_; (try clear hb); (try clear hb2); (try clear hk); (try clear hi)) | ((with_reducible refine gate_dst (N := 12) rfl ?_); (try (refine gate_guard (by rfl) ?_; dsimp only)); refine box_event ?hg (N := 12) ?hd (cs := #[.int .i64 0, .int .i64 0, .string (⟨#[]⟩ : ByteArray)]) (t := 23) ?hr ?_; (case hd => rfl); (case hg => rfl); (case hr => first | (go_simp; done) | (go_simp; rfl)); intro gb317 hg w55 hbox hb; have n0_ := Aside0.mk (blk_below (g := gb300) (o := .cells #[.int .i64 a1_0, .int .i64 a1_1, .string a1_2] 23 (0, 0)) (by (with_reducible repeat (first | refine blk_drewN ?_ _ | refine blk_drew ?_ | refine blk_alloc ?_ _)); exact BK300.out) hb); have n1_ := Aside0.mk (blk_below (g := gb301) (o := .cells #[.int .i64 a2_0, .int .i64 a2_1, .string a2_2] 23 (0, 0)) (by (with_reducible repeat (first | refine blk_drewN ?_ _ | refine blk_drew ?_ | refine blk_alloc ?_ _)); exact BK301.out) hb); have n2_ := Aside0.mk (blk_below (g := gb307) (o := .cells #[.int .i64 t303, .int .i64 t304, .string t305] 23 (0, 0)) (by (with_reducible repeat (first | refine blk_drewN ?_ _ | refine blk_drew ?_ | refine blk_alloc ?_ _)); exact BK307.out) hb); have n3_ := Aside0.mk (blk_below (g := gb312) (o := .cells #[.int .i64 t308, .int .i64 t309, .string t310] 23 (0, 0)) (by (with_reducible repeat (first | refine blk_drewN ?_ _ | refine blk_drew ?_ | refine blk_alloc ?_ _)); exact BK312.out) hb); have n4_ := Aside0.mk (below_step (by repeat (first | (with_reducible first | exact HB.out | apply below_alloc | apply pw_below_drewN | apply below_drew1 | refine below_set ?_ GE300.out | refine below_set ?_ GE301.out | refine below_set ?_ GE307.out | refine below_set ?_ GE312.out) | exact HB.out)) hb); have n5_ := Aside0.mk (hbox); have n6_ := Aside0.mk ((by rw [hg]; exact (below_size (by repeat (first | (with_reducible first | exact HB.out | apply below_alloc | apply pw_below_drewN | apply below_drew1 | refine below_set ?_ GE300.out | refine below_set ?_ GE301.out | refine below_set ?_ GE307.out | refine below_set ?_ GE312.out) | exact HB.out))) : w.heap.size ≤ gb317)); have n7_ := Aside0.mk ((by rw [hg]; exact (below_size (by repeat (first | (with_reducible first | exact HB.out | apply below_alloc | apply pw_below_drewN | apply below_drew1 | refine below_set ?_ GE300.out | refine below_set ?_ GE301.out | refine below_set ?_ GE307.out | refine below_set ?_ GE312.out) | exact HB.out))) : w.heap.size ≤ gb317)); have n8_ := Aside0.mk ((by rw [hg]; exact Nat.ne_of_lt (blk_lt (g := gb300) (o := .cells #[.int .i64 a1_0, .int .i64 a1_1, .string a1_2] 23 (0, 0)) (by (with_reducible repeat (first | refine blk_drewN ?_ _ | refine blk_drew ?_ | refine blk_alloc ?_ _)); exact BK300.out)) : gb300 ≠ gb317)); have n9_ := Aside0.mk ((by rw [hg]; exact Nat.ne_of_gt (blk_lt (g := gb300) (o := .cells #[.int .i64 a1_0, .int .i64 a1_1, .string a1_2] 23 (0, 0)) (by (with_reducible repeat (first | refine blk_drewN ?_ _ | refine blk_drew ?_ | refine blk_alloc ?_ _)); exact BK300.out)) : gb317 ≠ gb300)); have n10_ := Aside0.mk ((by rw [hg]; exact Nat.ne_of_lt (blk_lt (g := gb301) (o := .cells #[.int .i64 a2_0, .int .i64 a2_1, .string a2_2] 23 (0, 0)) (by (with_reducible repeat (first | refine blk_drewN ?_ _ | refine blk_drew ?_ | refine blk_alloc ?_ _)); exact BK301.out)) : gb301 ≠ gb317)); have n11_ := Aside0.mk ((by rw [hg]; exact Nat.ne_of_gt (blk_lt (g := gb301) (o := .cells #[.int .i64 a2_0, .int .i64 a2_1, .string a2_2] 23 (0, 0)) (by (with_reducible repeat (first | refine blk_drewN ?_ _ | refine blk_drew ?_ | refine blk_alloc ?_ _)); exact BK301.out)) : gb317 ≠ gb301)); have n12_ := Aside0.mk ((by rw [hg]; exact Nat.ne_of_lt (blk_lt (g := gb307) (o := .cells #[.int .i64 t303, .int .i64 t304, .string t305] 23 (0, 0)) (by (with_reducible repeat (first | refine blk_drewN ?_ _ | refine blk_drew ?_ | refine blk_alloc ?_ _)); exact BK307.out)) : gb307 ≠ gb317)); have n13_ := Aside0.mk ((by rw [hg]; exact Nat.ne_of_gt (blk_lt (g := gb307) (o := .cells #[.int .i64 t303, .int .i64 t304, .string t305] 23 (0, 0)) (by (with_reducible repeat (first | refine blk_drewN ?_ _ | refine blk_drew ?_ | refine blk_alloc ?_ _)); exact BK307.out)) : gb317 ≠ gb307)); have n14_ := Aside0.mk ((by rw [hg]; exact Nat.ne_of_lt (blk_lt (g := gb312) (o := .cells #[.int .i64 t308, .int .i64 t309, .string t310] 23 (0, 0)) (by (with_reducible repeat (first | refine blk_drewN ?_ _ | refine blk_drew ?_ | refine blk_alloc ?_ _)); exact BK312.out)) : gb312 ≠ gb317)); have n15_ := Aside0.mk ((by rw [hg]; exact Nat.ne_of_gt (blk_lt (g := gb312) (o := .cells #[.int .i64 t308, .int .i64 t309, .string t310] 23 (0, 0)) (by (with_reducible repeat (first | refine blk_drewN ?_ _ | refine blk_drew ?_ | refine blk_alloc ?_ _)); exact BK312.out)) : gb317 ≠ gb312)); clear BK300; clear BK301; clear BK307; clear BK312; clear HB; have BK300 := n0_; have BK301 := n1_; have BK307 := n2_; have BK312 := n3_; have HB := n4_; have BK317 := n5_; have GW317 := n6_; have GE317 := n7_; have NB300_317 := n8_; have NB317_300 := n9_; have NB301_317 := n10_; have NB317_301 := n11_; have NB307_317 := n12_; have NB317_307 := n13_; have NB312_317 := n14_; have NB317_312 := n15_; clear n0_ n1_ n2_ n3_ n4_ n5_ n6_ n7_ n8_ n9_ n10_ n11_ n12_ n13_ n14_ n15_; clear hb hbox hg; have hnb56 := NB317_300.out; have hnc56 := NB300_317.out; have hnb57 := NB317_301.out; have hnc57 := NB301_317.out; have hnb58 := NB317_307.out; have hnc58 := NB307_317.out; have hnb59 := NB317_312.out; have hnc59 := NB312_317.out; have hcz60_0 : w55.cell? ⟨gb317, 0, none⟩ = some (.int .i64 0) := (blk_cell BK317.out 0).trans rfl; have hcz60_1 : w55.cell? ⟨gb317, 1, none⟩ = some (.int .i64 0) := (blk_cell BK317.out 1).trans rfl; have hcz60_2 : w55.cell? ⟨gb317, 2, none⟩ = some (.string (⟨#[]⟩ : ByteArray)) := (blk_cell BK317.out 2).trans rfl; have hfz60_0 := blk_frozen BK317.out 0; have hfz60_1 := blk_frozen BK317.out 1; have hfz60_2 := blk_frozen BK317.out 2; have hcz61_0 : w55.cell? ⟨gb300, 0, none⟩ = some (.int .i64 a1_0) := (blk_cell BK300.out 0).trans rfl; have hcz61_1 : w55.cell? ⟨gb300, 1, none⟩ = some (.int .i64 a1_1) := (blk_cell BK300.out 1).trans rfl; have hcz61_2 : w55.cell? ⟨gb300, 2, none⟩ = some (.string a1_2) := (blk_cell BK300.out 2).trans rfl; have hfz61_0 := blk_frozen BK300.out 0; have hfz61_1 := blk_frozen BK300.out 1; have hfz61_2 := blk_frozen BK300.out 2; have hcz62_0 : w55.cell? ⟨gb301, 0, none⟩ = some (.int .i64 a2_0) := (blk_cell BK301.out 0).trans rfl; have hcz62_1 : w55.cell? ⟨gb301, 1, none⟩ = some (.int .i64 a2_1) := (blk_cell BK301.out 1).trans rfl; have hcz62_2 : w55.cell? ⟨gb301, 2, none⟩ = some (.string a2_2) := (blk_cell BK301.out 2).trans rfl; have hfz62_0 := blk_frozen BK301.out 0; have hfz62_1 := blk_frozen BK301.out 1; have hfz62_2 := blk_frozen BK301.out 2) | ((with_reducible refine gate_callee (f := 13) rfl ?_); refine goesL_ (some 53) rfl rfl Try.func13 (by kernel_rfl) rfl #[.agg #[.int .i64 a1_0, .int .i64 a1_1, .string a1_2], .agg #[.int .i64 a2_0, .int .i64 a2_1, .string a2_2]] rfl (by (try simp only [List.map_toArray, List.map_cons, List.map_nil]); first | done | rfl | (simp only [List.length_drop, List.length_take]; rfl)) ?_; (with_reducible refine (auguryref04_Sub.calls kj4 a1_0 a1_1 a1_2 a2_0 a2_1 a2_2 t318 t319 t320 t321 _ A20.out).mono ?_); rintro e w63 ⟨rfl, hb⟩; refine ⟨_, rfl, ?_⟩; have n0_ := Aside0.mk (blk_below (g := gb300) (o := .cells #[.int .i64 a1_0, .int .i64 a1_1, .string a1_2] 23 (0, 0)) (by (with_reducible repeat (first | refine blk_drewN ?_ _ | refine blk_drew ?_ | refine blk_alloc ?_ _)); refine blk_far ?_ NB300_317.out _; (with_reducible repeat (first | refine blk_drewN ?_ _ | refine blk_drew ?_ | refine blk_alloc ?_ _)); refine blk_far ?_ NB300_317.out _; (with_reducible repeat (first | refine blk_drewN ?_ _ | refine blk_drew ?_ | refine blk_alloc ?_ _)); refine blk_far ?_ NB300_317.out _; (with_reducible repeat (first | refine blk_drewN ?_ _ | refine blk_drew ?_ | refine blk_alloc ?_ _)); exact BK300.out) hb); have n1_ := Aside0.mk (blk_below (g := gb301) (o := .cells #[.int .i64 a2_0, .int .i64 a2_1, .string a2_2] 23 (0, 0)) (by (with_reducible repeat (first | refine blk_drewN ?_ _ | refine blk_drew ?_ | refine blk_alloc ?_ _)); refine blk_far ?_ NB301_317.out _; (with_reducible repeat (first | refine blk_drewN ?_ _ | refine blk_drew ?_ | refine blk_alloc ?_ _)); refine blk_far ?_ NB301_317.out _; (with_reducible repeat (first | refine blk_drewN ?_ _ | refine blk_drew ?_ | refine blk_alloc ?_ _)); refine blk_far ?_ NB301_317.out _; (with_reducible repeat (first | refine blk_drewN ?_ _ | refine blk_drew ?_ | refine blk_alloc ?_ _)); exact BK301.out) hb); have n2_ := Aside0.mk (blk_below (g := gb307) (o := .cells #[.int .i64 t303, .int .i64 t304, .string t305] 23 (0, 0)) (by (with_reducible repeat (first | refine blk_drewN ?_ _ | refine blk_drew ?_ | refine blk_alloc ?_ _)); refine blk_far ?_ NB307_317.out _; (with_reducible repeat (first | refine blk_drewN ?_ _ | refine blk_drew ?_ | refine blk_alloc ?_ _)); refine blk_far ?_ NB307_317.out _; (with_reducible repeat (first | refine blk_drewN ?_ _ | refine blk_drew ?_ | refine blk_alloc ?_ _)); refine blk_far ?_ NB307_317.out _; (with_reducible repeat (first | refine blk_drewN ?_ _ | refine blk_drew ?_ | refine blk_alloc ?_ _)); exact BK307.out) hb); have n3_ := Aside0.mk (blk_below (g := gb312) (o := .cells #[.int .i64 t308, .int .i64 t309, .string t310] 23 (0, 0)) (by (with_reducible repeat (first | refine blk_drewN ?_ _ | refine blk_drew ?_ | refine blk_alloc ?_ _)); refine blk_far ?_ NB312_317.out _; (with_reducible repeat (first | refine blk_drewN ?_ _ | refine blk_drew ?_ | refine blk_alloc ?_ _)); refine blk_far ?_ NB312_317.out _; (with_reducible repeat (first | refine blk_drewN ?_ _ | refine blk_drew ?_ | refine blk_alloc ?_ _)); refine blk_far ?_ NB312_317.out _; (with_reducible repeat (first | refine blk_drewN ?_ _ | refine blk_drew ?_ | refine blk_alloc ?_ _)); exact BK312.out) hb); have n4_ := Aside0.mk (blk_below (g := gb317) (o := .cells #[.int .i64 t313, .int .i64 t314, .string t315] 23 (0, 0)) (by (with_reducible repeat (first | refine blk_drewN ?_ _ | refine blk_drew ?_ | refine blk_alloc ?_ _)); refine blk_put (cs := #[.int .i64 t313, .int .i64 t314, .string (⟨#[]⟩ : ByteArray)]) ?_ 2 _ rfl; (with_reducible repeat (first | refine blk_drewN ?_ _ | refine blk_drew ?_ | refine blk_alloc ?_ _)); refine blk_put (cs := #[.int .i64 t313, .int .i64 0, .string (⟨#[]⟩ : ByteArray)]) ?_ 1 _ rfl; (with_reducible repeat (first | refine blk_drewN ?_ _ | refine blk_drew ?_ | refine blk_alloc ?_ _)); refine blk_put (cs := #[.int .i64 0, .int .i64 0, .string (⟨#[]⟩ : ByteArray)]) ?_ 0 _ rfl; (with_reducible repeat (first | refine blk_drewN ?_ _ | refine blk_drew ?_ | refine blk_alloc ?_ _)); exact BK317.out) hb); have n5_ := Aside0.mk (below_step (by repeat (first | (with_reducible first | exact HB.out | apply below_alloc | apply pw_below_drewN | apply below_drew1 | refine below_set ?_ GE300.out | refine below_set ?_ GE301.out | refine below_set ?_ GE307.out | refine below_set ?_ GE312.out | refine below_set ?_ GE317.out) | exact HB.out)) hb); clear BK300; clear BK301; clear BK307; clear BK312; clear BK317; clear HB; have BK300 := n0_; have BK301 := n1_; have BK307 := n2_; have BK312 := n3_; have BK317 := n4_; have HB := n5_; clear n0_ n1_ n2_ n3_ n4_ n5_; (try clear hb); (try clear hb2); (try clear hk); (try clear hi)) | ((with_reducible refine gate_dst (N := 14) rfl ?_); (try (refine gate_guard (by rfl) ?_; dsimp only)); refine box_event ?hg (N := 14) ?hd (cs := #[.int .i64 0, .int .i64 0, .string (⟨#[]⟩ : ByteArray)]) (t := 23) ?hr ?_; (case hd => rfl); (case hg => rfl); (case hr => first | (go_simp; done) | (go_simp; rfl)); intro gb322 hg w64 hbox hb; have n0_ := Aside0.mk (blk_below (g := gb300) (o := .cells #[.int .i64 a1_0, .int .i64 a1_1, .string a1_2] 23 (0, 0)) (by (with_reducible repeat (first | refine blk_drewN ?_ _ | refine blk_drew ?_ | refine blk_alloc ?_ _)); exact BK300.out) hb); have n1_ := Aside0.mk (blk_below (g := gb301) (o := .cells #[.int .i64 a2_0, .int .i64 a2_1, .string a2_2] 23 (0, 0)) (by (with_reducible repeat (first | refine blk_drewN ?_ _ | refine blk_drew ?_ | refine blk_alloc ?_ _)); exact BK301.out) hb); have n2_ := Aside0.mk (blk_below (g := gb307) (o := .cells #[.int .i64 t303, .int .i64 t304, .string t305] 23 (0, 0)) (by (with_reducible repeat (first | refine blk_drewN ?_ _ | refine blk_drew ?_ | refine blk_alloc ?_ _)); exact BK307.out) hb); have n3_ := Aside0.mk (blk_below (g := gb312) (o := .cells #[.int .i64 t308, .int .i64 t309, .string t310] 23 (0, 0)) (by (with_reducible repeat (first | refine blk_drewN ?_ _ | refine blk_drew ?_ | refine blk_alloc ?_ _)); exact BK312.out) hb); have n4_ := Aside0.mk (blk_below (g := gb317) (o := .cells #[.int .i64 t313, .int .i64 t314, .string t315] 23 (0, 0)) (by (with_reducible repeat (first | refine blk_drewN ?_ _ | refine blk_drew ?_ | refine blk_alloc ?_ _)); exact BK317.out) hb); have n5_ := Aside0.mk (below_step (by repeat (first | (with_reducible first | exact HB.out | apply below_alloc | apply pw_below_drewN | apply below_drew1 | refine below_set ?_ GE300.out | refine below_set ?_ GE301.out | refine below_set ?_ GE307.out | refine below_set ?_ GE312.out | refine below_set ?_ GE317.out) | exact HB.out)) hb); have n6_ := Aside0.mk (hbox); have n7_ := Aside0.mk ((by rw [hg]; exact (below_size (by repeat (first | (with_reducible first | exact HB.out | apply below_alloc | apply pw_below_drewN | apply below_drew1 | refine below_set ?_ GE300.out | refine below_set ?_ GE301.out | refine below_set ?_ GE307.out | refine below_set ?_ GE312.out | refine below_set ?_ GE317.out) | exact HB.out))) : w.heap.size ≤ gb322)); have n8_ := Aside0.mk ((by rw [hg]; exact (below_size (by repeat (first | (with_reducible first | exact HB.out | apply below_alloc | apply pw_below_drewN | apply below_drew1 | refine below_set ?_ GE300.out | refine below_set ?_ GE301.out | refine below_set ?_ GE307.out | refine below_set ?_ GE312.out | refine below_set ?_ GE317.out) | exact HB.out))) : w.heap.size ≤ gb322)); have n9_ := Aside0.mk ((by rw [hg]; exact Nat.ne_of_lt (blk_lt (g := gb300) (o := .cells #[.int .i64 a1_0, .int .i64 a1_1, .string a1_2] 23 (0, 0)) (by (with_reducible repeat (first | refine blk_drewN ?_ _ | refine blk_drew ?_ | refine blk_alloc ?_ _)); exact BK300.out)) : gb300 ≠ gb322)); have n10_ := Aside0.mk ((by rw [hg]; exact Nat.ne_of_gt (blk_lt (g := gb300) (o := .cells #[.int .i64 a1_0, .int .i64 a1_1, .string a1_2] 23 (0, 0)) (by (with_reducible repeat (first | refine blk_drewN ?_ _ | refine blk_drew ?_ | refine blk_alloc ?_ _)); exact BK300.out)) : gb322 ≠ gb300)); have n11_ := Aside0.mk ((by rw [hg]; exact Nat.ne_of_lt (blk_lt (g := gb301) (o := .cells #[.int .i64 a2_0, .int .i64 a2_1, .string a2_2] 23 (0, 0)) (by (with_reducible repeat (first | refine blk_drewN ?_ _ | refine blk_drew ?_ | refine blk_alloc ?_ _)); exact BK301.out)) : gb301 ≠ gb322)); have n12_ := Aside0.mk ((by rw [hg]; exact Nat.ne_of_gt (blk_lt (g := gb301) (o := .cells #[.int .i64 a2_0, .int .i64 a2_1, .string a2_2] 23 (0, 0)) (by (with_reducible repeat (first | refine blk_drewN ?_ _ | refine blk_drew ?_ | refine blk_alloc ?_ _)); exact BK301.out)) : gb322 ≠ gb301)); have n13_ := Aside0.mk ((by rw [hg]; exact Nat.ne_of_lt (blk_lt (g := gb307) (o := .cells #[.int .i64 t303, .int .i64 t304, .string t305] 23 (0, 0)) (by (with_reducible repeat (first | refine blk_drewN ?_ _ | refine blk_drew ?_ | refine blk_alloc ?_ _)); exact BK307.out)) : gb307 ≠ gb322)); have n14_ := Aside0.mk ((by rw [hg]; exact Nat.ne_of_gt (blk_lt (g := gb307) (o := .cells #[.int .i64 t303, .int .i64 t304, .string t305] 23 (0, 0)) (by (with_reducible repeat (first | refine blk_drewN ?_ _ | refine blk_drew ?_ | refine blk_alloc ?_ _)); exact BK307.out)) : gb322 ≠ gb307)); have n15_ := Aside0.mk ((by rw [hg]; exact Nat.ne_of_lt (blk_lt (g := gb312) (o := .cells #[.int .i64 t308, .int .i64 t309, .string t310] 23 (0, 0)) (by (with_reducible repeat (first | refine blk_drewN ?_ _ | refine blk_drew ?_ | refine blk_alloc ?_ _)); exact BK312.out)) : gb312 ≠ gb322)); have n16_ := Aside0.mk ((by rw [hg]; exact Nat.ne_of_gt (blk_lt (g := gb312) (o := .cells #[.int .i64 t308, .int .i64 t309, .string t310] 23 (0, 0)) (by (with_reducible repeat (first | refine blk_drewN ?_ _ | refine blk_drew ?_ | refine blk_alloc ?_ _)); exact BK312.out)) : gb322 ≠ gb312)); have n17_ := Aside0.mk ((by rw [hg]; exact Nat.ne_of_lt (blk_lt (g := gb317) (o := .cells #[.int .i64 t313, .int .i64 t314, .string t315] 23 (0, 0)) (by (with_reducible repeat (first | refine blk_drewN ?_ _ | refine blk_drew ?_ | refine blk_alloc ?_ _)); exact BK317.out)) : gb317 ≠ gb322)); have n18_ := Aside0.mk ((by rw [hg]; exact Nat.ne_of_gt (blk_lt (g := gb317) (o := .cells #[.int .i64 t313, .int .i64 t314, .string t315] 23 (0, 0)) (by (with_reducible repeat (first | refine blk_drewN ?_ _ | refine blk_drew ?_ | refine blk_alloc ?_ _)); exact BK317.out)) : gb322 ≠ gb317)); clear BK300; clear BK301; clear BK307; clear BK312; clear BK317; clear HB; have BK300 := n0_; have BK301 := n1_; have BK307 := n2_; have BK312 := n3_; have BK317 := n4_; have HB := n5_; have BK322 := n6_; have GW322 := n7_; have GE322 := n8_; have NB300_322 := n9_; have NB322_300 := n10_; have NB301_322 := n11_; have NB322_301 := n12_; have NB307_322 := n13_; have NB322_307 := n14_; have NB312_322 := n15_; have NB322_312 := n16_; have NB317_322 := n17_; have NB322_317 := n18_; clear n0_ n1_ n2_ n3_ n4_ n5_ n6_ n7_ n8_ n9_ n10_ n11_ n12_ n13_ n14_ n15_ n16_ n17_ n18_; clear hb hbox hg; have hnb65 := NB322_300.out; have hnc65 := NB300_322.out; have hnb66 := NB322_301.out; have hnc66 := NB301_322.out; have hnb67 := NB322_307.out; have hnc67 := NB307_322.out; have hnb68 := NB322_312.out; have hnc68 := NB312_322.out; have hnb69 := NB322_317.out; have hnc69 := NB317_322.out; have hcz70_0 : w64.cell? ⟨gb322, 0, none⟩ = some (.int .i64 0) := (blk_cell BK322.out 0).trans rfl; have hcz70_1 : w64.cell? ⟨gb322, 1, none⟩ = some (.int .i64 0) := (blk_cell BK322.out 1).trans rfl; have hcz70_2 : w64.cell? ⟨gb322, 2, none⟩ = some (.string (⟨#[]⟩ : ByteArray)) := (blk_cell BK322.out 2).trans rfl; have hfz70_0 := blk_frozen BK322.out 0; have hfz70_1 := blk_frozen BK322.out 1; have hfz70_2 := blk_frozen BK322.out 2; have hcz71_0 : w64.cell? ⟨gb300, 0, none⟩ = some (.int .i64 a1_0) := (blk_cell BK300.out 0).trans rfl; have hcz71_1 : w64.cell? ⟨gb300, 1, none⟩ = some (.int .i64 a1_1) := (blk_cell BK300.out 1).trans rfl; have hcz71_2 : w64.cell? ⟨gb300, 2, none⟩ = some (.string a1_2) := (blk_cell BK300.out 2).trans rfl; have hfz71_0 := blk_frozen BK300.out 0; have hfz71_1 := blk_frozen BK300.out 1; have hfz71_2 := blk_frozen BK300.out 2; have hcz72_0 : w64.cell? ⟨gb301, 0, none⟩ = some (.int .i64 a2_0) := (blk_cell BK301.out 0).trans rfl; have hcz72_1 : w64.cell? ⟨gb301, 1, none⟩ = some (.int .i64 a2_1) := (blk_cell BK301.out 1).trans rfl; have hcz72_2 : w64.cell? ⟨gb301, 2, none⟩ = some (.string a2_2) := (blk_cell BK301.out 2).trans rfl; have hfz72_0 := blk_frozen BK301.out 0; have hfz72_1 := blk_frozen BK301.out 1; have hfz72_2 := blk_frozen BK301.out 2) | ((with_reducible refine gate_callee (f := 14) rfl ?_); refine goesL_ (some 60) rfl rfl Try.func14 (by kernel_rfl) rfl #[.int .i64 a0, .agg #[.int .i64 a1_0, .int .i64 a1_1, .string a1_2], .agg #[.int .i64 a2_0, .int .i64 a2_1, .string a2_2]] rfl (by (try simp only [List.map_toArray, List.map_cons, List.map_nil]); first | done | rfl | (simp only [List.length_drop, List.length_take]; rfl)) ?_; (with_reducible refine (value_Compare.calls a0 a1_0 a1_1 a1_2 a2_0 a2_1 a2_2 t323 t324 _ A21.out).mono ?_); rintro e w73 ⟨rfl, hb⟩; refine ⟨_, rfl, ?_⟩; have n0_ := Aside0.mk (blk_below (g := gb300) (o := .cells #[.int .i64 a1_0, .int .i64 a1_1, .string a1_2] 23 (0, 0)) (by (with_reducible repeat (first | refine blk_drewN ?_ _ | refine blk_drew ?_ | refine blk_alloc ?_ _)); refine blk_far ?_ NB300_322.out _; (with_reducible repeat (first | refine blk_drewN ?_ _ | refine blk_drew ?_ | refine blk_alloc ?_ _)); refine blk_far ?_ NB300_322.out _; (with_reducible repeat (first | refine blk_drewN ?_ _ | refine blk_drew ?_ | refine blk_alloc ?_ _)); refine blk_far ?_ NB300_322.out _; (with_reducible repeat (first | refine blk_drewN ?_ _ | refine blk_drew ?_ | refine blk_alloc ?_ _)); exact BK300.out) hb); have n1_ := Aside0.mk (blk_below (g := gb301) (o := .cells #[.int .i64 a2_0, .int .i64 a2_1, .string a2_2] 23 (0, 0)) (by (with_reducible repeat (first | refine blk_drewN ?_ _ | refine blk_drew ?_ | refine blk_alloc ?_ _)); refine blk_far ?_ NB301_322.out _; (with_reducible repeat (first | refine blk_drewN ?_ _ | refine blk_drew ?_ | refine blk_alloc ?_ _)); refine blk_far ?_ NB301_322.out _; (with_reducible repeat (first | refine blk_drewN ?_ _ | refine blk_drew ?_ | refine blk_alloc ?_ _)); refine blk_far ?_ NB301_322.out _; (with_reducible repeat (first | refine blk_drewN ?_ _ | refine blk_drew ?_ | refine blk_alloc ?_ _)); exact BK301.out) hb); have n2_ := Aside0.mk (blk_below (g := gb307) (o := .cells #[.int .i64 t303, .int .i64 t304, .string t305] 23 (0, 0)) (by (with_reducible repeat (first | refine blk_drewN ?_ _ | refine blk_drew ?_ | refine blk_alloc ?_ _)); refine blk_far ?_ NB307_322.out _; (with_reducible repeat (first | refine blk_drewN ?_ _ | refine blk_drew ?_ | refine blk_alloc ?_ _)); refine blk_far ?_ NB307_322.out _; (with_reducible repeat (first | refine blk_drewN ?_ _ | refine blk_drew ?_ | refine blk_alloc ?_ _)); refine blk_far ?_ NB307_322.out _; (with_reducible repeat (first | refine blk_drewN ?_ _ | refine blk_drew ?_ | refine blk_alloc ?_ _)); exact BK307.out) hb); have n3_ := Aside0.mk (blk_below (g := gb312) (o := .cells #[.int .i64 t308, .int .i64 t309, .string t310] 23 (0, 0)) (by (with_reducible repeat (first | refine blk_drewN ?_ _ | refine blk_drew ?_ | refine blk_alloc ?_ _)); refine blk_far ?_ NB312_322.out _; (with_reducible repeat (first | refine blk_drewN ?_ _ | refine blk_drew ?_ | refine blk_alloc ?_ _)); refine blk_far ?_ NB312_322.out _; (with_reducible repeat (first | refine blk_drewN ?_ _ | refine blk_drew ?_ | refine blk_alloc ?_ _)); refine blk_far ?_ NB312_322.out _; (with_reducible repeat (first | refine blk_drewN ?_ _ | refine blk_drew ?_ | refine blk_alloc ?_ _)); exact BK312.out) hb); have n4_ := Aside0.mk (blk_below (g := gb317) (o := .cells #[.int .i64 t313, .int .i64 t314, .string t315] 23 (0, 0)) (by (with_reducible repeat (first | refine blk_drewN ?_ _ | refine blk_drew ?_ | refine blk_alloc ?_ _)); refine blk_far ?_ NB317_322.out _; (with_reducible repeat (first | refine blk_drewN ?_ _ | refine blk_drew ?_ | refine blk_alloc ?_ _)); refine blk_far ?_ NB317_322.out _; (with_reducible repeat (first | refine blk_drewN ?_ _ | refine blk_drew ?_ | refine blk_alloc ?_ _)); refine blk_far ?_ NB317_322.out _; (with_reducible repeat (first | refine blk_drewN ?_ _ | refine blk_drew ?_ | refine blk_alloc ?_ _)); exact BK317.out) hb); have n5_ := Aside0.mk (blk_below (g := gb322) (o := .cells #[.int .i64 t318, .int .i64 t319, .string t320] 23 (0, 0)) (by (with_reducible repeat (first | refine blk_drewN ?_ _ | refine blk_drew ?_ | refine blk_alloc ?_ _)); refine blk_put (cs := #[.int .i64 t318, .int .i64 t319, .string (⟨#[]⟩ : ByteArray)]) ?_ 2 _ rfl; (with_reducible repeat (first | refine blk_drewN ?_ _ | refine blk_drew ?_ | refine blk_alloc ?_ _)); refine blk_put (cs := #[.int .i64 t318, .int .i64 0, .string (⟨#[]⟩ : ByteArray)]) ?_ 1 _ rfl; (with_reducible repeat (first | refine blk_drewN ?_ _ | refine blk_drew ?_ | refine blk_alloc ?_ _)); refine blk_put (cs := #[.int .i64 0, .int .i64 0, .string (⟨#[]⟩ : ByteArray)]) ?_ 0 _ rfl; (with_reducible repeat (first | refine blk_drewN ?_ _ | refine blk_drew ?_ | refine blk_alloc ?_ _)); exact BK322.out) hb); have n6_ := Aside0.mk (below_step (by repeat (first | (with_reducible first | exact HB.out | apply below_alloc | apply pw_below_drewN | apply below_drew1 | refine below_set ?_ GE300.out | refine below_set ?_ GE301.out | refine below_set ?_ GE307.out | refine below_set ?_ GE312.out | refine below_set ?_ GE317.out | refine below_set ?_ GE322.out) | exact HB.out)) hb); clear BK300; clear BK301; clear BK307; clear BK312; clear BK317; clear BK322; clear HB; have BK300 := n0_; have BK301 := n1_; have BK307 := n2_; have BK312 := n3_; have BK317 := n4_; have BK322 := n5_; have HB := n6_; clear n0_ n1_ n2_ n3_ n4_ n5_ n6_; (try clear hb); (try clear hb2); (try clear hk); (try clear hi); have hcz74_0 : w73.cell? ⟨gb300, 0, none⟩ = some (.int .i64 a1_0) := (blk_cell BK300.out 0).trans rfl; have hcz74_1 : w73.cell? ⟨gb300, 1, none⟩ = some (.int .i64 a1_1) := (blk_cell BK300.out 1).trans rfl; have hcz74_2 : w73.cell? ⟨gb300, 2, none⟩ = some (.string a1_2) := (blk_cell BK300.out 2).trans rfl; have hfz74_0 := blk_frozen BK300.out 0; have hfz74_1 := blk_frozen BK300.out 1; have hfz74_2 := blk_frozen BK300.out 2; have hcz75_0 : w73.cell? ⟨gb301, 0, none⟩ = some (.int .i64 a2_0) := (blk_cell BK301.out 0).trans rfl; have hcz75_1 : w73.cell? ⟨gb301, 1, none⟩ = some (.int .i64 a2_1) := (blk_cell BK301.out 1).trans rfl; have hcz75_2 : w73.cell? ⟨gb301, 2, none⟩ = some (.string a2_2) := (blk_cell BK301.out 2).trans rfl; have hfz75_0 := blk_frozen BK301.out 0; have hfz75_1 := blk_frozen BK301.out 1; have hfz75_2 := blk_frozen BK301.out 2) | ((with_reducible refine gate_callee (f := 15) rfl ?_); refine goesL_ (some 67) rfl rfl Try.func15 (by kernel_rfl) rfl #[.int .i64 a0, .agg #[.int .i64 a1_0, .int .i64 a1_1, .string a1_2], .agg #[.int .i64 a2_0, .int .i64 a2_1, .string a2_2]] rfl (by (try simp only [List.map_toArray, List.map_cons, List.map_nil]); first | done | rfl | (simp only [List.length_drop, List.length_take]; rfl)) ?_; (with_reducible refine (auguryref04_Compare.calls kj4 a0 a1_0 a1_1 a1_2 a2_0 a2_1 a2_2 t325 t326 _ A22.out).mono ?_); rintro e w76 ⟨rfl, hb⟩; refine ⟨_, rfl, ?_⟩; have n0_ := Aside0.mk (blk_below (g := gb300) (o := .cells #[.int .i64 a1_0, .int .i64 a1_1, .string a1_2] 23 (0, 0)) (by (with_reducible repeat (first | refine blk_drewN ?_ _ | refine blk_drew ?_ | refine blk_alloc ?_ _)); exact BK300.out) hb); have n1_ := Aside0.mk (blk_below (g := gb301) (o := .cells #[.int .i64 a2_0, .int .i64 a2_1, .string a2_2] 23 (0, 0)) (by (with_reducible repeat (first | refine blk_drewN ?_ _ | refine blk_drew ?_ | refine blk_alloc ?_ _)); exact BK301.out) hb); have n2_ := Aside0.mk (blk_below (g := gb307) (o := .cells #[.int .i64 t303, .int .i64 t304, .string t305] 23 (0, 0)) (by (with_reducible repeat (first | refine blk_drewN ?_ _ | refine blk_drew ?_ | refine blk_alloc ?_ _)); exact BK307.out) hb); have n3_ := Aside0.mk (blk_below (g := gb312) (o := .cells #[.int .i64 t308, .int .i64 t309, .string t310] 23 (0, 0)) (by (with_reducible repeat (first | refine blk_drewN ?_ _ | refine blk_drew ?_ | refine blk_alloc ?_ _)); exact BK312.out) hb); have n4_ := Aside0.mk (blk_below (g := gb317) (o := .cells #[.int .i64 t313, .int .i64 t314, .string t315] 23 (0, 0)) (by (with_reducible repeat (first | refine blk_drewN ?_ _ | refine blk_drew ?_ | refine blk_alloc ?_ _)); exact BK317.out) hb); have n5_ := Aside0.mk (blk_below (g := gb322) (o := .cells #[.int .i64 t318, .int .i64 t319, .string t320] 23 (0, 0)) (by (with_reducible repeat (first | refine blk_drewN ?_ _ | refine blk_drew ?_ | refine blk_alloc ?_ _)); exact BK322.out) hb); have n6_ := Aside0.mk (below_step (by repeat (first | (with_reducible first | exact HB.out | apply below_alloc | apply pw_below_drewN | apply below_drew1 | refine below_set ?_ GE300.out | refine below_set ?_ GE301.out | refine below_set ?_ GE307.out | refine below_set ?_ GE312.out | refine below_set ?_ GE317.out | refine below_set ?_ GE322.out) | exact HB.out)) hb); clear BK300; clear BK301; clear BK307; clear BK312; clear BK317; clear BK322; clear HB; have BK300 := n0_; have BK301 := n1_; have BK307 := n2_; have BK312 := n3_; have BK317 := n4_; have BK322 := n5_; have HB := n6_; clear n0_ n1_ n2_ n3_ n4_ n5_ n6_; (try clear hb); (try clear hb2); (try clear hk); (try clear hi)))
                          have n0_ := Aside0.mk (blk_drew BK300.out)
                          have n1_ := Aside0.mk (blk_drew BK301.out)
                          have n2_ := Aside0.mk (blk_drew BK307.out)
                          have n3_ := Aside0.mk (blk_drew BK312.out)
                          have n4_ := Aside0.mk (blk_drew BK317.out)
                          have n5_ := Aside0.mk (blk_drew BK322.out)
                          have n6_ := Aside0.mk (below_drew1 HB.out)
                          clear BK300
                          clear BK301
                          clear BK307
                          clear BK312
                          clear BK317
                          clear BK322
                          clear HB
                          have BK300 := n0_
                          have BK301 := n1_
                          have BK307 := n2_
                          have BK312 := n3_
                          have BK317 := n4_
                          have BK322 := n5_
                          have HB := n6_
                          clear n0_ n1_ n2_ n3_ n4_ n5_ n6_
                          refine start_ (n := 48) (S := fun w' => w'.cell? ⟨gb300, 0, none⟩ = some (.int .i64 a1_0) ∧ w'.cell? ⟨gb300, 1, none⟩ = some (.int .i64 a1_1) ∧ w'.cell? ⟨gb300, 2, none⟩ = some (.string a1_2) ∧ w'.cell? ⟨gb307, 0, none⟩ = some (.int .i64 t303) ∧ w'.cell? ⟨gb307, 1, none⟩ = some (.int .i64 t304) ∧ w'.cell? ⟨gb307, 2, none⟩ = some (.string t305) ∧ w'.cell? ⟨gb312, 0, none⟩ = some (.int .i64 t308) ∧ w'.cell? ⟨gb312, 1, none⟩ = some (.int .i64 t309) ∧ w'.cell? ⟨gb312, 2, none⟩ = some (.string t310) ∧ w'.cell? ⟨gb317, 0, none⟩ = some (.int .i64 t313) ∧ w'.cell? ⟨gb317, 1, none⟩ = some (.int .i64 t314) ∧ w'.cell? ⟨gb317, 2, none⟩ = some (.string t315) ∧ w'.cell? ⟨gb322, 0, none⟩ = some (.int .i64 t318) ∧ w'.cell? ⟨gb322, 1, none⟩ = some (.int .i64 t319) ∧ w'.cell? ⟨gb322, 2, none⟩ = some (.string t320)) (ds := []) #[false, false, false, false, false, false, false, false, false, false, false, false, false, false, false, false, false, false, false, false, false, false, false, false, false, false, false, false, false, false, false, false, false, false, false, false, false, false, false, false, false, false, false, false, false, false, false, false] (by kernel_rfl) rfl rfl ⟨(blk_cell BK300.out 0).trans rfl, (blk_cell BK300.out 1).trans rfl, (blk_cell BK300.out 2).trans rfl, (blk_cell BK307.out 0).trans rfl, (blk_cell BK307.out 1).trans rfl, (blk_cell BK307.out 2).trans rfl, (blk_cell BK312.out 0).trans rfl, (blk_cell BK312.out 1).trans rfl, (blk_cell BK312.out 2).trans rfl, (blk_cell BK317.out 0).trans rfl, (blk_cell BK317.out 1).trans rfl, (blk_cell BK317.out 2).trans rfl, (blk_cell BK322.out 0).trans rfl, (blk_cell BK322.out 1).trans rfl, (blk_cell BK322.out 2).trans rfl⟩ (fun hHeld => ?_); refine with_tabW augurylaw04_ValueTells.tab10 augurylaw04_ValueTells.bits10 (fun HT_ HW_ => ?_)
                          generalize w76.drew = w77 at BK300 BK301 BK307 BK312 BK317 BK322 HB hHeld ⊢
                          refine pure_ (i := 0) (N := some 70) (v := ?_) (a' := ?_) #[true, false, false, false, false, false, false, false, false, false, false, false, false, false, false, false, false, false, false, false, false, false, false, false, false, false, false, false, false, false, false, false, false, false, false, false, false, false, false, false, false, false, false, false, false, false, false, false] rfl rfl (any_of HT_.out (by kernel_rfl)) (fun _ _ _ h => h) (Or.inl ⟨by rfl, ?_⟩) ?_ ?_
                          rotate_left
                          · intro w'
                            go_simp
                            with_reducible rfl
                          rotate_left
                          · simp only [Act.put, List.setIfInBounds_toArray, List.set_cons_zero, List.set_cons_succ, i64_w, i32_w]
                            rfl
                          refine pure_ (i := 1) (N := some 71) (v := ?_) (a' := ?_) #[true, true, false, false, false, false, false, false, false, false, false, false, false, false, false, false, false, false, false, false, false, false, false, false, false, false, false, false, false, false, false, false, false, false, false, false, false, false, false, false, false, false, false, false, false, false, false, false] rfl rfl (any_of HT_.out (by kernel_rfl)) (fun _ _ _ h => h) (Or.inl ⟨by rfl, ?_⟩) ?_ ?_
                          rotate_left
                          · intro w'
                            go_simp
                            with_reducible rfl
                          rotate_left
                          · simp only [Act.put, List.setIfInBounds_toArray, List.set_cons_zero, List.set_cons_succ, i64_w, i32_w]
                            rfl
                          refine take_ (i := 2) (N := some 72) (v := ?_) (a' := ?_) #[true, true, true, false, false, false, false, false, false, false, false, false, false, false, false, false, false, false, false, false, false, false, false, false, false, false, false, false, false, false, false, false, false, false, false, false, false, false, false, false, false, false, false, false, false, false, false, false] rfl rfl (take_ofW HT_.out HW_.out (by kernel_rfl)) (fun _ _ _ h => h) (Or.inl ⟨by rfl, ?_⟩) hHeld ?_ ?_
                          rotate_left
                          · rintro w' ⟨s0, s1, s2, s3, s4, s5, s6, s7, s8, s9, s10, s11, s12, s13, s14⟩
                            go_simp
                            with_reducible rfl
                          rotate_left
                          · simp only [Act.put, List.setIfInBounds_toArray, List.set_cons_zero, List.set_cons_succ, i64_w, i32_w]
                            rfl
                          refine take_ (i := 4) (N := some 74) (v := ?_) (a' := ?_) #[true, true, true, false, true, false, false, false, false, false, false, false, false, false, false, false, false, false, false, false, false, false, false, false, false, false, false, false, false, false, false, false, false, false, false, false, false, false, false, false, false, false, false, false, false, false, false, false] rfl rfl (take_ofW HT_.out HW_.out (by kernel_rfl)) (fun _ _ _ h => h) (Or.inl ⟨by rfl, ?_⟩) hHeld ?_ ?_
                          rotate_left
                          · rintro w' ⟨s0, s1, s2, s3, s4, s5, s6, s7, s8, s9, s10, s11, s12, s13, s14⟩
                            go_simp
                            with_reducible rfl
                          rotate_left
                          · simp only [Act.put, List.setIfInBounds_toArray, List.set_cons_zero, List.set_cons_succ, i64_w, i32_w]
                            rfl
                          refine one_ (i := 3) (N := some 73) #[true, true, true, true, true, false, false, false, false, false, false, false, false, false, false, false, false, false, false, false, false, false, false, false, false, false, false, false, false, false, false, false, false, false, false, false, false, false, false, false, false, false, false, false, false, false, false, false] rfl rfl (one_of HT_.out (by kernel_rfl)) (by decide) (fun K hK => ?_)
                          refine goes_ Try.func16 (by kernel_rfl) rfl #[.agg #[.int .i64 a1_0, .int .i64 a1_1, .string a1_2]] (by rfl) rfl rfl (by (try simp only [List.map_toArray, List.map_cons, List.map_nil]); first | done | rfl | (simp only [List.length_drop, List.length_take]; rfl)) ?_
                          with_reducible refine (value_Right.calls a1_0 a1_1 a1_2 t327 _ A24.out).mono ?_
                          rintro e w78 ⟨rfl, hb⟩
                          refine ⟨_, rfl, ?_⟩
                          have n0_ := Aside0.mk (blk_below (g := gb300) (o := .cells #[.int .i64 a1_0, .int .i64 a1_1, .string a1_2] 23 (0, 0)) (by (with_reducible repeat (first | refine blk_drewN ?_ _ | refine blk_drew ?_ | refine blk_alloc ?_ _)); exact BK300.out) hb)
                          have n1_ := Aside0.mk (blk_below (g := gb301) (o := .cells #[.int .i64 a2_0, .int .i64 a2_1, .string a2_2] 23 (0, 0)) (by (with_reducible repeat (first | refine blk_drewN ?_ _ | refine blk_drew ?_ | refine blk_alloc ?_ _)); exact BK301.out) hb)
                          have n2_ := Aside0.mk (blk_below (g := gb307) (o := .cells #[.int .i64 t303, .int .i64 t304, .string t305] 23 (0, 0)) (by (with_reducible repeat (first | refine blk_drewN ?_ _ | refine blk_drew ?_ | refine blk_alloc ?_ _)); exact BK307.out) hb)
                          have n3_ := Aside0.mk (blk_below (g := gb312) (o := .cells #[.int .i64 t308, .int .i64 t309, .string t310] 23 (0, 0)) (by (with_reducible repeat (first | refine blk_drewN ?_ _ | refine blk_drew ?_ | refine blk_alloc ?_ _)); exact BK312.out) hb)
                          have n4_ := Aside0.mk (blk_below (g := gb317) (o := .cells #[.int .i64 t313, .int .i64 t314, .string t315] 23 (0, 0)) (by (with_reducible repeat (first | refine blk_drewN ?_ _ | refine blk_drew ?_ | refine blk_alloc ?_ _)); exact BK317.out) hb)
                          have n5_ := Aside0.mk (blk_below (g := gb322) (o := .cells #[.int .i64 t318, .int .i64 t319, .string t320] 23 (0, 0)) (by (with_reducible repeat (first | refine blk_drewN ?_ _ | refine blk_drew ?_ | refine blk_alloc ?_ _)); exact BK322.out) hb)
                          have n6_ := Aside0.mk (below_step (by repeat (first | (with_reducible first | exact HB.out | apply below_alloc | apply pw_below_drewN | apply below_drew1 | refine below_set ?_ GE300.out | refine below_set ?_ GE301.out | refine below_set ?_ GE307.out | refine below_set ?_ GE312.out | refine below_set ?_ GE317.out | refine below_set ?_ GE322.out) | exact HB.out)) hb)
                          clear BK300
                          clear BK301
                          clear BK307
                          clear BK312
                          clear BK317
                          clear BK322
                          clear HB
                          have BK300 := n0_
                          have BK301 := n1_
                          have BK307 := n2_
                          have BK312 := n3_
                          have BK317 := n4_
                          have BK322 := n5_
                          have HB := n6_
                          clear n0_ n1_ n2_ n3_ n4_ n5_ n6_
                          (try clear hb)
                          (try clear hb2)
                          (try clear hk)
                          (try clear hi)
                          refine hK.out _ _ ⟨(blk_cell BK300.out 0).trans rfl, (blk_cell BK300.out 1).trans rfl, (blk_cell BK300.out 2).trans rfl, (blk_cell BK307.out 0).trans rfl, (blk_cell BK307.out 1).trans rfl, (blk_cell BK307.out 2).trans rfl, (blk_cell BK312.out 0).trans rfl, (blk_cell BK312.out 1).trans rfl, (blk_cell BK312.out 2).trans rfl, (blk_cell BK317.out 0).trans rfl, (blk_cell BK317.out 1).trans rfl, (blk_cell BK317.out 2).trans rfl, (blk_cell BK322.out 0).trans rfl, (blk_cell BK322.out 1).trans rfl, (blk_cell BK322.out 2).trans rfl⟩ (fun hHeld => ?_)
                          clear hK K
                          refine norm_ (a' := ?_) ?_ ?_
                          rotate_left
                          · show Act.put _ (some 73) _ = _
                            simp only [Act.put, List.setIfInBounds_toArray, List.set_cons_zero, List.set_cons_succ, i64_w, i32_w]
                            rfl
                          refine one_ (i := 5) (N := some 75) #[true, true, true, true, true, true, false, false, false, false, false, false, false, false, false, false, false, false, false, false, false, false, false, false, false, false, false, false, false, false, false, false, false, false, false, false, false, false, false, false, false, false, false, false, false, false, false, false] rfl rfl (one_of HT_.out (by kernel_rfl)) (by decide) (fun K hK => ?_)
                          refine goes_ Try.func17 (by kernel_rfl) rfl #[.agg #[.int .i64 a1_0, .int .i64 a1_1, .string a1_2]] (by rfl) rfl rfl (by (try simp only [List.map_toArray, List.map_cons, List.map_nil]); first | done | rfl | (simp only [List.length_drop, List.length_take]; rfl)) ?_
                          with_reducible refine (auguryref04_Right.calls a1_0 a1_1 a1_2 t328 _ A25.out).mono ?_
                          rintro e w79 ⟨rfl, hb⟩
                          refine ⟨_, rfl, ?_⟩
                          have n0_ := Aside0.mk (blk_below (g := gb300) (o := .cells #[.int .i64 a1_0, .int .i64 a1_1, .string a1_2] 23 (0, 0)) (by (with_reducible repeat (first | refine blk_drewN ?_ _ | refine blk_drew ?_ | refine blk_alloc ?_ _)); exact BK300.out) hb)
                          have n1_ := Aside0.mk (blk_below (g := gb301) (o := .cells #[.int .i64 a2_0, .int .i64 a2_1, .string a2_2] 23 (0, 0)) (by (with_reducible repeat (first | refine blk_drewN ?_ _ | refine blk_drew ?_ | refine blk_alloc ?_ _)); exact BK301.out) hb)
                          have n2_ := Aside0.mk (blk_below (g := gb307) (o := .cells #[.int .i64 t303, .int .i64 t304, .string t305] 23 (0, 0)) (by (with_reducible repeat (first | refine blk_drewN ?_ _ | refine blk_drew ?_ | refine blk_alloc ?_ _)); exact BK307.out) hb)
                          have n3_ := Aside0.mk (blk_below (g := gb312) (o := .cells #[.int .i64 t308, .int .i64 t309, .string t310] 23 (0, 0)) (by (with_reducible repeat (first | refine blk_drewN ?_ _ | refine blk_drew ?_ | refine blk_alloc ?_ _)); exact BK312.out) hb)
                          have n4_ := Aside0.mk (blk_below (g := gb317) (o := .cells #[.int .i64 t313, .int .i64 t314, .string t315] 23 (0, 0)) (by (with_reducible repeat (first | refine blk_drewN ?_ _ | refine blk_drew ?_ | refine blk_alloc ?_ _)); exact BK317.out) hb)
                          have n5_ := Aside0.mk (blk_below (g := gb322) (o := .cells #[.int .i64 t318, .int .i64 t319, .string t320] 23 (0, 0)) (by (with_reducible repeat (first | refine blk_drewN ?_ _ | refine blk_drew ?_ | refine blk_alloc ?_ _)); exact BK322.out) hb)
                          have n6_ := Aside0.mk (below_step (by repeat (first | (with_reducible first | exact HB.out | apply below_alloc | apply pw_below_drewN | apply below_drew1 | refine below_set ?_ GE300.out | refine below_set ?_ GE301.out | refine below_set ?_ GE307.out | refine below_set ?_ GE312.out | refine below_set ?_ GE317.out | refine below_set ?_ GE322.out) | exact HB.out)) hb)
                          clear BK300
                          clear BK301
                          clear BK307
                          clear BK312
                          clear BK317
                          clear BK322
                          clear HB
                          have BK300 := n0_
                          have BK301 := n1_
                          have BK307 := n2_
                          have BK312 := n3_
                          have BK317 := n4_
                          have BK322 := n5_
                          have HB := n6_
                          clear n0_ n1_ n2_ n3_ n4_ n5_ n6_
                          (try clear hb)
                          (try clear hb2)
                          (try clear hk)
                          (try clear hi)
                          refine hK.out _ _ ⟨(blk_cell BK300.out 0).trans rfl, (blk_cell BK300.out 1).trans rfl, (blk_cell BK300.out 2).trans rfl, (blk_cell BK307.out 0).trans rfl, (blk_cell BK307.out 1).trans rfl, (blk_cell BK307.out 2).trans rfl, (blk_cell BK312.out 0).trans rfl, (blk_cell BK312.out 1).trans rfl, (blk_cell BK312.out 2).trans rfl, (blk_cell BK317.out 0).trans rfl, (blk_cell BK317.out 1).trans rfl, (blk_cell BK317.out 2).trans rfl, (blk_cell BK322.out 0).trans rfl, (blk_cell BK322.out 1).trans rfl, (blk_cell BK322.out 2).trans rfl⟩ (fun hHeld => ?_)
                          clear hK K
                          refine norm_ (a' := ?_) ?_ ?_
                          rotate_left
                          · show Act.put _ (some 75) _ = _
                            simp only [Act.put, List.setIfInBounds_toArray, List.set_cons_zero, List.set_cons_succ, i64_w, i32_w]
                            rfl
                          refine pure_ (i := 6) (N := some 76) (v := ?_) (a' := ?_) #[true, true, true, true, true, true, true, false, false, false, false, false, false, false, false, false, false, false, false, false, false, false, false, false, false, false, false, false, false, false, false, false, false, false, false, false, false, false, false, false, false, false, false, false, false, false, false, false] rfl rfl (any_of HT_.out (by kernel_rfl)) (fun _ _ _ h => h) (Or.inl ⟨by rfl, ?_⟩) ?_ ?_
                          rotate_left
                          · intro w'
                            go_simp
                            with_reducible rfl
                          rotate_left
                          · simp only [Act.put, List.setIfInBounds_toArray, List.set_cons_zero, List.set_cons_succ, i64_w, i32_w]
                            rfl
                          refine pure_ (i := 7) (N := some 77) (v := ?_) (a' := ?_) #[true, true, true, true, true, true, true, true, false, false, false, false, false, false, false, false, false, false, false, false, false, false, false, false, false, false, false, false, false, false, false, false, false, false, false, false, false, false, false, false, false, false, false, false, false, false, false, false] rfl rfl (any_of HT_.out (by kernel_rfl)) (fun _ _ _ h => h) (Or.inl ⟨by rfl, ?_⟩) ?_ ?_
                          rotate_left
                          · intro w'
                            go_simp
                            with_reducible rfl
                          rotate_left
                          · simp only [Act.put, List.setIfInBounds_toArray, List.set_cons_zero, List.set_cons_succ, i64_w, i32_w]
                            rfl
                          refine pure_ (i := 8) (N := some 78) (v := ?_) (a' := ?_) #[true, true, true, true, true, true, true, true, true, false, false, false, false, false, false, false, false, false, false, false, false, false, false, false, false, false, false, false, false, false, false, false, false, false, false, false, false, false, false, false, false, false, false, false, false, false, false, false] rfl rfl (any_of HT_.out (by kernel_rfl)) (fun _ _ _ h => h) (Or.inl ⟨by rfl, ?_⟩) ?_ ?_
                          rotate_left
                          · intro w'
                            go_simp
                            with_reducible rfl
                          rotate_left
                          · simp only [Act.put, List.setIfInBounds_toArray, List.set_cons_zero, List.set_cons_succ, i64_w, i32_w]
                            rfl
                          refine take_ (i := 9) (N := some 79) (v := ?_) (a' := ?_) #[true, true, true, true, true, true, true, true, true, true, false, false, false, false, false, false, false, false, false, false, false, false, false, false, false, false, false, false, false, false, false, false, false, false, false, false, false, false, false, false, false, false, false, false, false, false, false, false] rfl rfl (take_ofW HT_.out HW_.out (by kernel_rfl)) (fun _ _ _ h => h) (Or.inl ⟨by rfl, ?_⟩) hHeld ?_ ?_
                          rotate_left
                          · rintro w' ⟨s0, s1, s2, s3, s4, s5, s6, s7, s8, s9, s10, s11, s12, s13, s14⟩
                            go_simp
                            with_reducible rfl
                          rotate_left
                          · simp only [Act.put, List.setIfInBounds_toArray, List.set_cons_zero, List.set_cons_succ, i64_w, i32_w]
                            rfl
                          refine take_ (i := 10) (N := some 80) (v := ?_) (a' := ?_) #[true, true, true, true, true, true, true, true, true, true, true, false, false, false, false, false, false, false, false, false, false, false, false, false, false, false, false, false, false, false, false, false, false, false, false, false, false, false, false, false, false, false, false, false, false, false, false, false] rfl rfl (take_ofW HT_.out HW_.out (by kernel_rfl)) (fun _ _ _ h => h) (Or.inl ⟨by rfl, ?_⟩) hHeld ?_ ?_
                          rotate_left
                          · rintro w' ⟨s0, s1, s2, s3, s4, s5, s6, s7, s8, s9, s10, s11, s12, s13, s14⟩
                            go_simp
                            with_reducible rfl
                          rotate_left
                          · simp only [Act.put, List.setIfInBounds_toArray, List.set_cons_zero, List.set_cons_succ, i64_w, i32_w]
                            rfl
                          refine pure_ (i := 11) (N := some 81) (v := ?_) (a' := ?_) #[true, true, true, true, true, true, true, true, true, true, true, true, false, false, false, false, false, false, false, false, false, false, false, false, false, false, false, false, false, false, false, false, false, false, false, false, false, false, false, false, false, false, false, false, false, false, false, false] rfl rfl (any_of HT_.out (by kernel_rfl)) (fun _ _ _ h => h) (Or.inl ⟨by rfl, ?_⟩) ?_ ?_
                          rotate_left
                          · intro w'
                            go_simp
                            with_reducible rfl
                          rotate_left
                          · simp only [Act.put, List.setIfInBounds_toArray, List.set_cons_zero, List.set_cons_succ, i64_w, i32_w]
                            rfl
                          refine pure_ (i := 12) (N := some 82) (v := ?_) (a' := ?_) #[true, true, true, true, true, true, true, true, true, true, true, true, true, false, false, false, false, false, false, false, false, false, false, false, false, false, false, false, false, false, false, false, false, false, false, false, false, false, false, false, false, false, false, false, false, false, false, false] rfl rfl (any_of HT_.out (by kernel_rfl)) (fun _ _ _ h => h) (Or.inl ⟨by rfl, ?_⟩) ?_ ?_
                          rotate_left
                          · intro w'
                            go_simp
                            with_reducible rfl
                          rotate_left
                          · simp only [Act.put, List.setIfInBounds_toArray, List.set_cons_zero, List.set_cons_succ, i64_w, i32_w]
                            rfl
                          refine pure_ (i := 13) (N := some 83) (v := ?_) (a' := ?_) #[true, true, true, true, true, true, true, true, true, true, true, true, true, true, false, false, false, false, false, false, false, false, false, false, false, false, false, false, false, false, false, false, false, false, false, false, false, false, false, false, false, false, false, false, false, false, false, false] rfl rfl (any_of HT_.out (by kernel_rfl)) (fun _ _ _ h => h) (Or.inl ⟨by rfl, ?_⟩) ?_ ?_
                          rotate_left
                          · intro w'
                            go_simp
                            with_reducible rfl
                          rotate_left
                          · simp only [Act.put, List.setIfInBounds_toArray, List.set_cons_zero, List.set_cons_succ, i64_w, i32_w]
                            rfl
                          refine pure_ (i := 14) (N := some 84) (v := ?_) (a' := ?_) #[true, true, true, true, true, true, true, true, true, true, true, true, true, true, true, false, false, false, false, false, false, false, false, false, false, false, false, false, false, false, false, false, false, false, false, false, false, false, false, false, false, false, false, false, false, false, false, false] rfl rfl (any_of HT_.out (by kernel_rfl)) (fun _ _ _ h => h) (Or.inl ⟨by rfl, ?_⟩) ?_ ?_
                          rotate_left
                          · intro w'
                            go_simp
                            with_reducible rfl
                          rotate_left
                          · simp only [Act.put, List.setIfInBounds_toArray, List.set_cons_zero, List.set_cons_succ, i64_w, i32_w]
                            rfl
                          refine pure_ (i := 15) (N := some 85) (v := ?_) (a' := ?_) #[true, true, true, true, true, true, true, true, true, true, true, true, true, true, true, true, false, false, false, false, false, false, false, false, false, false, false, false, false, false, false, false, false, false, false, false, false, false, false, false, false, false, false, false, false, false, false, false] rfl rfl (any_of HT_.out (by kernel_rfl)) (fun _ _ _ h => h) (Or.inl ⟨by rfl, ?_⟩) ?_ ?_
                          rotate_left
                          · intro w'
                            go_simp
                            with_reducible rfl
                          rotate_left
                          · simp only [Act.put, List.setIfInBounds_toArray, List.set_cons_zero, List.set_cons_succ, i64_w, i32_w]
                            rfl
                          refine pure_ (i := 16) (N := some 86) (v := ?_) (a' := ?_) #[true, true, true, true, true, true, true, true, true, true, true, true, true, true, true, true, true, false, false, false, false, false, false, false, false, false, false, false, false, false, false, false, false, false, false, false, false, false, false, false, false, false, false, false, false, false, false, false] rfl rfl (any_of HT_.out (by kernel_rfl)) (fun _ _ _ h => h) (Or.inl ⟨by rfl, ?_⟩) ?_ ?_
                          rotate_left
                          · intro w'
                            go_simp
                            with_reducible rfl
                          rotate_left
                          · simp only [Act.put, List.setIfInBounds_toArray, List.set_cons_zero, List.set_cons_succ, i64_w, i32_w]
                            rfl
                          refine pure_ (i := 17) (N := some 87) (v := ?_) (a' := ?_) #[true, true, true, true, true, true, true, true, true, true, true, true, true, true, true, true, true, true, false, false, false, false, false, false, false, false, false, false, false, false, false, false, false, false, false, false, false, false, false, false, false, false, false, false, false, false, false, false] rfl rfl (any_of HT_.out (by kernel_rfl)) (fun _ _ _ h => h) (Or.inl ⟨by rfl, ?_⟩) ?_ ?_
                          rotate_left
                          · intro w'
                            go_simp
                            with_reducible rfl
                          rotate_left
                          · simp only [Act.put, List.setIfInBounds_toArray, List.set_cons_zero, List.set_cons_succ, i64_w, i32_w]
                            rfl
                          refine pure_ (i := 18) (N := some 88) (v := ?_) (a' := ?_) #[true, true, true, true, true, true, true, true, true, true, true, true, true, true, true, true, true, true, true, false, false, false, false, false, false, false, false, false, false, false, false, false, false, false, false, false, false, false, false, false, false, false, false, false, false, false, false, false] rfl rfl (any_of HT_.out (by kernel_rfl)) (fun _ _ _ h => h) (Or.inl ⟨by rfl, ?_⟩) ?_ ?_
                          rotate_left
                          · intro w'
                            go_simp
                            with_reducible rfl
                          rotate_left
                          · simp only [Act.put, List.setIfInBounds_toArray, List.set_cons_zero, List.set_cons_succ, i64_w, i32_w]
                            rfl
                          refine take_ (i := 19) (N := some 89) (v := ?_) (a' := ?_) #[true, true, true, true, true, true, true, true, true, true, true, true, true, true, true, true, true, true, true, true, false, false, false, false, false, false, false, false, false, false, false, false, false, false, false, false, false, false, false, false, false, false, false, false, false, false, false, false] rfl rfl (take_ofW HT_.out HW_.out (by kernel_rfl)) (fun _ _ _ h => h) (Or.inl ⟨by rfl, ?_⟩) hHeld ?_ ?_
                          rotate_left
                          · rintro w' ⟨s0, s1, s2, s3, s4, s5, s6, s7, s8, s9, s10, s11, s12, s13, s14⟩
                            go_simp
                            with_reducible rfl
                          rotate_left
                          · simp only [Act.put, List.setIfInBounds_toArray, List.set_cons_zero, List.set_cons_succ, i64_w, i32_w]
                            rfl
                          refine take_ (i := 20) (N := some 90) (v := ?_) (a' := ?_) #[true, true, true, true, true, true, true, true, true, true, true, true, true, true, true, true, true, true, true, true, true, false, false, false, false, false, false, false, false, false, false, false, false, false, false, false, false, false, false, false, false, false, false, false, false, false, false, false] rfl rfl (take_ofW HT_.out HW_.out (by kernel_rfl)) (fun _ _ _ h => h) (Or.inl ⟨by rfl, ?_⟩) hHeld ?_ ?_
                          rotate_left
                          · rintro w' ⟨s0, s1, s2, s3, s4, s5, s6, s7, s8, s9, s10, s11, s12, s13, s14⟩
                            go_simp
                            with_reducible rfl
                          rotate_left
                          · simp only [Act.put, List.setIfInBounds_toArray, List.set_cons_zero, List.set_cons_succ, i64_w, i32_w]
                            rfl
                          refine pure_ (i := 21) (N := some 91) (v := ?_) (a' := ?_) #[true, true, true, true, true, true, true, true, true, true, true, true, true, true, true, true, true, true, true, true, true, true, false, false, false, false, false, false, false, false, false, false, false, false, false, false, false, false, false, false, false, false, false, false, false, false, false, false] rfl rfl (any_of HT_.out (by kernel_rfl)) (fun _ _ _ h => h) (Or.inl ⟨by rfl, ?_⟩) ?_ ?_
                          rotate_left
                          · intro w'
                            go_simp
                            with_reducible rfl
                          rotate_left
                          · simp only [Act.put, List.setIfInBounds_toArray, List.set_cons_zero, List.set_cons_succ, i64_w, i32_w]
                            rfl
                          refine pure_ (i := 22) (N := some 92) (v := ?_) (a' := ?_) #[true, true, true, true, true, true, true, true, true, true, true, true, true, true, true, true, true, true, true, true, true, true, true, false, false, false, false, false, false, false, false, false, false, false, false, false, false, false, false, false, false, false, false, false, false, false, false, false] rfl rfl (any_of HT_.out (by kernel_rfl)) (fun _ _ _ h => h) (Or.inl ⟨by rfl, ?_⟩) ?_ ?_
                          rotate_left
                          · intro w'
                            go_simp
                            with_reducible rfl
                          rotate_left
                          · simp only [Act.put, List.setIfInBounds_toArray, List.set_cons_zero, List.set_cons_succ, i64_w, i32_w]
                            rfl
                          refine pure_ (i := 23) (N := some 93) (v := ?_) (a' := ?_) #[true, true, true, true, true, true, true, true, true, true, true, true, true, true, true, true, true, true, true, true, true, true, true, true, false, false, false, false, false, false, false, false, false, false, false, false, false, false, false, false, false, false, false, false, false, false, false, false] rfl rfl (any_of HT_.out (by kernel_rfl)) (fun _ _ _ h => h) (Or.inl ⟨by rfl, ?_⟩) ?_ ?_
                          rotate_left
                          · intro w'
                            go_simp
                            with_reducible rfl
                          rotate_left
                          · simp only [Act.put, List.setIfInBounds_toArray, List.set_cons_zero, List.set_cons_succ, i64_w, i32_w]
                            rfl
                          refine pure_ (i := 24) (N := some 94) (v := ?_) (a' := ?_) #[true, true, true, true, true, true, true, true, true, true, true, true, true, true, true, true, true, true, true, true, true, true, true, true, true, false, false, false, false, false, false, false, false, false, false, false, false, false, false, false, false, false, false, false, false, false, false, false] rfl rfl (any_of HT_.out (by kernel_rfl)) (fun _ _ _ h => h) (Or.inl ⟨by rfl, ?_⟩) ?_ ?_
                          rotate_left
                          · intro w'
                            go_simp
                            with_reducible rfl
                          rotate_left
                          · simp only [Act.put, List.setIfInBounds_toArray, List.set_cons_zero, List.set_cons_succ, i64_w, i32_w]
                            rfl
                          refine pure_ (i := 25) (N := some 95) (v := ?_) (a' := ?_) #[true, true, true, true, true, true, true, true, true, true, true, true, true, true, true, true, true, true, true, true, true, true, true, true, true, true, false, false, false, false, false, false, false, false, false, false, false, false, false, false, false, false, false, false, false, false, false, false] rfl rfl (any_of HT_.out (by kernel_rfl)) (fun _ _ _ h => h) (Or.inl ⟨by rfl, ?_⟩) ?_ ?_
                          rotate_left
                          · intro w'
                            go_simp
                            with_reducible rfl
                          rotate_left
                          · simp only [Act.put, List.setIfInBounds_toArray, List.set_cons_zero, List.set_cons_succ, i64_w, i32_w]
                            rfl
                          refine pure_ (i := 26) (N := some 96) (v := ?_) (a' := ?_) #[true, true, true, true, true, true, true, true, true, true, true, true, true, true, true, true, true, true, true, true, true, true, true, true, true, true, true, false, false, false, false, false, false, false, false, false, false, false, false, false, false, false, false, false, false, false, false, false] rfl rfl (any_of HT_.out (by kernel_rfl)) (fun _ _ _ h => h) (Or.inl ⟨by rfl, ?_⟩) ?_ ?_
                          rotate_left
                          · intro w'
                            go_simp
                            with_reducible rfl
                          rotate_left
                          · simp only [Act.put, List.setIfInBounds_toArray, List.set_cons_zero, List.set_cons_succ, i64_w, i32_w]
                            rfl
                          refine pure_ (i := 27) (N := some 97) (v := ?_) (a' := ?_) #[true, true, true, true, true, true, true, true, true, true, true, true, true, true, true, true, true, true, true, true, true, true, true, true, true, true, true, true, false, false, false, false, false, false, false, false, false, false, false, false, false, false, false, false, false, false, false, false] rfl rfl (any_of HT_.out (by kernel_rfl)) (fun _ _ _ h => h) (Or.inl ⟨by rfl, ?_⟩) ?_ ?_
                          rotate_left
                          · intro w'
                            go_simp
                            with_reducible rfl
                          rotate_left
                          · simp only [Act.put, List.setIfInBounds_toArray, List.set_cons_zero, List.set_cons_succ, i64_w, i32_w]
                            rfl
                          refine pure_ (i := 28) (N := some 98) (v := ?_) (a' := ?_) #[true, true, true, true, true, true, true, true, true, true, true, true, true, true, true, true, true, true, true, true, true, true, true, true, true, true, true, true, true, false, false, false, false, false, false, false, false, false, false, false, false, false, false, false, false, false, false, false] rfl rfl (any_of HT_.out (by kernel_rfl)) (fun _ _ _ h => h) (Or.inl ⟨by rfl, ?_⟩) ?_ ?_
                          rotate_left
                          · intro w'
                            go_simp
                            with_reducible rfl
                          rotate_left
                          · simp only [Act.put, List.setIfInBounds_toArray, List.set_cons_zero, List.set_cons_succ, i64_w, i32_w]
                            rfl
                          refine pure_ (i := 29) (N := some 99) (v := ?_) (a' := ?_) #[true, true, true, true, true, true, true, true, true, true, true, true, true, true, true, true, true, true, true, true, true, true, true, true, true, true, true, true, true, true, false, false, false, false, false, false, false, false, false, false, false, false, false, false, false, false, false, false] rfl rfl (any_of HT_.out (by kernel_rfl)) (fun _ _ _ h => h) (Or.inl ⟨by rfl, ?_⟩) ?_ ?_
                          rotate_left
                          · intro w'
                            go_simp
                            with_reducible rfl
                          rotate_left
                          · simp only [Act.put, List.setIfInBounds_toArray, List.set_cons_zero, List.set_cons_succ, i64_w, i32_w]
                            rfl
                          refine pure_ (i := 30) (N := some 100) (v := ?_) (a' := ?_) #[true, true, true, true, true, true, true, true, true, true, true, true, true, true, true, true, true, true, true, true, true, true, true, true, true, true, true, true, true, true, true, false, false, false, false, false, false, false, false, false, false, false, false, false, false, false, false, false] rfl rfl (any_of HT_.out (by kernel_rfl)) (fun _ _ _ h => h) (Or.inl ⟨by rfl, ?_⟩) ?_ ?_
                          rotate_left
                          · intro w'
                            go_simp
                            with_reducible rfl
                          rotate_left
                          · simp only [Act.put, List.setIfInBounds_toArray, List.set_cons_zero, List.set_cons_succ, i64_w, i32_w]
                            rfl
                          refine pure_ (i := 31) (N := some 101) (v := ?_) (a' := ?_) #[true, true, true, true, true, true, true, true, true, true, true, true, true, true, true, true, true, true, true, true, true, true, true, true, true, true, true, true, true, true, true, true, false, false, false, false, false, false, false, false, false, false, false, false, false, false, false, false] rfl rfl (any_of HT_.out (by kernel_rfl)) (fun _ _ _ h => h) (Or.inl ⟨by rfl, ?_⟩) ?_ ?_
                          rotate_left
                          · intro w'
                            go_simp
                            with_reducible rfl
                          rotate_left
                          · simp only [Act.put, List.setIfInBounds_toArray, List.set_cons_zero, List.set_cons_succ, i64_w, i32_w]
                            rfl
                          refine pure_ (i := 32) (N := some 102) (v := ?_) (a' := ?_) #[true, true, true, true, true, true, true, true, true, true, true, true, true, true, true, true, true, true, true, true, true, true, true, true, true, true, true, true, true, true, true, true, true, false, false, false, false, false, false, false, false, false, false, false, false, false, false, false] rfl rfl (any_of HT_.out (by kernel_rfl)) (fun _ _ _ h => h) (Or.inl ⟨by rfl, ?_⟩) ?_ ?_
                          rotate_left
                          · intro w'
                            go_simp
                            with_reducible rfl
                          rotate_left
                          · simp only [Act.put, List.setIfInBounds_toArray, List.set_cons_zero, List.set_cons_succ, i64_w, i32_w]
                            rfl
                          refine pure_ (i := 33) (N := some 103) (v := ?_) (a' := ?_) #[true, true, true, true, true, true, true, true, true, true, true, true, true, true, true, true, true, true, true, true, true, true, true, true, true, true, true, true, true, true, true, true, true, true, false, false, false, false, false, false, false, false, false, false, false, false, false, false] rfl rfl (any_of HT_.out (by kernel_rfl)) (fun _ _ _ h => h) (Or.inl ⟨by rfl, ?_⟩) ?_ ?_
                          rotate_left
                          · intro w'
                            go_simp
                            with_reducible rfl
                          rotate_left
                          · simp only [Act.put, List.setIfInBounds_toArray, List.set_cons_zero, List.set_cons_succ, i64_w, i32_w]
                            rfl
                          refine pure_ (i := 34) (N := some 104) (v := ?_) (a' := ?_) #[true, true, true, true, true, true, true, true, true, true, true, true, true, true, true, true, true, true, true, true, true, true, true, true, true, true, true, true, true, true, true, true, true, true, true, false, false, false, false, false, false, false, false, false, false, false, false, false] rfl rfl (any_of HT_.out (by kernel_rfl)) (fun _ _ _ h => h) (Or.inl ⟨by rfl, ?_⟩) ?_ ?_
                          rotate_left
                          · intro w'
                            go_simp
                            with_reducible rfl
                          rotate_left
                          · simp only [Act.put, List.setIfInBounds_toArray, List.set_cons_zero, List.set_cons_succ, i64_w, i32_w]
                            rfl
                          refine pure_ (i := 35) (N := some 105) (v := ?_) (a' := ?_) #[true, true, true, true, true, true, true, true, true, true, true, true, true, true, true, true, true, true, true, true, true, true, true, true, true, true, true, true, true, true, true, true, true, true, true, true, false, false, false, false, false, false, false, false, false, false, false, false] rfl rfl (any_of HT_.out (by kernel_rfl)) (fun _ _ _ h => h) (Or.inl ⟨by rfl, ?_⟩) ?_ ?_
                          rotate_left
                          · intro w'
                            go_simp
                            with_reducible rfl
                          rotate_left
                          · simp only [Act.put, List.setIfInBounds_toArray, List.set_cons_zero, List.set_cons_succ, i64_w, i32_w]
                            rfl
                          refine pure_ (i := 36) (N := some 106) (v := ?_) (a' := ?_) #[true, true, true, true, true, true, true, true, true, true, true, true, true, true, true, true, true, true, true, true, true, true, true, true, true, true, true, true, true, true, true, true, true, true, true, true, true, false, false, false, false, false, false, false, false, false, false, false] rfl rfl (any_of HT_.out (by kernel_rfl)) (fun _ _ _ h => h) (Or.inl ⟨by rfl, ?_⟩) ?_ ?_
                          rotate_left
                          · intro w'
                            go_simp
                            with_reducible rfl
                          rotate_left
                          · simp only [Act.put, List.setIfInBounds_toArray, List.set_cons_zero, List.set_cons_succ, i64_w, i32_w]
                            rfl
                          refine pure_ (i := 37) (N := some 107) (v := ?_) (a' := ?_) #[true, true, true, true, true, true, true, true, true, true, true, true, true, true, true, true, true, true, true, true, true, true, true, true, true, true, true, true, true, true, true, true, true, true, true, true, true, true, false, false, false, false, false, false, false, false, false, false] rfl rfl (any_of HT_.out (by kernel_rfl)) (fun _ _ _ h => h) (Or.inl ⟨by rfl, ?_⟩) ?_ ?_
                          rotate_left
                          · intro w'
                            go_simp
                            with_reducible rfl
                          rotate_left
                          · simp only [Act.put, List.setIfInBounds_toArray, List.set_cons_zero, List.set_cons_succ, i64_w, i32_w]
                            rfl
                          refine pure_ (i := 38) (N := some 108) (v := ?_) (a' := ?_) #[true, true, true, true, true, true, true, true, true, true, true, true, true, true, true, true, true, true, true, true, true, true, true, true, true, true, true, true, true, true, true, true, true, true, true, true, true, true, true, false, false, false, false, false, false, false, false, false] rfl rfl (any_of HT_.out (by kernel_rfl)) (fun _ _ _ h => h) (Or.inl ⟨by rfl, ?_⟩) ?_ ?_
                          rotate_left
                          · intro w'
                            go_simp
                            with_reducible rfl
                          rotate_left
                          · simp only [Act.put, List.setIfInBounds_toArray, List.set_cons_zero, List.set_cons_succ, i64_w, i32_w]
                            rfl
                          refine take_ (i := 39) (N := some 109) (v := ?_) (a' := ?_) #[true, true, true, true, true, true, true, true, true, true, true, true, true, true, true, true, true, true, true, true, true, true, true, true, true, true, true, true, true, true, true, true, true, true, true, true, true, true, true, true, false, false, false, false, false, false, false, false] rfl rfl (take_ofW HT_.out HW_.out (by kernel_rfl)) (fun _ _ _ h => h) (Or.inl ⟨by rfl, ?_⟩) hHeld ?_ ?_
                          rotate_left
                          · rintro w' ⟨s0, s1, s2, s3, s4, s5, s6, s7, s8, s9, s10, s11, s12, s13, s14⟩
                            go_simp
                            with_reducible rfl
                          rotate_left
                          · simp only [Act.put, List.setIfInBounds_toArray, List.set_cons_zero, List.set_cons_succ, i64_w, i32_w]
                            rfl
                          refine take_ (i := 42) (N := some 112) (v := ?_) (a' := ?_) #[true, true, true, true, true, true, true, true, true, true, true, true, true, true, true, true, true, true, true, true, true, true, true, true, true, true, true, true, true, true, true, true, true, true, true, true, true, true, true, true, false, false, true, false, false, false, false, false] rfl rfl (take_ofW HT_.out HW_.out (by kernel_rfl)) (fun _ _ _ h => h) (Or.inl ⟨by rfl, ?_⟩) hHeld ?_ ?_
                          rotate_left
                          · rintro w' ⟨s0, s1, s2, s3, s4, s5, s6, s7, s8, s9, s10, s11, s12, s13, s14⟩
                            go_simp
                            with_reducible rfl
                          rotate_left
                          · simp only [Act.put, List.setIfInBounds_toArray, List.set_cons_zero, List.set_cons_succ, i64_w, i32_w]
                            rfl
                          refine one_ (i := 40) (N := some 110) #[true, true, true, true, true, true, true, true, true, true, true, true, true, true, true, true, true, true, true, true, true, true, true, true, true, true, true, true, true, true, true, true, true, true, true, true, true, true, true, true, true, false, true, false, false, false, false, false] rfl rfl (one_of HT_.out (by kernel_rfl)) (by decide) (fun K hK => ?_)
                          refine goes_ Try.func18 (by kernel_rfl) rfl #[.agg #[.int .i64 a1_0, .int .i64 a1_1, .string a1_2]] (by rfl) rfl rfl (by (try simp only [List.map_toArray, List.map_cons, List.map_nil]); first | done | rfl | (simp only [List.length_drop, List.length_take]; rfl)) ?_
                          with_reducible refine (value_Put.calls kj4 a1_0 a1_1 a1_2 t329 _ A33.out).mono ?_
                          rintro e w80 ⟨v330, rfl, ho0, hb⟩
                          refine ⟨_, rfl, ?_⟩
                          have n0_ := Aside0.mk (Kd.R_lower ho0 (below_size (by repeat (first | (with_reducible first | exact HB.out | apply below_alloc | apply pw_below_drewN | apply below_drew1 | refine below_set ?_ GE300.out | refine below_set ?_ GE301.out | refine below_set ?_ GE307.out | refine below_set ?_ GE312.out | refine below_set ?_ GE317.out | refine below_set ?_ GE322.out) | exact HB.out))))
                          have n1_ := Aside0.mk (blk_below (g := gb300) (o := .cells #[.int .i64 a1_0, .int .i64 a1_1, .string a1_2] 23 (0, 0)) (by (with_reducible repeat (first | refine blk_drewN ?_ _ | refine blk_drew ?_ | refine blk_alloc ?_ _)); exact BK300.out) hb)
                          have n2_ := Aside0.mk (blk_below (g := gb301) (o := .cells #[.int .i64 a2_0, .int .i64 a2_1, .string a2_2] 23 (0, 0)) (by (with_reducible repeat (first | refine blk_drewN ?_ _ | refine blk_drew ?_ | refine blk_alloc ?_ _)); exact BK301.out) hb)
                          have n3_ := Aside0.mk (blk_below (g := gb307) (o := .cells #[.int .i64 t303, .int .i64 t304, .string t305] 23 (0, 0)) (by (with_reducible repeat (first | refine blk_drewN ?_ _ | refine blk_drew ?_ | refine blk_alloc ?_ _)); exact BK307.out) hb)
                          have n4_ := Aside0.mk (blk_below (g := gb312) (o := .cells #[.int .i64 t308, .int .i64 t309, .string t310] 23 (0, 0)) (by (with_reducible repeat (first | refine blk_drewN ?_ _ | refine blk_drew ?_ | refine blk_alloc ?_ _)); exact BK312.out) hb)
                          have n5_ := Aside0.mk (blk_below (g := gb317) (o := .cells #[.int .i64 t313, .int .i64 t314, .string t315] 23 (0, 0)) (by (with_reducible repeat (first | refine blk_drewN ?_ _ | refine blk_drew ?_ | refine blk_alloc ?_ _)); exact BK317.out) hb)
                          have n6_ := Aside0.mk (blk_below (g := gb322) (o := .cells #[.int .i64 t318, .int .i64 t319, .string t320] 23 (0, 0)) (by (with_reducible repeat (first | refine blk_drewN ?_ _ | refine blk_drew ?_ | refine blk_alloc ?_ _)); exact BK322.out) hb)
                          have n7_ := Aside0.mk (below_step (by repeat (first | (with_reducible first | exact HB.out | apply below_alloc | apply pw_below_drewN | apply below_drew1 | refine below_set ?_ GE300.out | refine below_set ?_ GE301.out | refine below_set ?_ GE307.out | refine below_set ?_ GE312.out | refine below_set ?_ GE317.out | refine below_set ?_ GE322.out) | exact HB.out)) hb)
                          clear BK300
                          clear BK301
                          clear BK307
                          clear BK312
                          clear BK317
                          clear BK322
                          clear HB
                          have HO331 := n0_
                          have BK300 := n1_
                          have BK301 := n2_
                          have BK307 := n3_
                          have BK312 := n4_
                          have BK317 := n5_
                          have BK322 := n6_
                          have HB := n7_
                          clear n0_ n1_ n2_ n3_ n4_ n5_ n6_ n7_
                          (try clear hb)
                          (try clear hb2)
                          (try clear hk)
                          (try clear hi)
                          (try clear ho0)
                          refine hK.out _ _ ⟨(blk_cell BK300.out 0).trans rfl, (blk_cell BK300.out 1).trans rfl, (blk_cell BK300.out 2).trans rfl, (blk_cell BK307.out 0).trans rfl, (blk_cell BK307.out 1).trans rfl, (blk_cell BK307.out 2).trans rfl, (blk_cell BK312.out 0).trans rfl, (blk_cell BK312.out 1).trans rfl, (blk_cell BK312.out 2).trans rfl, (blk_cell BK317.out 0).trans rfl, (blk_cell BK317.out 1).trans rfl, (blk_cell BK317.out 2).trans rfl, (blk_cell BK322.out 0).trans rfl, (blk_cell BK322.out 1).trans rfl, (blk_cell BK322.out 2).trans rfl⟩ (fun hHeld => ?_)
                          clear hK K
                          refine norm_ (a' := ?_) ?_ ?_
                          rotate_left
                          · show Act.put _ (some 110) _ = _
                            simp only [Act.put, List.setIfInBounds_toArray, List.set_cons_zero, List.set_cons_succ, i64_w, i32_w]
                            rfl
                          refine join_ (σ := Value) 3 #[true, true, true, true, true, true, true, true, true, true, true, true, true, true, true, true, true, true, true, true, true, true, true, true, true, true, true, true, true, true, true, true, true, true, true, true, true, true, true, true, true, true, true, true, true, false, false, false] (fun s_ => [(111, .string (strOfNums t329)), (113, s_), (114, .string (strOfNums t332))]) (fun s_ w' => (w'.cell? ⟨gb300, 0, none⟩ = some (.int .i64 a1_0) ∧ w'.cell? ⟨gb300, 1, none⟩ = some (.int .i64 a1_1) ∧ w'.cell? ⟨gb300, 2, none⟩ = some (.string a1_2) ∧ w'.cell? ⟨gb307, 0, none⟩ = some (.int .i64 t303) ∧ w'.cell? ⟨gb307, 1, none⟩ = some (.int .i64 t304) ∧ w'.cell? ⟨gb307, 2, none⟩ = some (.string t305) ∧ w'.cell? ⟨gb312, 0, none⟩ = some (.int .i64 t308) ∧ w'.cell? ⟨gb312, 1, none⟩ = some (.int .i64 t309) ∧ w'.cell? ⟨gb312, 2, none⟩ = some (.string t310) ∧ w'.cell? ⟨gb317, 0, none⟩ = some (.int .i64 t313) ∧ w'.cell? ⟨gb317, 1, none⟩ = some (.int .i64 t314) ∧ w'.cell? ⟨gb317, 2, none⟩ = some (.string t315) ∧ w'.cell? ⟨gb322, 0, none⟩ = some (.int .i64 t318) ∧ w'.cell? ⟨gb322, 1, none⟩ = some (.int .i64 t319) ∧ w'.cell? ⟨gb322, 2, none⟩ = some (.string t320)) ∧ (Kd.R (Kd.int .u8) 5 w' w.heap.size (fun k_ => some k_ ≠ (s_ : Value).ownBlock) v330 t329) ∧ (Kd.R (Kd.int .u8) 5 w' w.heap.size (fun k_ => some k_ ≠ (v330 : Value).ownBlock) s_ t332) ∧ (w'.heap[gb300]? = some (.cells #[.int .i64 a1_0, .int .i64 a1_1, .string a1_2] 23 (0, 0))) ∧ (w'.heap[gb301]? = some (.cells #[.int .i64 a2_0, .int .i64 a2_1, .string a2_2] 23 (0, 0))) ∧ (w'.heap[gb307]? = some (.cells #[.int .i64 t303, .int .i64 t304, .string t305] 23 (0, 0))) ∧ (w'.heap[gb312]? = some (.cells #[.int .i64 t308, .int .i64 t309, .string t310] 23 (0, 0))) ∧ (w'.heap[gb317]? = some (.cells #[.int .i64 t313, .int .i64 t314, .string t315] 23 (0, 0))) ∧ (w'.heap[gb322]? = some (.cells #[.int .i64 t318, .int .i64 t319, .string t320] 23 (0, 0))) ∧ (Below w.heap.size w w')) ?_ ?_
                          rotate_left
                          · intro hCont
                            refine two_ (i := 41) (j := 43) (Ni := some 111) (Nj := some 113) #[true, true, true, true, true, true, true, true, true, true, true, true, true, true, true, true, true, true, true, true, true, true, true, true, true, true, true, true, true, true, true, true, true, true, true, true, true, true, true, true, true, true, true, false, false, false, false, false] #[true, true, true, true, true, true, true, true, true, true, true, true, true, true, true, true, true, true, true, true, true, true, true, true, true, true, true, true, true, true, true, true, true, true, true, true, true, true, true, true, true, false, true, true, false, false, false, false] rfl rfl rfl rfl (two_of HT_.out (by kernel_rfl)) (by decide) (by decide) (fun K hK => ?_) (fun K hK => ?_)
                            · skip
                              have hcv81 := own_string (P := Try.prog) Try.underlying31 Try.underlying5 Try.underlying9 (Kd.own_of_R HO331.out)
                              refine value_ (w1 := ?_) (v := ?_) (by rfl) rfl ?_ ?_
                              rotate_left 2
                              · go_simp
                                constructor
                                · rfl
                                · rfl
                              clear hcv81
                              refine hK.out _ _ ⟨(blk_cell BK300.out 0).trans rfl, (blk_cell BK300.out 1).trans rfl, (blk_cell BK300.out 2).trans rfl, (blk_cell BK307.out 0).trans rfl, (blk_cell BK307.out 1).trans rfl, (blk_cell BK307.out 2).trans rfl, (blk_cell BK312.out 0).trans rfl, (blk_cell BK312.out 1).trans rfl, (blk_cell BK312.out 2).trans rfl, (blk_cell BK317.out 0).trans rfl, (blk_cell BK317.out 1).trans rfl, (blk_cell BK317.out 2).trans rfl, (blk_cell BK322.out 0).trans rfl, (blk_cell BK322.out 1).trans rfl, (blk_cell BK322.out 2).trans rfl⟩ (fun hHeld => ?_)
                              clear hK K
                              refine norm_ (a' := ?_) ?_ ?_
                              rotate_left
                              · show Act.put _ (some 111) _ = _
                                simp only [Act.put, List.setIfInBounds_toArray, List.set_cons_zero, List.set_cons_succ, i64_w, i32_w]
                                rfl
                              refine one_ (i := 43) (N := some 113) #[true, true, true, true, true, true, true, true, true, true, true, true, true, true, true, true, true, true, true, true, true, true, true, true, true, true, true, true, true, true, true, true, true, true, true, true, true, true, true, true, true, true, true, true, false, false, false, false] rfl rfl (one_of HT_.out (by kernel_rfl)) (by decide) (fun K hK => ?_)
                              refine goes_ Try.func19 (by kernel_rfl) rfl #[.agg #[.int .i64 a1_0, .int .i64 a1_1, .string a1_2]] (by rfl) rfl rfl (by (try simp only [List.map_toArray, List.map_cons, List.map_nil]); first | done | rfl | (simp only [List.length_drop, List.length_take]; rfl)) ?_
                              with_reducible refine (auguryref04_Put.calls kj4 a1_0 a1_1 a1_2 t332 _ A34.out).mono ?_
                              rintro e w82 ⟨v333, rfl, ho0, hb⟩
                              refine ⟨_, rfl, ?_⟩
                              have n0_ := Aside0.mk (Kd.R_elder' (by (with_reducible repeat (first | apply Kd.R_alloc | apply Kd.R_drewN | apply Kd.R_drew)); exact HO331.out) (Kd.R_base ho0) hb)
                              have n1_ := Aside0.mk (Kd.R_lower (Kd.R_new' ho0 (Kd.R_lt (by (with_reducible repeat (first | apply Kd.R_alloc | apply Kd.R_drewN | apply Kd.R_drew)); exact HO331.out))) (below_size (by repeat (first | (with_reducible first | exact HB.out | apply below_alloc | apply pw_below_drewN | apply below_drew1 | refine below_set ?_ GE300.out | refine below_set ?_ GE301.out | refine below_set ?_ GE307.out | refine below_set ?_ GE312.out | refine below_set ?_ GE317.out | refine below_set ?_ GE322.out) | exact HB.out))))
                              have n2_ := Aside0.mk (blk_below (g := gb300) (o := .cells #[.int .i64 a1_0, .int .i64 a1_1, .string a1_2] 23 (0, 0)) (by (with_reducible repeat (first | refine blk_drewN ?_ _ | refine blk_drew ?_ | refine blk_alloc ?_ _)); exact BK300.out) hb)
                              have n3_ := Aside0.mk (blk_below (g := gb301) (o := .cells #[.int .i64 a2_0, .int .i64 a2_1, .string a2_2] 23 (0, 0)) (by (with_reducible repeat (first | refine blk_drewN ?_ _ | refine blk_drew ?_ | refine blk_alloc ?_ _)); exact BK301.out) hb)
                              have n4_ := Aside0.mk (blk_below (g := gb307) (o := .cells #[.int .i64 t303, .int .i64 t304, .string t305] 23 (0, 0)) (by (with_reducible repeat (first | refine blk_drewN ?_ _ | refine blk_drew ?_ | refine blk_alloc ?_ _)); exact BK307.out) hb)
                              have n5_ := Aside0.mk (blk_below (g := gb312) (o := .cells #[.int .i64 t308, .int .i64 t309, .string t310] 23 (0, 0)) (by (with_reducible repeat (first | refine blk_drewN ?_ _ | refine blk_drew ?_ | refine blk_alloc ?_ _)); exact BK312.out) hb)
                              have n6_ := Aside0.mk (blk_below (g := gb317) (o := .cells #[.int .i64 t313, .int .i64 t314, .string t315] 23 (0, 0)) (by (with_reducible repeat (first | refine blk_drewN ?_ _ | refine blk_drew ?_ | refine blk_alloc ?_ _)); exact BK317.out) hb)
                              have n7_ := Aside0.mk (blk_below (g := gb322) (o := .cells #[.int .i64 t318, .int .i64 t319, .string t320] 23 (0, 0)) (by (with_reducible repeat (first | refine blk_drewN ?_ _ | refine blk_drew ?_ | refine blk_alloc ?_ _)); exact BK322.out) hb)
                              have n8_ := Aside0.mk (below_step (by repeat (first | (with_reducible first | exact HB.out | apply below_alloc | apply pw_below_drewN | apply below_drew1 | refine below_set ?_ GE300.out | refine below_set ?_ GE301.out | refine below_set ?_ GE307.out | refine below_set ?_ GE312.out | refine below_set ?_ GE317.out | refine below_set ?_ GE322.out) | exact HB.out)) hb)
                              clear HO331
                              clear BK300
                              clear BK301
                              clear BK307
                              clear BK312
                              clear BK317
                              clear BK322
                              clear HB
                              have HO331 := n0_
                              have HO334 := n1_
                              have BK300 := n2_
                              have BK301 := n3_
                              have BK307 := n4_
                              have BK312 := n5_
                              have BK317 := n6_
                              have BK322 := n7_
                              have HB := n8_
                              clear n0_ n1_ n2_ n3_ n4_ n5_ n6_ n7_ n8_
                              (try clear hb)
                              (try clear hb2)
                              (try clear hk)
                              (try clear hi)
                              (try clear ho0)
                              refine hK.out _ _ ⟨(blk_cell BK300.out 0).trans rfl, (blk_cell BK300.out 1).trans rfl, (blk_cell BK300.out 2).trans rfl, (blk_cell BK307.out 0).trans rfl, (blk_cell BK307.out 1).trans rfl, (blk_cell BK307.out 2).trans rfl, (blk_cell BK312.out 0).trans rfl, (blk_cell BK312.out 1).trans rfl, (blk_cell BK312.out 2).trans rfl, (blk_cell BK317.out 0).trans rfl, (blk_cell BK317.out 1).trans rfl, (blk_cell BK317.out 2).trans rfl, (blk_cell BK322.out 0).trans rfl, (blk_cell BK322.out 1).trans rfl, (blk_cell BK322.out 2).trans rfl⟩ (fun hHeld => ?_)
                              clear hK K
                              refine norm_ (a' := ?_) ?_ ?_
                              rotate_left
                              · show Act.put _ (some 113) _ = _
                                simp only [Act.put, List.setIfInBounds_toArray, List.set_cons_zero, List.set_cons_succ, i64_w, i32_w]
                                rfl
                              refine one_ (i := 44) (N := some 114) #[true, true, true, true, true, true, true, true, true, true, true, true, true, true, true, true, true, true, true, true, true, true, true, true, true, true, true, true, true, true, true, true, true, true, true, true, true, true, true, true, true, true, true, true, true, false, false, false] rfl rfl (one_of HT_.out (by kernel_rfl)) (by decide) (fun K hK => ?_)
                              have hcv83 := own_string (P := Try.prog) Try.underlying31 Try.underlying5 Try.underlying9 (Kd.own_of_R HO334.out)
                              refine value_ (w1 := ?_) (v := ?_) (by rfl) rfl ?_ ?_
                              rotate_left 2
                              · go_simp
                                constructor
                                · rfl
                                · rfl
                              clear hcv83
                              refine hK.out _ _ ⟨(blk_cell BK300.out 0).trans rfl, (blk_cell BK300.out 1).trans rfl, (blk_cell BK300.out 2).trans rfl, (blk_cell BK307.out 0).trans rfl, (blk_cell BK307.out 1).trans rfl, (blk_cell BK307.out 2).trans rfl, (blk_cell BK312.out 0).trans rfl, (blk_cell BK312.out 1).trans rfl, (blk_cell BK312.out 2).trans rfl, (blk_cell BK317.out 0).trans rfl, (blk_cell BK317.out 1).trans rfl, (blk_cell BK317.out 2).trans rfl, (blk_cell BK322.out 0).trans rfl, (blk_cell BK322.out 1).trans rfl, (blk_cell BK322.out 2).trans rfl⟩ (fun hHeld => ?_)
                              clear hK K
                              refine norm_ (a' := ?_) ?_ ?_
                              rotate_left
                              · show Act.put _ (some 114) _ = _
                                simp only [Act.put, List.setIfInBounds_toArray, List.set_cons_zero, List.set_cons_succ, i64_w, i32_w]
                                rfl
                              exact norm_ (by simp only [putAll, Act.put, List.setIfInBounds_toArray, List.set_cons_zero, List.set_cons_succ]) (hCont (v333) _ ⟨hHeld, (by (with_reducible repeat (first | apply Kd.R_alloc | apply Kd.R_drewN | apply Kd.R_drew)); exact Kd.R_mono HO331.out (fun _ hk => hk.2)), (by (with_reducible repeat (first | apply Kd.R_alloc | apply Kd.R_drewN | apply Kd.R_drew)); exact Kd.R_mono HO334.out (fun _ hk => hk.2)), (by (with_reducible repeat (first | refine blk_drewN ?_ _ | refine blk_drew ?_ | refine blk_alloc ?_ _)); exact BK300.out), (by (with_reducible repeat (first | refine blk_drewN ?_ _ | refine blk_drew ?_ | refine blk_alloc ?_ _)); exact BK301.out), (by (with_reducible repeat (first | refine blk_drewN ?_ _ | refine blk_drew ?_ | refine blk_alloc ?_ _)); exact BK307.out), (by (with_reducible repeat (first | refine blk_drewN ?_ _ | refine blk_drew ?_ | refine blk_alloc ?_ _)); exact BK312.out), (by (with_reducible repeat (first | refine blk_drewN ?_ _ | refine blk_drew ?_ | refine blk_alloc ?_ _)); exact BK317.out), (by (with_reducible repeat (first | refine blk_drewN ?_ _ | refine blk_drew ?_ | refine blk_alloc ?_ _)); exact BK322.out), (by repeat (first | (with_reducible first | exact HB.out | apply below_alloc | apply pw_below_drewN | apply below_drew1 | refine below_set ?_ GE300.out | refine below_set ?_ GE301.out | refine below_set ?_ GE307.out | refine below_set ?_ GE312.out | refine below_set ?_ GE317.out | refine below_set ?_ GE322.out) | exact HB.out))⟩)
                            · skip
                              refine goes_ Try.func19 (by kernel_rfl) rfl #[.agg #[.int .i64 a1_0, .int .i64 a1_1, .string a1_2]] (by rfl) rfl rfl (by (try simp only [List.map_toArray, List.map_cons, List.map_nil]); first | done | rfl | (simp only [List.length_drop, List.length_take]; rfl)) ?_
                              with_reducible refine (auguryref04_Put.calls kj4 a1_0 a1_1 a1_2 t332 _ A34.out).mono ?_
                              rintro e w81 ⟨v333, rfl, ho0, hb⟩
                              refine ⟨_, rfl, ?_⟩
                              have n0_ := Aside0.mk (Kd.R_elder' (by (with_reducible repeat (first | apply Kd.R_alloc | apply Kd.R_drewN | apply Kd.R_drew)); exact HO331.out) (Kd.R_base ho0) hb)
                              have n1_ := Aside0.mk (Kd.R_lower (Kd.R_new' ho0 (Kd.R_lt (by (with_reducible repeat (first | apply Kd.R_alloc | apply Kd.R_drewN | apply Kd.R_drew)); exact HO331.out))) (below_size (by repeat (first | (with_reducible first | exact HB.out | apply below_alloc | apply pw_below_drewN | apply below_drew1 | refine below_set ?_ GE300.out | refine below_set ?_ GE301.out | refine below_set ?_ GE307.out | refine below_set ?_ GE312.out | refine below_set ?_ GE317.out | refine below_set ?_ GE322.out) | exact HB.out))))
                              have n2_ := Aside0.mk (blk_below (g := gb300) (o := .cells #[.int .i64 a1_0, .int .i64 a1_1, .string a1_2] 23 (0, 0)) (by (with_reducible repeat (first | refine blk_drewN ?_ _ | refine blk_drew ?_ | refine blk_alloc ?_ _)); exact BK300.out) hb)
                              have n3_ := Aside0.mk (blk_below (g := gb301) (o := .cells #[.int .i64 a2_0, .int .i64 a2_1, .string a2_2] 23 (0, 0)) (by (with_reducible repeat (first | refine blk_drewN ?_ _ | refine blk_drew ?_ | refine blk_alloc ?_ _)); exact BK301.out) hb)
                              have n4_ := Aside0.mk (blk_below (g := gb307) (o := .cells #[.int .i64 t303, .int .i64 t304, .string t305] 23 (0, 0)) (by (with_reducible repeat (first | refine blk_drewN ?_ _ | refine blk_drew ?_ | refine blk_alloc ?_ _)); exact BK307.out) hb)
                              have n5_ := Aside0.mk (blk_below (g := gb312) (o := .cells #[.int .i64 t308, .int .i64 t309, .string t310] 23 (0, 0)) (by (with_reducible repeat (first | refine blk_drewN ?_ _ | refine blk_drew ?_ | refine blk_alloc ?_ _)); exact BK312.out) hb)
                              have n6_ := Aside0.mk (blk_below (g := gb317) (o := .cells #[.int .i64 t313, .int .i64 t314, .string t315] 23 (0, 0)) (by (with_reducible repeat (first | refine blk_drewN ?_ _ | refine blk_drew ?_ | refine blk_alloc ?_ _)); exact BK317.out) hb)
                              have n7_ := Aside0.mk (blk_below (g := gb322) (o := .cells #[.int .i64 t318, .int .i64 t319, .string t320] 23 (0, 0)) (by (with_reducible repeat (first | refine blk_drewN ?_ _ | refine blk_drew ?_ | refine blk_alloc ?_ _)); exact BK322.out) hb)
                              have n8_ := Aside0.mk (below_step (by repeat (first | (with_reducible first | exact HB.out | apply below_alloc | apply pw_below_drewN | apply below_drew1 | refine below_set ?_ GE300.out | refine below_set ?_ GE301.out | refine below_set ?_ GE307.out | refine below_set ?_ GE312.out | refine below_set ?_ GE317.out | refine below_set ?_ GE322.out) | exact HB.out)) hb)
                              clear HO331
                              clear BK300
                              clear BK301
                              clear BK307
                              clear BK312
                              clear BK317
                              clear BK322
                              clear HB
                              have HO331 := n0_
                              have HO334 := n1_
                              have BK300 := n2_
                              have BK301 := n3_
                              have BK307 := n4_
                              have BK312 := n5_
                              have BK317 := n6_
                              have BK322 := n7_
                              have HB := n8_
                              clear n0_ n1_ n2_ n3_ n4_ n5_ n6_ n7_ n8_
                              (try clear hb)
                              (try clear hb2)
                              (try clear hk)
                              (try clear hi)
                              (try clear ho0)
                              refine hK.out _ _ ⟨(blk_cell BK300.out 0).trans rfl, (blk_cell BK300.out 1).trans rfl, (blk_cell BK300.out 2).trans rfl, (blk_cell BK307.out 0).trans rfl, (blk_cell BK307.out 1).trans rfl, (blk_cell BK307.out 2).trans rfl, (blk_cell BK312.out 0).trans rfl, (blk_cell BK312.out 1).trans rfl, (blk_cell BK312.out 2).trans rfl, (blk_cell BK317.out 0).trans rfl, (blk_cell BK317.out 1).trans rfl, (blk_cell BK317.out 2).trans rfl, (blk_cell BK322.out 0).trans rfl, (blk_cell BK322.out 1).trans rfl, (blk_cell BK322.out 2).trans rfl⟩ (fun hHeld => ?_)
                              clear hK K
                              refine norm_ (a' := ?_) ?_ ?_
                              rotate_left
                              · show Act.put _ (some 113) _ = _
                                simp only [Act.put, List.setIfInBounds_toArray, List.set_cons_zero, List.set_cons_succ, i64_w, i32_w]
                                rfl
                              refine two_ (i := 41) (j := 44) (Ni := some 111) (Nj := some 114) #[true, true, true, true, true, true, true, true, true, true, true, true, true, true, true, true, true, true, true, true, true, true, true, true, true, true, true, true, true, true, true, true, true, true, true, true, true, true, true, true, true, true, true, true, false, false, false, false] #[true, true, true, true, true, true, true, true, true, true, true, true, true, true, true, true, true, true, true, true, true, true, true, true, true, true, true, true, true, true, true, true, true, true, true, true, true, true, true, true, true, false, true, true, true, false, false, false] rfl rfl rfl rfl (two_of HT_.out (by kernel_rfl)) (by decide) (by decide) (fun K hK => ?_) (fun K hK => ?_)
                              · skip
                                have hcv82 := own_string (P := Try.prog) Try.underlying31 Try.underlying5 Try.underlying9 (Kd.own_of_R HO331.out)
                                refine value_ (w1 := ?_) (v := ?_) (by rfl) rfl ?_ ?_
                                rotate_left 2
                                · go_simp
                                  constructor
                                  · rfl
                                  · rfl
                                clear hcv82
                                refine hK.out _ _ ⟨(blk_cell BK300.out 0).trans rfl, (blk_cell BK300.out 1).trans rfl, (blk_cell BK300.out 2).trans rfl, (blk_cell BK307.out 0).trans rfl, (blk_cell BK307.out 1).trans rfl, (blk_cell BK307.out 2).trans rfl, (blk_cell BK312.out 0).trans rfl, (blk_cell BK312.out 1).trans rfl, (blk_cell BK312.out 2).trans rfl, (blk_cell BK317.out 0).trans rfl, (blk_cell BK317.out 1).trans rfl, (blk_cell BK317.out 2).trans rfl, (blk_cell BK322.out 0).trans rfl, (blk_cell BK322.out 1).trans rfl, (blk_cell BK322.out 2).trans rfl⟩ (fun hHeld => ?_)
                                clear hK K
                                refine norm_ (a' := ?_) ?_ ?_
                                rotate_left
                                · show Act.put _ (some 111) _ = _
                                  simp only [Act.put, List.setIfInBounds_toArray, List.set_cons_zero, List.set_cons_succ, i64_w, i32_w]
                                  rfl
                                refine one_ (i := 44) (N := some 114) #[true, true, true, true, true, true, true, true, true, true, true, true, true, true, true, true, true, true, true, true, true, true, true, true, true, true, true, true, true, true, true, true, true, true, true, true, true, true, true, true, true, true, true, true, true, false, false, false] rfl rfl (one_of HT_.out (by kernel_rfl)) (by decide) (fun K hK => ?_)
                                have hcv83 := own_string (P := Try.prog) Try.underlying31 Try.underlying5 Try.underlying9 (Kd.own_of_R HO334.out)
                                refine value_ (w1 := ?_) (v := ?_) (by rfl) rfl ?_ ?_
                                rotate_left 2
                                · go_simp
                                  constructor
                                  · rfl
                                  · rfl
                                clear hcv83
                                refine hK.out _ _ ⟨(blk_cell BK300.out 0).trans rfl, (blk_cell BK300.out 1).trans rfl, (blk_cell BK300.out 2).trans rfl, (blk_cell BK307.out 0).trans rfl, (blk_cell BK307.out 1).trans rfl, (blk_cell BK307.out 2).trans rfl, (blk_cell BK312.out 0).trans rfl, (blk_cell BK312.out 1).trans rfl, (blk_cell BK312.out 2).trans rfl, (blk_cell BK317.out 0).trans rfl, (blk_cell BK317.out 1).trans rfl, (blk_cell BK317.out 2).trans rfl, (blk_cell BK322.out 0).trans rfl, (blk_cell BK322.out 1).trans rfl, (blk_cell BK322.out 2).trans rfl⟩ (fun hHeld => ?_)
                                clear hK K
                                refine norm_ (a' := ?_) ?_ ?_
                                rotate_left
                                · show Act.put _ (some 114) _ = _
                                  simp only [Act.put, List.setIfInBounds_toArray, List.set_cons_zero, List.set_cons_succ, i64_w, i32_w]
                                  rfl
                                exact norm_ (by simp only [putAll, Act.put, List.setIfInBounds_toArray, List.set_cons_zero, List.set_cons_succ]) (hCont (v333) _ ⟨hHeld, (by (with_reducible repeat (first | apply Kd.R_alloc | apply Kd.R_drewN | apply Kd.R_drew)); exact Kd.R_mono HO331.out (fun _ hk => hk.2)), (by (with_reducible repeat (first | apply Kd.R_alloc | apply Kd.R_drewN | apply Kd.R_drew)); exact Kd.R_mono HO334.out (fun _ hk => hk.2)), (by (with_reducible repeat (first | refine blk_drewN ?_ _ | refine blk_drew ?_ | refine blk_alloc ?_ _)); exact BK300.out), (by (with_reducible repeat (first | refine blk_drewN ?_ _ | refine blk_drew ?_ | refine blk_alloc ?_ _)); exact BK301.out), (by (with_reducible repeat (first | refine blk_drewN ?_ _ | refine blk_drew ?_ | refine blk_alloc ?_ _)); exact BK307.out), (by (with_reducible repeat (first | refine blk_drewN ?_ _ | refine blk_drew ?_ | refine blk_alloc ?_ _)); exact BK312.out), (by (with_reducible repeat (first | refine blk_drewN ?_ _ | refine blk_drew ?_ | refine blk_alloc ?_ _)); exact BK317.out), (by (with_reducible repeat (first | refine blk_drewN ?_ _ | refine blk_drew ?_ | refine blk_alloc ?_ _)); exact BK322.out), (by repeat (first | (with_reducible first | exact HB.out | apply below_alloc | apply pw_below_drewN | apply below_drew1 | refine below_set ?_ GE300.out | refine below_set ?_ GE301.out | refine below_set ?_ GE307.out | refine below_set ?_ GE312.out | refine below_set ?_ GE317.out | refine below_set ?_ GE322.out) | exact HB.out))⟩)
                              · skip
                                have hcv82 := own_string (P := Try.prog) Try.underlying31 Try.underlying5 Try.underlying9 (Kd.own_of_R HO334.out)
                                refine value_ (w1 := ?_) (v := ?_) (by rfl) rfl ?_ ?_
                                rotate_left 2
                                · go_simp
                                  constructor
                                  · rfl
                                  · rfl
                                clear hcv82
                                refine hK.out _ _ ⟨(blk_cell BK300.out 0).trans rfl, (blk_cell BK300.out 1).trans rfl, (blk_cell BK300.out 2).trans rfl, (blk_cell BK307.out 0).trans rfl, (blk_cell BK307.out 1).trans rfl, (blk_cell BK307.out 2).trans rfl, (blk_cell BK312.out 0).trans rfl, (blk_cell BK312.out 1).trans rfl, (blk_cell BK312.out 2).trans rfl, (blk_cell BK317.out 0).trans rfl, (blk_cell BK317.out 1).trans rfl, (blk_cell BK317.out 2).trans rfl, (blk_cell BK322.out 0).trans rfl, (blk_cell BK322.out 1).trans rfl, (blk_cell BK322.out 2).trans rfl⟩ (fun hHeld => ?_)
                                clear hK K
                                refine norm_ (a' := ?_) ?_ ?_
                                rotate_left
                                · show Act.put _ (some 114) _ = _
                                  simp only [Act.put, List.setIfInBounds_toArray, List.set_cons_zero, List.set_cons_succ, i64_w, i32_w]
                                  rfl
                                refine one_ (i := 41) (N := some 111) #[true, true, true, true, true, true, true, true, true, true, true, true, true, true, true, true, true, true, true, true, true, true, true, true, true, true, true, true, true, true, true, true, true, true, true, true, true, true, true, true, true, true, true, true, true, false, false, false] rfl rfl (one_of HT_.out (by kernel_rfl)) (by decide) (fun K hK => ?_)
                                have hcv83 := own_string (P := Try.prog) Try.underlying31 Try.underlying5 Try.underlying9 (Kd.own_of_R HO331.out)
                                refine value_ (w1 := ?_) (v := ?_) (by rfl) rfl ?_ ?_
                                rotate_left 2
                                · go_simp
                                  constructor
                                  · rfl
                                  · rfl
                                clear hcv83
                                refine hK.out _ _ ⟨(blk_cell BK300.out 0).trans rfl, (blk_cell BK300.out 1).trans rfl, (blk_cell BK300.out 2).trans rfl, (blk_cell BK307.out 0).trans rfl, (blk_cell BK307.out 1).trans rfl, (blk_cell BK307.out 2).trans rfl, (blk_cell BK312.out 0).trans rfl, (blk_cell BK312.out 1).trans rfl, (blk_cell BK312.out 2).trans rfl, (blk_cell BK317.out 0).trans rfl, (blk_cell BK317.out 1).trans rfl, (blk_cell BK317.out 2).trans rfl, (blk_cell BK322.out 0).trans rfl, (blk_cell BK322.out 1).trans rfl, (blk_cell BK322.out 2).trans rfl⟩ (fun hHeld => ?_)
                                clear hK K
                                refine norm_ (a' := ?_) ?_ ?_
                                rotate_left
                                · show Act.put _ (some 111) _ = _
                                  simp only [Act.put, List.setIfInBounds_toArray, List.set_cons_zero, List.set_cons_succ, i64_w, i32_w]
                                  rfl
                                exact norm_ (by simp only [putAll, Act.put, List.setIfInBounds_toArray, List.set_cons_zero, List.set_cons_succ]) (hCont (v333) _ ⟨hHeld, (by (with_reducible repeat (first | apply Kd.R_alloc | apply Kd.R_drewN | apply Kd.R_drew)); exact Kd.R_mono HO331.out (fun _ hk => hk.2)), (by (with_reducible repeat (first | apply Kd.R_alloc | apply Kd.R_drewN | apply Kd.R_drew)); exact Kd.R_mono HO334.out (fun _ hk => hk.2)), (by (with_reducible repeat (first | refine blk_drewN ?_ _ | refine blk_drew ?_ | refine blk_alloc ?_ _)); exact BK300.out), (by (with_reducible repeat (first | refine blk_drewN ?_ _ | refine blk_drew ?_ | refine blk_alloc ?_ _)); exact BK301.out), (by (with_reducible repeat (first | refine blk_drewN ?_ _ | refine blk_drew ?_ | refine blk_alloc ?_ _)); exact BK307.out), (by (with_reducible repeat (first | refine blk_drewN ?_ _ | refine blk_drew ?_ | refine blk_alloc ?_ _)); exact BK312.out), (by (with_reducible repeat (first | refine blk_drewN ?_ _ | refine blk_drew ?_ | refine blk_alloc ?_ _)); exact BK317.out), (by (with_reducible repeat (first | refine blk_drewN ?_ _ | refine blk_drew ?_ | refine blk_alloc ?_ _)); exact BK322.out), (by repeat (first | (with_reducible first | exact HB.out | apply below_alloc | apply pw_below_drewN | apply below_drew1 | refine below_set ?_ GE300.out | refine below_set ?_ GE301.out | refine below_set ?_ GE307.out | refine below_set ?_ GE312.out | refine below_set ?_ GE317.out | refine below_set ?_ GE322.out) | exact HB.out))⟩)
                          rintro v333 w84 ⟨hS_, h0_, h1_, h2_, h3_, h4_, h5_, h6_, h7_, h8_⟩
                          have n0_ : Aside0 (Kd.R (Kd.int .u8) 5 w84 w.heap.size (fun k_ => some k_ ≠ (v333 : Value).ownBlock) v330 t329) := ⟨h0_⟩
                          have n1_ : Aside0 (Kd.R (Kd.int .u8) 5 w84 w.heap.size (fun k_ => some k_ ≠ (v330 : Value).ownBlock) v333 t332) := ⟨h1_⟩
                          have n2_ : Aside0 (w84.heap[gb300]? = some (.cells #[.int .i64 a1_0, .int .i64 a1_1, .string a1_2] 23 (0, 0))) := ⟨h2_⟩
                          have n3_ : Aside0 (w84.heap[gb301]? = some (.cells #[.int .i64 a2_0, .int .i64 a2_1, .string a2_2] 23 (0, 0))) := ⟨h3_⟩
                          have n4_ : Aside0 (w84.heap[gb307]? = some (.cells #[.int .i64 t303, .int .i64 t304, .string t305] 23 (0, 0))) := ⟨h4_⟩
                          have n5_ : Aside0 (w84.heap[gb312]? = some (.cells #[.int .i64 t308, .int .i64 t309, .string t310] 23 (0, 0))) := ⟨h5_⟩
                          have n6_ : Aside0 (w84.heap[gb317]? = some (.cells #[.int .i64 t313, .int .i64 t314, .string t315] 23 (0, 0))) := ⟨h6_⟩
                          have n7_ : Aside0 (w84.heap[gb322]? = some (.cells #[.int .i64 t318, .int .i64 t319, .string t320] 23 (0, 0))) := ⟨h7_⟩
                          have n8_ : Aside0 (Below w.heap.size w w84) := ⟨h8_⟩
                          clear BK300
                          clear BK301
                          clear BK307
                          clear BK312
                          clear BK317
                          clear BK322
                          clear HB
                          clear h0_ h1_ h2_ h3_ h4_ h5_ h6_ h7_ h8_
                          have HO331 := n0_
                          have HO334 := n1_
                          have BK300 := n2_
                          have BK301 := n3_
                          have BK307 := n4_
                          have BK312 := n5_
                          have BK317 := n6_
                          have BK322 := n7_
                          have HB := n8_
                          clear n0_ n1_ n2_ n3_ n4_ n5_ n6_ n7_ n8_
                          have hHeld : w84.cell? ⟨gb300, 0, none⟩ = some (.int .i64 a1_0) ∧ w84.cell? ⟨gb300, 1, none⟩ = some (.int .i64 a1_1) ∧ w84.cell? ⟨gb300, 2, none⟩ = some (.string a1_2) ∧ w84.cell? ⟨gb307, 0, none⟩ = some (.int .i64 t303) ∧ w84.cell? ⟨gb307, 1, none⟩ = some (.int .i64 t304) ∧ w84.cell? ⟨gb307, 2, none⟩ = some (.string t305) ∧ w84.cell? ⟨gb312, 0, none⟩ = some (.int .i64 t308) ∧ w84.cell? ⟨gb312, 1, none⟩ = some (.int .i64 t309) ∧ w84.cell? ⟨gb312, 2, none⟩ = some (.string t310) ∧ w84.cell? ⟨gb317, 0, none⟩ = some (.int .i64 t313) ∧ w84.cell? ⟨gb317, 1, none⟩ = some (.int .i64 t314) ∧ w84.cell? ⟨gb317, 2, none⟩ = some (.string t315) ∧ w84.cell? ⟨gb322, 0, none⟩ = some (.int .i64 t318) ∧ w84.cell? ⟨gb322, 1, none⟩ = some (.int .i64 t319) ∧ w84.cell? ⟨gb322, 2, none⟩ = some (.string t320) := hS_
                          refine norm_ (a' := ?_) ?_ ?_
                          rotate_left
                          · simp only [putAll, Act.put, List.setIfInBounds_toArray, List.set_cons_zero, List.set_cons_succ]
                            rfl
                          refine pure_ (i := 45) (N := some 115) (v := ?_) (a' := ?_) #[true, true, true, true, true, true, true, true, true, true, true, true, true, true, true, true, true, true, true, true, true, true, true, true, true, true, true, true, true, true, true, true, true, true, true, true, true, true, true, true, true, true, true, true, true, true, false, false] rfl rfl (any_of HT_.out (by kernel_rfl)) (fun _ _ _ h => h) (Or.inl ⟨by rfl, ?_⟩) ?_ ?_
                          rotate_left
                          · intro w'
                            go_simp
                            with_reducible rfl
                          rotate_left
                          · simp only [Act.put, List.setIfInBounds_toArray, List.set_cons_zero, List.set_cons_succ, i64_w, i32_w]
                            rfl
                          refine pure_ (i := 46) (N := some 116) (v := ?_) (a' := ?_) #[true, true, true, true, true, true, true, true, true, true, true, true, true, true, true, true, true, true, true, true, true, true, true, true, true, true, true, true, true, true, true, true, true, true, true, true, true, true, true, true, true, true, true, true, true, true, true, false] rfl rfl (any_of HT_.out (by kernel_rfl)) (fun _ _ _ h => h) (Or.inl ⟨by rfl, ?_⟩) ?_ ?_
                          rotate_left
                          · intro w'
                            go_simp
                            with_reducible rfl
                          rotate_left
                          · simp only [Act.put, List.setIfInBounds_toArray, List.set_cons_zero, List.set_cons_succ, i64_w, i32_w]
                            rfl
                          refine pure_ (i := 47) (N := some 6) (v := ?_) (a' := ?_) #[true, true, true, true, true, true, true, true, true, true, true, true, true, true, true, true, true, true, true, true, true, true, true, true, true, true, true, true, true, true, true, true, true, true, true, true, true, true, true, true, true, true, true, true, true, true, true, true] rfl rfl (any_of HT_.out (by kernel_rfl)) (fun _ _ _ h => h) (Or.inl ⟨by rfl, ?_⟩) ?_ ?_
                          rotate_left
                          · intro w'
                            go_simp
                            with_reducible rfl
                          rotate_left
                          · simp only [Act.put, List.setIfInBounds_toArray, List.set_cons_zero, List.set_cons_succ, i64_w, i32_w]
                            rfl
                          refine done_ (done_of HT_.out (by kernel_rfl)) ?_
                          try go_wp2
                          go_ret
                          exact ⟨by first | rfl | (simp [errW_none, errW_some] <;> rfl) | (simp [*, errW_none, errW_some] <;> rfl), by repeat (first | (with_reducible first | exact HB.out | apply below_alloc | apply pw_below_drewN | apply below_drew1 | refine below_set ?_ GE300.out | refine below_set ?_ GE301.out | refine below_set ?_ GE307.out | refine below_set ?_ GE312.out | refine below_set ?_ GE317.out | refine below_set ?_ GE322.out) | exact HB.out)⟩
                        · rw [if_neg c35] at H
                          exact absurd H (by simp)
                      · rw [if_neg c32] at H
                        have c32b0 : (t324 == t326) = false := beq_eq_false_iff_ne.mpr c32
                        have c32b1 : (t324 != t326) = true := bne_iff_ne.mpr c32
                        exact absurd H (by simp)
                    · rw [if_neg c31] at H
                      have c31b0 : (t323 == t325) = false := by simpa using c31
                      (try (have c31b1 : decide (t323 = t325) = false := by simpa using c31))
                      (try (have c31b2 : (t323 == t325) = false := by simpa using c31))
                      (try (have c31b3 : ¬ (t323 = t325) := by simpa using c31))
                      clear c31
                      exact absurd H (by simp)
                  · rw [if_neg c30] at H
                    have c30b0 : (t316 == t321) = false := beq_eq_false_iff_ne.mpr c30
                    have c30b1 : (t316 != t321) = true := bne_iff_ne.mpr c30
                    exact absurd H (by simp)
                · rw [if_neg c29] at H
                  have c29b0 : (t313 == t318 && (t314 == t319 && (t315.toList == t320.toList))) = false := by simpa using c29
                  (try (have c29b1 : decide (t313 = t318 && (t314 == t319 && (t315.toList == t320.toList))) = false := by simpa using c29))
                  (try (have c29b2 : (t313 == t318 && (t314 == t319 && (t315.toList == t320.toList))) = false := by simpa using c29))
                  (try (have c29b3 : ¬ (t313 = t318 && (t314 == t319 && (t315.toList == t320.toList))) := by simpa using c29))
                  clear c29
                  exact absurd H (by simp)
              · rw [if_neg c28] at H
                have c28b0 : (t306 == t311) = false := beq_eq_false_iff_ne.mpr c28
                have c28b1 : (t306 != t311) = true := bne_iff_ne.mpr c28
                exact absurd H (by simp)
            · rw [if_neg c27] at H
              have c27b0 : (t303 == t308 && (t304 == t309 && (t305.toList == t310.toList))) = false := by simpa using c27
              (try (have c27b1 : decide (t303 = t308 && (t304 == t309 && (t305.toList == t310.toList))) = false := by simpa using c27))
              (try (have c27b2 : (t303 == t308 && (t304 == t309 && (t305.toList == t310.toList))) = false := by simpa using c27))
              (try (have c27b3 : ¬ (t303 = t308 && (t304 == t309 && (t305.toList == t310.toList))) := by simpa using c27))
              clear c27
              exact absurd H (by simp)
          · rw [if_neg c26] at H
            have c26b0 : (t327 == t328) = false := by simpa using c26
            (try (have c26b1 : decide (t327 = t328) = false := by simpa using c26))
            (try (have c26b2 : (t327 == t328) = false := by simpa using c26))
            (try (have c26b3 : ¬ (t327 = t328) := by simpa using c26))
            clear c26
            exact absurd H (by simp)
        · replace c23 := Bool.eq_false_iff.mpr c23
          subst c23
          have H1 : (none) = some r := by rw [if_neg (show ¬ (false = true) by decide)] at H; exact H
          clear H
          have H := H1
          clear H1
          exact absurd H (by simp)

/-- THE ONE PURE STATEMENT of augurylaw04_ValueTells: yours. -/
def augurylaw04_ValueTells.Pure : Prop := ∀ (a0 : Int) (x1 : S23) (x2 : S23), (Lit.int .i64 a0).wf = true → ok23 x1 → ok23 x2 → ∃ k, augurylaw04_ValueTells.f k a0 x1.f0 x1.f1 x1.f2 x2.f0 x2.f1 x2.f2 = some true

end Go.Proofs.Ytlbaoekmnfeogaa.PAll
