/- Written by this session's own program (wip/xprint): functions of the Go program as Lean functions, and proofs that the Go code computes them. -/
import Derived.Test.YtlbaoekmnfeogaaPAllx0
import Derived.Test.YtlbaoekmnfeogaaPAllx1
import Derived.Test.YtlbaoekmnfeogaaPAllx2
import Derived.Test.YtlbaoekmnfeogaaPAllx12
import Derived.Test.YtlbaoekmnfeogaaPAllx18
namespace Go.Proofs.Ytlbaoekmnfeogaa.PAll
open Go.RowKit Go.Proofs.YtlbaoekmnfeogaaW.PrintWords Go.Proofs.YtlbaoekmnfeogaaW.PrintLast Go.Proofs.YtlbaoekmnfeogaaW.PrintMore
attribute [local go_sem] max2_int min2_int max_two min_two max_three min_three max_four min_four   -- for this text's walks alone
set_option linter.unusedVariables false
set_option linter.unusedSimpArgs false

attribute [local go_sem high] eqA23
/-! ### augurylaw04_ValueOrder: function 6 -/
mutual
def augurylaw04_ValueOrder.j0 : Nat → Bool → Bool → Int → Int → ByteArray → Int → Int → ByteArray → Option (Bool)
  | 0, _, _, _, _, _, _, _, _ => none
  | k + 1, x5, x41, x410000, x410001, x410002, x411000, x411001, x411002 => if x41 = true then (if x5 = true then (some true) else (none)) else ((value_Compare.f 1 x410000 x410001 x410002 x411000 x411001 x411002).bind fun bt414 => ((value_Compare.f 2 x410000 x410001 x410002 x411000 x411001 x411002).bind fun bt416 => (if x410000 = x411000 then ((value_Compare.f 3 x410000 x410001 x410002 x411000 x411001 x411002).bind fun bt418 => ((value_Compare.f 4 x410000 x410001 x410002 x411000 x411001 x411002).bind fun bt420 => ((value_Compare.f 5 x410000 x410001 x410002 x411000 x411001 x411002).bind fun bt422 => ((value_Compare.f 6 x410000 x410001 x410002 x411000 x411001 x411002).bind fun bt424 => ((value_Compare.f 5 x411000 x411001 x411002 x410000 x410001 x410002).bind fun bt426 => (if bt414.2 = 0 then (if bt416.2 = 0 then (if (bt414.1 == bt416.1) = true then (augurylaw04_ValueOrder.j1 k x5 bt414.1 bt418.1 bt418.2 bt420.1 bt420.2 bt422.1 bt422.2 bt424.1 bt424.2 bt426.1 bt426.2 true x410000 x410001 x410002) else (augurylaw04_ValueOrder.j1 k x5 bt414.1 bt418.1 bt418.2 bt420.1 bt420.2 bt422.1 bt422.2 bt424.1 bt424.2 bt426.1 bt426.2 (bt414.1 != (x410000 == x411000 && (x410001 == x411001 && (x410002.toList == x411002.toList)))) x410000 x410001 x410002)) else (augurylaw04_ValueOrder.j1 k x5 bt414.1 bt418.1 bt418.2 bt420.1 bt420.2 bt422.1 bt422.2 bt424.1 bt424.2 bt426.1 bt426.2 true x410000 x410001 x410002)) else (augurylaw04_ValueOrder.j1 k x5 bt414.1 bt418.1 bt418.2 bt420.1 bt420.2 bt422.1 bt422.2 bt424.1 bt424.2 bt426.1 bt426.2 true x410000 x410001 x410002))))))) else (if x5 = true then (if bt414.2 = 42 then (if bt416.2 = 42 then (if bt414.1 = true then (none) else (if bt416.1 = true then (none) else (some true))) else (none)) else (none)) else (none)))))
def augurylaw04_ValueOrder.j1 : Nat → Bool → Bool → Bool → Int → Bool → Int → Bool → Int → Bool → Int → Bool → Int → Bool → Int → Int → ByteArray → Option (Bool)
  | 0, _, _, _, _, _, _, _, _, _, _, _, _, _, _, _, _ => none
  | k + 1, x5, x6, x10, x11, x12, x13, x14, x15, x16, x17, x18, x19, x124, x410000, x410001, x410002 => if x124 = true then (none) else (if x410000 = 3 then (if x5 = true then (if x11 = 42 then (if x13 = x11 then (if x15 = x11 then (if x17 = x11 then (if x19 = x11 then (some true) else (none)) else (none)) else (none)) else (none)) else (none)) else (none)) else (if x10 = true then (augurylaw04_ValueOrder.j2 k x5 x6 x10 x11 x12 x13 x14 x15 x16 x17 x18 x19 (0 + 1)) else (augurylaw04_ValueOrder.j2 k x5 x6 x10 x11 x12 x13 x14 x15 x16 x17 x18 x19 0)))
def augurylaw04_ValueOrder.j2 : Nat → Bool → Bool → Bool → Int → Bool → Int → Bool → Int → Bool → Int → Bool → Int → Int → Option (Bool)
  | 0, _, _, _, _, _, _, _, _, _, _, _, _, _ => none
  | k + 1, x5, x6, x10, x11, x12, x13, x14, x15, x16, x17, x18, x19, x20 => if x6 = true then (if x14 = true then (if x5 = true then (if x11 = 0 then (if x13 = 0 then (if x15 = 0 then (if x17 = 0 then (if x19 = 0 then (if (wrap64 ((wrap64 (x20 + 1)) + 1)) = 1 then (if (x12 == (!x14)) = true then (if (x16 == (!x10)) = true then (if (x18 == x10) = true then (some true) else (none)) else (none)) else (none)) else (none)) else (none)) else (none)) else (none)) else (none)) else (none)) else (none)) else (if x5 = true then (if x11 = 0 then (if x13 = 0 then (if x15 = 0 then (if x17 = 0 then (if x19 = 0 then (if (wrap64 (x20 + 1)) = 1 then (if (x12 == (!x14)) = true then (if (x16 == (!x10)) = true then (if (x18 == x10) = true then (some true) else (none)) else (none)) else (none)) else (none)) else (none)) else (none)) else (none)) else (none)) else (none)) else (none))) else (if x14 = true then (if x5 = true then (if x11 = 0 then (if x13 = 0 then (if x15 = 0 then (if x17 = 0 then (if x19 = 0 then (if (wrap64 (x20 + 1)) = 1 then (if (x12 == (!x14)) = true then (if (x16 == (!x10)) = true then (if (x18 == x10) = true then (some true) else (none)) else (none)) else (none)) else (none)) else (none)) else (none)) else (none)) else (none)) else (none)) else (none)) else (if x5 = true then (if x11 = 0 then (if x13 = 0 then (if x15 = 0 then (if x17 = 0 then (if x19 = 0 then (if x20 = 1 then (if (x12 == (!x14)) = true then (if (x16 == (!x10)) = true then (if (x18 == x10) = true then (some true) else (none)) else (none)) else (none)) else (none)) else (none)) else (none)) else (none)) else (none)) else (none)) else (none)))
end
def augurylaw04_ValueOrder.f (k : Nat) (a0_0 : Int) (a0_1 : Int) (a0_2 : ByteArray) (a1_0 : Int) (a1_1 : Int) (a1_2 : ByteArray) : Option (Bool) := (augurylaw04_head.f k).bind fun t411 => (if (a0_2.size : Int) > 9000 then (augurylaw04_ValueOrder.j0 k t411 true a0_0 a0_1 a0_2 a1_0 a1_1 a1_2) else (if (a1_2.size : Int) > 9000 then (augurylaw04_ValueOrder.j0 k t411 true a0_0 a0_1 a0_2 a1_0 a1_1 a1_2) else ((value_Right.f a0_0 a0_1 a0_2).bind fun t412 => (if t412 = true then ((value_Right.f a1_0 a1_1 a1_2).bind fun t413 => (augurylaw04_ValueOrder.j0 k t411 (!t413) a0_0 a0_1 a0_2 a1_0 a1_1 a1_2)) else (augurylaw04_ValueOrder.j0 k t411 true a0_0 a0_1 a0_2 a1_0 a1_1 a1_2)))))
theorem augurylaw04_ValueOrder.mono_l : ∀ k, (∀ y0 y1 y2 y3 y4 y5 y6 y7, LeO (augurylaw04_ValueOrder.j0 k y0 y1 y2 y3 y4 y5 y6 y7) (augurylaw04_ValueOrder.j0 (k + 1) y0 y1 y2 y3 y4 y5 y6 y7)) ∧ (∀ y0 y1 y2 y3 y4 y5 y6 y7 y8 y9 y10 y11 y12 y13 y14 y15, LeO (augurylaw04_ValueOrder.j1 k y0 y1 y2 y3 y4 y5 y6 y7 y8 y9 y10 y11 y12 y13 y14 y15) (augurylaw04_ValueOrder.j1 (k + 1) y0 y1 y2 y3 y4 y5 y6 y7 y8 y9 y10 y11 y12 y13 y14 y15)) ∧ (∀ y0 y1 y2 y3 y4 y5 y6 y7 y8 y9 y10 y11 y12, LeO (augurylaw04_ValueOrder.j2 k y0 y1 y2 y3 y4 y5 y6 y7 y8 y9 y10 y11 y12) (augurylaw04_ValueOrder.j2 (k + 1) y0 y1 y2 y3 y4 y5 y6 y7 y8 y9 y10 y11 y12))
  | 0 => ⟨fun _ _ _ _ _ _ _ _ r h => by simp [augurylaw04_ValueOrder.j0] at h, fun _ _ _ _ _ _ _ _ _ _ _ _ _ _ _ _ r h => by simp [augurylaw04_ValueOrder.j1] at h, fun _ _ _ _ _ _ _ _ _ _ _ _ _ r h => by simp [augurylaw04_ValueOrder.j2] at h⟩
  | k + 1 => by
    obtain ⟨ih0, ih1, ih2⟩ := augurylaw04_ValueOrder.mono_l k
    refine ⟨?_, ?_, ?_⟩
    · intro y0 y1 y2 y3 y4 y5 y6 y7
      unfold augurylaw04_ValueOrder.j0
      repeat' first
      | (with_reducible exact ih0 _ _ _ _ _ _ _ _)
      | (with_reducible exact ih1 _ _ _ _ _ _ _ _ _ _ _ _ _ _ _ _)
      | (with_reducible exact ih2 _ _ _ _ _ _ _ _ _ _ _ _ _)
      | (with_reducible exact augurylaw04_head.mono _)
      | (with_reducible exact LeO.refl _)
      | (with_reducible exact LeO.none _)
      | (with_reducible refine LeO.ite ?_ ?_)
      | (with_reducible refine LeO.bind ?_ (fun _ => ?_))
      | exact ih0 _ _ _ _ _ _ _ _
      | exact ih1 _ _ _ _ _ _ _ _ _ _ _ _ _ _ _ _
      | exact ih2 _ _ _ _ _ _ _ _ _ _ _ _ _
      | exact augurylaw04_head.mono _
      | exact LeO.none _
      | refine LeO.ite ?_ ?_
      | refine LeO.bind ?_ (fun _ => ?_)
    · intro y0 y1 y2 y3 y4 y5 y6 y7 y8 y9 y10 y11 y12 y13 y14 y15
      unfold augurylaw04_ValueOrder.j1
      repeat' first
      | (with_reducible exact ih0 _ _ _ _ _ _ _ _)
      | (with_reducible exact ih1 _ _ _ _ _ _ _ _ _ _ _ _ _ _ _ _)
      | (with_reducible exact ih2 _ _ _ _ _ _ _ _ _ _ _ _ _)
      | (with_reducible exact augurylaw04_head.mono _)
      | (with_reducible exact LeO.refl _)
      | (with_reducible exact LeO.none _)
      | (with_reducible refine LeO.ite ?_ ?_)
      | (with_reducible refine LeO.bind ?_ (fun _ => ?_))
      | exact ih0 _ _ _ _ _ _ _ _
      | exact ih1 _ _ _ _ _ _ _ _ _ _ _ _ _ _ _ _
      | exact ih2 _ _ _ _ _ _ _ _ _ _ _ _ _
      | exact augurylaw04_head.mono _
      | exact LeO.none _
      | refine LeO.ite ?_ ?_
      | refine LeO.bind ?_ (fun _ => ?_)
    · intro y0 y1 y2 y3 y4 y5 y6 y7 y8 y9 y10 y11 y12
      unfold augurylaw04_ValueOrder.j2
      repeat' first
      | (with_reducible exact ih0 _ _ _ _ _ _ _ _)
      | (with_reducible exact ih1 _ _ _ _ _ _ _ _ _ _ _ _ _ _ _ _)
      | (with_reducible exact ih2 _ _ _ _ _ _ _ _ _ _ _ _ _)
      | (with_reducible exact augurylaw04_head.mono _)
      | (with_reducible exact LeO.refl _)
      | (with_reducible exact LeO.none _)
      | (with_reducible refine LeO.ite ?_ ?_)
      | (with_reducible refine LeO.bind ?_ (fun _ => ?_))
      | exact ih0 _ _ _ _ _ _ _ _
      | exact ih1 _ _ _ _ _ _ _ _ _ _ _ _ _ _ _ _
      | exact ih2 _ _ _ _ _ _ _ _ _ _ _ _ _
      | exact augurylaw04_head.mono _
      | exact LeO.none _
      | refine LeO.ite ?_ ?_
      | refine LeO.bind ?_ (fun _ => ?_)
theorem augurylaw04_ValueOrder.mono : ∀ a0 a1 a2 a3 a4 a5 k, LeO (augurylaw04_ValueOrder.f k a0 a1 a2 a3 a4 a5) (augurylaw04_ValueOrder.f (k + 1) a0 a1 a2 a3 a4 a5) := by
  intro a0 a1 a2 a3 a4 a5 k
  obtain ⟨ih0, ih1, ih2⟩ := augurylaw04_ValueOrder.mono_l k
  unfold augurylaw04_ValueOrder.f
  repeat' first
      | (with_reducible exact ih0 _ _ _ _ _ _ _ _)
      | (with_reducible exact ih1 _ _ _ _ _ _ _ _ _ _ _ _ _ _ _ _)
      | (with_reducible exact ih2 _ _ _ _ _ _ _ _ _ _ _ _ _)
      | (with_reducible exact augurylaw04_head.mono _)
      | (with_reducible exact LeO.refl _)
      | (with_reducible exact LeO.none _)
      | (with_reducible refine LeO.ite ?_ ?_)
      | (with_reducible refine LeO.bind ?_ (fun _ => ?_))
      | exact ih0 _ _ _ _ _ _ _ _
      | exact ih1 _ _ _ _ _ _ _ _ _ _ _ _ _ _ _ _
      | exact ih2 _ _ _ _ _ _ _ _ _ _ _ _ _
      | exact augurylaw04_head.mono _
      | exact LeO.none _
      | refine LeO.ite ?_ ?_
      | refine LeO.bind ?_ (fun _ => ?_)
set_option maxHeartbeats 8000000 in
set_option maxRecDepth 100000 in
theorem augurylaw04_ValueOrder.calls (k : Nat) (a0_0 : Int) (a0_1 : Int) (a0_2 : ByteArray) (a1_0 : Int) (a1_1 : Int) (a1_2 : ByteArray) (r : Bool) (w : World) (h : augurylaw04_ValueOrder.f k a0_0 a0_1 a0_2 a1_0 a1_1 a1_2 = some r) :
    Calls Try.prog 6 #[.agg #[.int .i64 a0_0, .int .i64 a0_1, .string a0_2], .agg #[.int .i64 a1_0, .int .i64 a1_1, .string a1_2]] w fun e w' => e = .returned (.bool r) ∧ Below w.heap.size w w' := by
  have hu23 := Try.underlying23
  have HB := Aside0.mk (Below.refl w.heap.size w)
  have H : ((augurylaw04_head.f k).bind fun t411 => (if (a0_2.size : Int) > 9000 then (augurylaw04_ValueOrder.j0 k t411 true a0_0 a0_1 a0_2 a1_0 a1_1 a1_2) else (if (a1_2.size : Int) > 9000 then (augurylaw04_ValueOrder.j0 k t411 true a0_0 a0_1 a0_2 a1_0 a1_1 a1_2) else ((value_Right.f a0_0 a0_1 a0_2).bind fun t412 => (if t412 = true then ((value_Right.f a1_0 a1_1 a1_2).bind fun t413 => (augurylaw04_ValueOrder.j0 k t411 (!t413) a0_0 a0_1 a0_2 a1_0 a1_1 a1_2)) else (augurylaw04_ValueOrder.j0 k t411 true a0_0 a0_1 a0_2 a1_0 a1_1 a1_2)))))) = some r := h
  clear h
  replace H := Option.bind_eq_some_iff.mp H
  obtain ⟨t411, A30, H⟩ := H
  replace H : (if (a0_2.size : Int) > 9000 then (augurylaw04_ValueOrder.j0 k t411 true a0_0 a0_1 a0_2 a1_0 a1_1 a1_2) else (if (a1_2.size : Int) > 9000 then (augurylaw04_ValueOrder.j0 k t411 true a0_0 a0_1 a0_2 a1_0 a1_1 a1_2) else ((value_Right.f a0_0 a0_1 a0_2).bind fun t412 => (if t412 = true then ((value_Right.f a1_0 a1_1 a1_2).bind fun t413 => (augurylaw04_ValueOrder.j0 k t411 (!t413) a0_0 a0_1 a0_2 a1_0 a1_1 a1_2)) else (augurylaw04_ValueOrder.j0 k t411 true a0_0 a0_1 a0_2 a1_0 a1_1 a1_2))))) = some r := H
  have A3 := Aside0.mk A30
  clear A30
  have HC4 := Aside0.mk H
  clear H
  go_enter Try.func6, Try.ntmps6
  go_upto_region 2 with (first | ((with_reducible refine gate_dst (N := 2) rfl ?_); (try (refine gate_guard (by rfl) ?_; dsimp only)); refine box_event ?hg (N := 2) ?hd (cs := #[.int .i64 a0_0, .int .i64 a0_1, .string a0_2]) (t := 23) ?hr ?_; (case hd => rfl); (case hg => rfl); (case hr => first | (go_simp; done) | (go_simp; rfl)); intro gb409 hg w5 hbox hb; have n0_ := Aside0.mk (below_step (by repeat (first | (with_reducible first | exact HB.out | apply below_alloc | apply pw_below_drewN | apply below_drew1) | exact HB.out)) hb); have n1_ := Aside0.mk (hbox); have n2_ := Aside0.mk ((by rw [hg]; exact (below_size (by repeat (first | (with_reducible first | exact HB.out | apply below_alloc | apply pw_below_drewN | apply below_drew1) | exact HB.out))) : w.heap.size ≤ gb409)); have n3_ := Aside0.mk ((by rw [hg]; exact (below_size (by repeat (first | (with_reducible first | exact HB.out | apply below_alloc | apply pw_below_drewN | apply below_drew1) | exact HB.out))) : w.heap.size ≤ gb409)); clear HB; have HB := n0_; have BK409 := n1_; have GW409 := n2_; have GE409 := n3_; clear n0_ n1_ n2_ n3_; clear hb hbox hg) | ((with_reducible refine gate_dst (N := 3) rfl ?_); (try (refine gate_guard (by rfl) ?_; dsimp only)); refine box_event ?hg (N := 3) ?hd (cs := #[.int .i64 a1_0, .int .i64 a1_1, .string a1_2]) (t := 23) ?hr ?_; (case hd => rfl); (case hg => rfl); (case hr => first | (go_simp; done) | (go_simp; rfl)); intro gb410 hg w6 hbox hb; have n0_ := Aside0.mk (blk_below (g := gb409) (o := .cells #[.int .i64 a0_0, .int .i64 a0_1, .string a0_2] 23 (0, 0)) (by (with_reducible repeat (first | refine blk_drewN ?_ _ | refine blk_drew ?_ | refine blk_alloc ?_ _)); exact BK409.out) hb); have n1_ := Aside0.mk (below_step (by repeat (first | (with_reducible first | exact HB.out | apply below_alloc | apply pw_below_drewN | apply below_drew1 | refine below_set ?_ GE409.out) | exact HB.out)) hb); have n2_ := Aside0.mk (hbox); have n3_ := Aside0.mk ((by rw [hg]; exact (below_size (by repeat (first | (with_reducible first | exact HB.out | apply below_alloc | apply pw_below_drewN | apply below_drew1 | refine below_set ?_ GE409.out) | exact HB.out))) : w.heap.size ≤ gb410)); have n4_ := Aside0.mk ((by rw [hg]; exact (below_size (by repeat (first | (with_reducible first | exact HB.out | apply below_alloc | apply pw_below_drewN | apply below_drew1 | refine below_set ?_ GE409.out) | exact HB.out))) : w.heap.size ≤ gb410)); have n5_ := Aside0.mk ((by rw [hg]; exact Nat.ne_of_lt (blk_lt (g := gb409) (o := .cells #[.int .i64 a0_0, .int .i64 a0_1, .string a0_2] 23 (0, 0)) (by (with_reducible repeat (first | refine blk_drewN ?_ _ | refine blk_drew ?_ | refine blk_alloc ?_ _)); exact BK409.out)) : gb409 ≠ gb410)); have n6_ := Aside0.mk ((by rw [hg]; exact Nat.ne_of_gt (blk_lt (g := gb409) (o := .cells #[.int .i64 a0_0, .int .i64 a0_1, .string a0_2] 23 (0, 0)) (by (with_reducible repeat (first | refine blk_drewN ?_ _ | refine blk_drew ?_ | refine blk_alloc ?_ _)); exact BK409.out)) : gb410 ≠ gb409)); clear BK409; clear HB; have BK409 := n0_; have HB := n1_; have BK410 := n2_; have GW410 := n3_; have GE410 := n4_; have NB409_410 := n5_; have NB410_409 := n6_; clear n0_ n1_ n2_ n3_ n4_ n5_ n6_; clear hb hbox hg) | ((with_reducible refine gate_callee (f := 9) rfl ?_); refine goesL_ (some 21) rfl rfl Try.func9 (by kernel_rfl) rfl #[] rfl (by (try simp only [List.map_toArray, List.map_cons, List.map_nil]); first | done | rfl | (simp only [List.length_drop, List.length_take]; rfl)) ?_; (with_reducible refine (augurylaw04_head.calls k  t411 _ A3.out).mono ?_); rintro e w7 ⟨rfl, hb⟩; refine ⟨_, rfl, ?_⟩; have n0_ := Aside0.mk (blk_below (g := gb409) (o := .cells #[.int .i64 a0_0, .int .i64 a0_1, .string a0_2] 23 (0, 0)) (by (with_reducible repeat (first | refine blk_drewN ?_ _ | refine blk_drew ?_ | refine blk_alloc ?_ _)); exact BK409.out) hb); have n1_ := Aside0.mk (blk_below (g := gb410) (o := .cells #[.int .i64 a1_0, .int .i64 a1_1, .string a1_2] 23 (0, 0)) (by (with_reducible repeat (first | refine blk_drewN ?_ _ | refine blk_drew ?_ | refine blk_alloc ?_ _)); exact BK410.out) hb); have n2_ := Aside0.mk (below_step (by repeat (first | (with_reducible first | exact HB.out | apply below_alloc | apply pw_below_drewN | apply below_drew1 | refine below_set ?_ GE409.out | refine below_set ?_ GE410.out) | exact HB.out)) hb); clear BK409; clear BK410; clear HB; have BK409 := n0_; have BK410 := n1_; have HB := n2_; clear n0_ n1_ n2_; (try clear hb); (try clear hb2); (try clear hk); (try clear hi)))
  (try simp only [Act.put, List.setIfInBounds_toArray, List.set_cons_zero, List.set_cons_succ])
  go_cut [41] (fun v41 wc => ∃ (kq : Nat) (x41_3 : Bool), v41 = .bool x41_3 ∧ Aside0 (augurylaw04_ValueOrder.j0 kq t411 x41_3 a0_0 a0_1 a0_2 a1_0 a1_1 a1_2 = some r) ∧ Aside0 (kq ≤ k) ∧ Aside0 (wc.heap[gb409]? = some (.cells #[.int .i64 a0_0, .int .i64 a0_1, .string a0_2] 23 (0, 0))) ∧ Aside0 (wc.heap[gb410]? = some (.cells #[.int .i64 a1_0, .int .i64 a1_1, .string a1_2] 23 (0, 0))) ∧ Aside0 (Below w.heap.size w wc))
  case first =>
    have H := HC4.out
    clear HC4
    by_cases c8 : (a0_2.size : Int) > 9000
    · rw [if_pos c8] at H
      have c8b0 : decide (9000 < (a0_2.size : Int)) = true := decide_eq_true c8
      have c8b1 : decide (9000 < a0_2.size) = true := decide_eq_true (by omega)
      clear c8
      (first | rw [c8b0] | (simp only [i64_w, i32_w]; rw [c8b0]) | skip)
      have H' := Aside0.mk H
      clear H
      have hnb9 := NB409_410.out
      have hnc9 := NB410_409.out
      have hcz10_0 : w7.cell? ⟨gb409, 0, none⟩ = some (.int .i64 a0_0) := (blk_cell BK409.out 0).trans rfl
      have hcz10_1 : w7.cell? ⟨gb409, 1, none⟩ = some (.int .i64 a0_1) := (blk_cell BK409.out 1).trans rfl
      have hcz10_2 : w7.cell? ⟨gb409, 2, none⟩ = some (.string a0_2) := (blk_cell BK409.out 2).trans rfl
      have hfz10_0 := blk_frozen BK409.out 0
      have hfz10_1 := blk_frozen BK409.out 1
      have hfz10_2 := blk_frozen BK409.out 2
      go_wp2
      go_meet
      case rel => exact ⟨_, (true), (by first | rfl | (simp; done) | (simp [*]; done) | grind), H', ⟨by first | omega | exact Nat.le_refl _⟩, ⟨by (with_reducible repeat (first | refine blk_drewN ?_ _ | refine blk_drew ?_ | refine blk_alloc ?_ _)); exact BK409.out⟩, ⟨by (with_reducible repeat (first | refine blk_drewN ?_ _ | refine blk_drew ?_ | refine blk_alloc ?_ _)); exact BK410.out⟩, ⟨by repeat (first | (with_reducible first | exact HB.out | apply below_alloc | apply pw_below_drewN | apply below_drew1 | refine below_set ?_ GE409.out | refine below_set ?_ GE410.out) | exact HB.out)⟩⟩
    · rw [if_neg c8] at H
      have c8b0 : decide (9000 < (a0_2.size : Int)) = false := decide_eq_false c8
      have c8b1 : decide (9000 < a0_2.size) = false := decide_eq_false (by omega)
      clear c8
      (first | rw [c8b0] | (simp only [i64_w, i32_w]; rw [c8b0]) | skip)
      by_cases c11 : (a1_2.size : Int) > 9000
      · rw [if_pos c11] at H
        have c11b0 : decide (9000 < (a1_2.size : Int)) = true := decide_eq_true c11
        have c11b1 : decide (9000 < a1_2.size) = true := decide_eq_true (by omega)
        clear c11
        have H' := Aside0.mk H
        clear H
        have hnb12 := NB409_410.out
        have hnc12 := NB410_409.out
        have hcz13_0 : w7.cell? ⟨gb409, 0, none⟩ = some (.int .i64 a0_0) := (blk_cell BK409.out 0).trans rfl
        have hcz13_1 : w7.cell? ⟨gb409, 1, none⟩ = some (.int .i64 a0_1) := (blk_cell BK409.out 1).trans rfl
        have hcz13_2 : w7.cell? ⟨gb409, 2, none⟩ = some (.string a0_2) := (blk_cell BK409.out 2).trans rfl
        have hfz13_0 := blk_frozen BK409.out 0
        have hfz13_1 := blk_frozen BK409.out 1
        have hfz13_2 := blk_frozen BK409.out 2
        have hcz14_0 : w7.cell? ⟨gb410, 0, none⟩ = some (.int .i64 a1_0) := (blk_cell BK410.out 0).trans rfl
        have hcz14_1 : w7.cell? ⟨gb410, 1, none⟩ = some (.int .i64 a1_1) := (blk_cell BK410.out 1).trans rfl
        have hcz14_2 : w7.cell? ⟨gb410, 2, none⟩ = some (.string a1_2) := (blk_cell BK410.out 2).trans rfl
        have hfz14_0 := blk_frozen BK410.out 0
        have hfz14_1 := blk_frozen BK410.out 1
        have hfz14_2 := blk_frozen BK410.out 2
        go_wp2
        go_meet
        case rel => exact ⟨_, (true), (by first | rfl | (simp; done) | (simp [*]; done) | grind), H', ⟨by first | omega | exact Nat.le_refl _⟩, ⟨by (with_reducible repeat (first | refine blk_drewN ?_ _ | refine blk_drew ?_ | refine blk_alloc ?_ _)); exact BK409.out⟩, ⟨by (with_reducible repeat (first | refine blk_drewN ?_ _ | refine blk_drew ?_ | refine blk_alloc ?_ _)); exact BK410.out⟩, ⟨by repeat (first | (with_reducible first | exact HB.out | apply below_alloc | apply pw_below_drewN | apply below_drew1 | refine below_set ?_ GE409.out | refine below_set ?_ GE410.out) | exact HB.out)⟩⟩
      · rw [if_neg c11] at H
        have c11b0 : decide (9000 < (a1_2.size : Int)) = false := decide_eq_false c11
        have c11b1 : decide (9000 < a1_2.size) = false := decide_eq_false (by omega)
        clear c11
        replace H := Option.bind_eq_some_iff.mp H
        obtain ⟨t412, A150, H⟩ := H
        replace H : (if t412 = true then ((value_Right.f a1_0 a1_1 a1_2).bind fun t413 => (augurylaw04_ValueOrder.j0 k t411 (!t413) a0_0 a0_1 a0_2 a1_0 a1_1 a1_2)) else (augurylaw04_ValueOrder.j0 k t411 true a0_0 a0_1 a0_2 a1_0 a1_1 a1_2)) = some r := H
        have A15 := Aside0.mk A150
        clear A150
        by_cases c16 : t412 = true
        · subst c16
          have H1 : ((value_Right.f a1_0 a1_1 a1_2).bind fun t413 => (augurylaw04_ValueOrder.j0 k t411 (!t413) a0_0 a0_1 a0_2 a1_0 a1_1 a1_2)) = some r := by rw [if_pos rfl] at H; exact H
          clear H
          have H := H1
          clear H1
          replace H := Option.bind_eq_some_iff.mp H
          obtain ⟨t413, A170, H⟩ := H
          replace H : (augurylaw04_ValueOrder.j0 k t411 (!t413) a0_0 a0_1 a0_2 a1_0 a1_1 a1_2) = some r := H
          have A17 := Aside0.mk A170
          clear A170
          have H' := Aside0.mk H
          clear H
          have hnb18 := NB409_410.out
          have hnc18 := NB410_409.out
          have hcz19_0 : w7.cell? ⟨gb409, 0, none⟩ = some (.int .i64 a0_0) := (blk_cell BK409.out 0).trans rfl
          have hcz19_1 : w7.cell? ⟨gb409, 1, none⟩ = some (.int .i64 a0_1) := (blk_cell BK409.out 1).trans rfl
          have hcz19_2 : w7.cell? ⟨gb409, 2, none⟩ = some (.string a0_2) := (blk_cell BK409.out 2).trans rfl
          have hfz19_0 := blk_frozen BK409.out 0
          have hfz19_1 := blk_frozen BK409.out 1
          have hfz19_2 := blk_frozen BK409.out 2
          have hcz20_0 : w7.cell? ⟨gb410, 0, none⟩ = some (.int .i64 a1_0) := (blk_cell BK410.out 0).trans rfl
          have hcz20_1 : w7.cell? ⟨gb410, 1, none⟩ = some (.int .i64 a1_1) := (blk_cell BK410.out 1).trans rfl
          have hcz20_2 : w7.cell? ⟨gb410, 2, none⟩ = some (.string a1_2) := (blk_cell BK410.out 2).trans rfl
          have hfz20_0 := blk_frozen BK410.out 0
          have hfz20_1 := blk_frozen BK410.out 1
          have hfz20_2 := blk_frozen BK410.out 2
          go_wp2_with (first | (go_at_call 16; (with_reducible refine (value_Right.calls a0_0 a0_1 a0_2 true _ A15.out).mono ?_); rintro e w21 ⟨rfl, hb⟩; have n0_ := Aside0.mk (blk_below (g := gb409) (o := .cells #[.int .i64 a0_0, .int .i64 a0_1, .string a0_2] 23 (0, 0)) (by (with_reducible repeat (first | refine blk_drewN ?_ _ | refine blk_drew ?_ | refine blk_alloc ?_ _)); exact BK409.out) hb); have n1_ := Aside0.mk (blk_below (g := gb410) (o := .cells #[.int .i64 a1_0, .int .i64 a1_1, .string a1_2] 23 (0, 0)) (by (with_reducible repeat (first | refine blk_drewN ?_ _ | refine blk_drew ?_ | refine blk_alloc ?_ _)); exact BK410.out) hb); have n2_ := Aside0.mk (below_step (by repeat (first | (with_reducible first | exact HB.out | apply below_alloc | apply pw_below_drewN | apply below_drew1 | refine below_set ?_ GE409.out | refine below_set ?_ GE410.out) | exact HB.out)) hb); clear BK409; clear BK410; clear HB; have BK409 := n0_; have BK410 := n1_; have HB := n2_; clear n0_ n1_ n2_; (try clear hb); (try clear hb2); (try clear hk); (try clear hi); have hcz22_0 : w21.cell? ⟨gb410, 0, none⟩ = some (.int .i64 a1_0) := (blk_cell BK410.out 0).trans rfl; have hcz22_1 : w21.cell? ⟨gb410, 1, none⟩ = some (.int .i64 a1_1) := (blk_cell BK410.out 1).trans rfl; have hcz22_2 : w21.cell? ⟨gb410, 2, none⟩ = some (.string a1_2) := (blk_cell BK410.out 2).trans rfl; have hfz22_0 := blk_frozen BK410.out 0; have hfz22_1 := blk_frozen BK410.out 1; have hfz22_2 := blk_frozen BK410.out 2) | (go_at_call 16; (with_reducible refine (value_Right.calls a1_0 a1_1 a1_2 t413 _ A17.out).mono ?_); rintro e w23 ⟨rfl, hb⟩; have n0_ := Aside0.mk (blk_below (g := gb409) (o := .cells #[.int .i64 a0_0, .int .i64 a0_1, .string a0_2] 23 (0, 0)) (by (with_reducible repeat (first | refine blk_drewN ?_ _ | refine blk_drew ?_ | refine blk_alloc ?_ _)); exact BK409.out) hb); have n1_ := Aside0.mk (blk_below (g := gb410) (o := .cells #[.int .i64 a1_0, .int .i64 a1_1, .string a1_2] 23 (0, 0)) (by (with_reducible repeat (first | refine blk_drewN ?_ _ | refine blk_drew ?_ | refine blk_alloc ?_ _)); exact BK410.out) hb); have n2_ := Aside0.mk (below_step (by repeat (first | (with_reducible first | exact HB.out | apply below_alloc | apply pw_below_drewN | apply below_drew1 | refine below_set ?_ GE409.out | refine below_set ?_ GE410.out) | exact HB.out)) hb); clear BK409; clear BK410; clear HB; have BK409 := n0_; have BK410 := n1_; have HB := n2_; clear n0_ n1_ n2_; (try clear hb); (try clear hb2); (try clear hk); (try clear hi)))
          go_meet
          case rel => exact ⟨_, (!t413), (by first | rfl | (simp; done) | (simp [*]; done) | grind), H', ⟨by first | omega | exact Nat.le_refl _⟩, ⟨by (with_reducible repeat (first | refine blk_drewN ?_ _ | refine blk_drew ?_ | refine blk_alloc ?_ _)); exact BK409.out⟩, ⟨by (with_reducible repeat (first | refine blk_drewN ?_ _ | refine blk_drew ?_ | refine blk_alloc ?_ _)); exact BK410.out⟩, ⟨by repeat (first | (with_reducible first | exact HB.out | apply below_alloc | apply pw_below_drewN | apply below_drew1 | refine below_set ?_ GE409.out | refine below_set ?_ GE410.out) | exact HB.out)⟩⟩
        · replace c16 := Bool.eq_false_iff.mpr c16
          subst c16
          have H1 : (augurylaw04_ValueOrder.j0 k t411 true a0_0 a0_1 a0_2 a1_0 a1_1 a1_2) = some r := by rw [if_neg (show ¬ (false = true) by decide)] at H; exact H
          clear H
          have H := H1
          clear H1
          have H' := Aside0.mk H
          clear H
          have hnb24 := NB409_410.out
          have hnc24 := NB410_409.out
          have hcz25_0 : w7.cell? ⟨gb409, 0, none⟩ = some (.int .i64 a0_0) := (blk_cell BK409.out 0).trans rfl
          have hcz25_1 : w7.cell? ⟨gb409, 1, none⟩ = some (.int .i64 a0_1) := (blk_cell BK409.out 1).trans rfl
          have hcz25_2 : w7.cell? ⟨gb409, 2, none⟩ = some (.string a0_2) := (blk_cell BK409.out 2).trans rfl
          have hfz25_0 := blk_frozen BK409.out 0
          have hfz25_1 := blk_frozen BK409.out 1
          have hfz25_2 := blk_frozen BK409.out 2
          have hcz26_0 : w7.cell? ⟨gb410, 0, none⟩ = some (.int .i64 a1_0) := (blk_cell BK410.out 0).trans rfl
          have hcz26_1 : w7.cell? ⟨gb410, 1, none⟩ = some (.int .i64 a1_1) := (blk_cell BK410.out 1).trans rfl
          have hcz26_2 : w7.cell? ⟨gb410, 2, none⟩ = some (.string a1_2) := (blk_cell BK410.out 2).trans rfl
          have hfz26_0 := blk_frozen BK410.out 0
          have hfz26_1 := blk_frozen BK410.out 1
          have hfz26_2 := blk_frozen BK410.out 2
          go_wp2_with (first | (go_at_call 16; (with_reducible refine (value_Right.calls a0_0 a0_1 a0_2 false _ A15.out).mono ?_); rintro e w27 ⟨rfl, hb⟩; have n0_ := Aside0.mk (blk_below (g := gb409) (o := .cells #[.int .i64 a0_0, .int .i64 a0_1, .string a0_2] 23 (0, 0)) (by (with_reducible repeat (first | refine blk_drewN ?_ _ | refine blk_drew ?_ | refine blk_alloc ?_ _)); exact BK409.out) hb); have n1_ := Aside0.mk (blk_below (g := gb410) (o := .cells #[.int .i64 a1_0, .int .i64 a1_1, .string a1_2] 23 (0, 0)) (by (with_reducible repeat (first | refine blk_drewN ?_ _ | refine blk_drew ?_ | refine blk_alloc ?_ _)); exact BK410.out) hb); have n2_ := Aside0.mk (below_step (by repeat (first | (with_reducible first | exact HB.out | apply below_alloc | apply pw_below_drewN | apply below_drew1 | refine below_set ?_ GE409.out | refine below_set ?_ GE410.out) | exact HB.out)) hb); clear BK409; clear BK410; clear HB; have BK409 := n0_; have BK410 := n1_; have HB := n2_; clear n0_ n1_ n2_; (try clear hb); (try clear hb2); (try clear hk); (try clear hi)))
          go_meet
          case rel => exact ⟨_, (true), (by first | rfl | (simp; done) | (simp [*]; done) | grind), H', ⟨by first | omega | exact Nat.le_refl _⟩, ⟨by (with_reducible repeat (first | refine blk_drewN ?_ _ | refine blk_drew ?_ | refine blk_alloc ?_ _)); exact BK409.out⟩, ⟨by (with_reducible repeat (first | refine blk_drewN ?_ _ | refine blk_drew ?_ | refine blk_alloc ?_ _)); exact BK410.out⟩, ⟨by repeat (first | (with_reducible first | exact HB.out | apply below_alloc | apply pw_below_drewN | apply below_drew1 | refine below_set ?_ GE409.out | refine below_set ?_ GE410.out) | exact HB.out)⟩⟩
  case rest =>
    clear HC4
    try clear c1
    try clear c2
    try clear p2
    try clear c6
    try clear c8
    try clear c8b0
    try clear c8b1
    try clear c9
    try clear c11
    try clear c11b0
    try clear c11b1
    try clear c12
    try clear c16
    try clear c18
    try clear c24
    try clear hcz10_0
    try clear hcz10_1
    try clear hcz10_2
    try clear hcz13_0
    try clear hcz13_1
    try clear hcz13_2
    try clear hcz14_0
    try clear hcz14_1
    try clear hcz14_2
    try clear hcz19_0
    try clear hcz19_1
    try clear hcz19_2
    try clear hcz20_0
    try clear hcz20_1
    try clear hcz20_2
    try clear hcz22_0
    try clear hcz22_1
    try clear hcz22_2
    try clear hcz25_0
    try clear hcz25_1
    try clear hcz25_2
    try clear hcz26_0
    try clear hcz26_1
    try clear hcz26_2
    try clear hfz10_0
    try clear hfz10_1
    try clear hfz10_2
    try clear hfz13_0
    try clear hfz13_1
    try clear hfz13_2
    try clear hfz14_0
    try clear hfz14_1
    try clear hfz14_2
    try clear hfz19_0
    try clear hfz19_1
    try clear hfz19_2
    try clear hfz20_0
    try clear hfz20_1
    try clear hfz20_2
    try clear hfz22_0
    try clear hfz22_1
    try clear hfz22_2
    try clear hfz25_0
    try clear hfz25_1
    try clear hfz25_2
    try clear hfz26_0
    try clear hfz26_1
    try clear hfz26_2
    obtain ⟨kq, x41_3, rfl, HA, HJ3, BK409, BK410, HB⟩ := hcut
    cases kq with
    | zero => exact absurd HA.out (by simp [augurylaw04_ValueOrder.j0])
    | succ kj3 =>
      have H := HA.out
      clear HA
      simp only [augurylaw04_ValueOrder.j0] at H
      by_cases c28 : x41_3 = true
      · subst c28
        have H1 : (if t411 = true then (some true) else (none)) = some r := by rw [if_pos rfl] at H; exact H
        clear H
        have H := H1
        clear H1
        by_cases c29 : t411 = true
        · subst c29
          have H1 : (some true) = some r := by rw [if_pos rfl] at H; exact H
          clear H
          have H := H1
          clear H1
          obtain rfl := Option.some.inj H
          go_wp2
          go_ret
          exact ⟨by first | rfl | (simp [errW_none, errW_some] <;> rfl) | (simp [*, errW_none, errW_some] <;> rfl), by repeat (first | (with_reducible first | exact HB.out | apply below_alloc | apply pw_below_drewN | apply below_drew1 | refine below_set ?_ GE409.out | refine below_set ?_ GE410.out) | exact HB.out)⟩
        · replace c29 := Bool.eq_false_iff.mpr c29
          subst c29
          have H1 : (none) = some r := by rw [if_neg (show ¬ (false = true) by decide)] at H; exact H
          clear H
          have H := H1
          clear H1
          exact absurd H (by simp)
      · replace c28 := Bool.eq_false_iff.mpr c28
        subst c28
        have H1 : ((value_Compare.f 1 a0_0 a0_1 a0_2 a1_0 a1_1 a1_2).bind fun bt414 => ((value_Compare.f 2 a0_0 a0_1 a0_2 a1_0 a1_1 a1_2).bind fun bt416 => (if a0_0 = a1_0 then ((value_Compare.f 3 a0_0 a0_1 a0_2 a1_0 a1_1 a1_2).bind fun bt418 => ((value_Compare.f 4 a0_0 a0_1 a0_2 a1_0 a1_1 a1_2).bind fun bt420 => ((value_Compare.f 5 a0_0 a0_1 a0_2 a1_0 a1_1 a1_2).bind fun bt422 => ((value_Compare.f 6 a0_0 a0_1 a0_2 a1_0 a1_1 a1_2).bind fun bt424 => ((value_Compare.f 5 a1_0 a1_1 a1_2 a0_0 a0_1 a0_2).bind fun bt426 => (if bt414.2 = 0 then (if bt416.2 = 0 then (if (bt414.1 == bt416.1) = true then (augurylaw04_ValueOrder.j1 kj3 t411 bt414.1 bt418.1 bt418.2 bt420.1 bt420.2 bt422.1 bt422.2 bt424.1 bt424.2 bt426.1 bt426.2 true a0_0 a0_1 a0_2) else (augurylaw04_ValueOrder.j1 kj3 t411 bt414.1 bt418.1 bt418.2 bt420.1 bt420.2 bt422.1 bt422.2 bt424.1 bt424.2 bt426.1 bt426.2 (bt414.1 != (a0_0 == a1_0 && (a0_1 == a1_1 && (a0_2.toList == a1_2.toList)))) a0_0 a0_1 a0_2)) else (augurylaw04_ValueOrder.j1 kj3 t411 bt414.1 bt418.1 bt418.2 bt420.1 bt420.2 bt422.1 bt422.2 bt424.1 bt424.2 bt426.1 bt426.2 true a0_0 a0_1 a0_2)) else (augurylaw04_ValueOrder.j1 kj3 t411 bt414.1 bt418.1 bt418.2 bt420.1 bt420.2 bt422.1 bt422.2 bt424.1 bt424.2 bt426.1 bt426.2 true a0_0 a0_1 a0_2))))))) else (if t411 = true then (if bt414.2 = 42 then (if bt416.2 = 42 then (if bt414.1 = true then (none) else (if bt416.1 = true then (none) else (some true))) else (none)) else (none)) else (none))))) = some r := by rw [if_neg (show ¬ (false = true) by decide)] at H; exact H
        clear H
        have H := H1
        clear H1
        replace H := Option.bind_eq_some_iff.mp H
        obtain ⟨⟨t414, t415⟩, A300, H⟩ := H
        replace H : ((value_Compare.f 2 a0_0 a0_1 a0_2 a1_0 a1_1 a1_2).bind fun bt416 => (if a0_0 = a1_0 then ((value_Compare.f 3 a0_0 a0_1 a0_2 a1_0 a1_1 a1_2).bind fun bt418 => ((value_Compare.f 4 a0_0 a0_1 a0_2 a1_0 a1_1 a1_2).bind fun bt420 => ((value_Compare.f 5 a0_0 a0_1 a0_2 a1_0 a1_1 a1_2).bind fun bt422 => ((value_Compare.f 6 a0_0 a0_1 a0_2 a1_0 a1_1 a1_2).bind fun bt424 => ((value_Compare.f 5 a1_0 a1_1 a1_2 a0_0 a0_1 a0_2).bind fun bt426 => (if t415 = 0 then (if bt416.2 = 0 then (if (t414 == bt416.1) = true then (augurylaw04_ValueOrder.j1 kj3 t411 t414 bt418.1 bt418.2 bt420.1 bt420.2 bt422.1 bt422.2 bt424.1 bt424.2 bt426.1 bt426.2 true a0_0 a0_1 a0_2) else (augurylaw04_ValueOrder.j1 kj3 t411 t414 bt418.1 bt418.2 bt420.1 bt420.2 bt422.1 bt422.2 bt424.1 bt424.2 bt426.1 bt426.2 (t414 != (a0_0 == a1_0 && (a0_1 == a1_1 && (a0_2.toList == a1_2.toList)))) a0_0 a0_1 a0_2)) else (augurylaw04_ValueOrder.j1 kj3 t411 t414 bt418.1 bt418.2 bt420.1 bt420.2 bt422.1 bt422.2 bt424.1 bt424.2 bt426.1 bt426.2 true a0_0 a0_1 a0_2)) else (augurylaw04_ValueOrder.j1 kj3 t411 t414 bt418.1 bt418.2 bt420.1 bt420.2 bt422.1 bt422.2 bt424.1 bt424.2 bt426.1 bt426.2 true a0_0 a0_1 a0_2))))))) else (if t411 = true then (if t415 = 42 then (if bt416.2 = 42 then (if t414 = true then (none) else (if bt416.1 = true then (none) else (some true))) else (none)) else (none)) else (none)))) = some r := H
        have A30 := Aside0.mk A300
        clear A300
        replace H := Option.bind_eq_some_iff.mp H
        obtain ⟨⟨t416, t417⟩, A310, H⟩ := H
        replace H : (if a0_0 = a1_0 then ((value_Compare.f 3 a0_0 a0_1 a0_2 a1_0 a1_1 a1_2).bind fun bt418 => ((value_Compare.f 4 a0_0 a0_1 a0_2 a1_0 a1_1 a1_2).bind fun bt420 => ((value_Compare.f 5 a0_0 a0_1 a0_2 a1_0 a1_1 a1_2).bind fun bt422 => ((value_Compare.f 6 a0_0 a0_1 a0_2 a1_0 a1_1 a1_2).bind fun bt424 => ((value_Compare.f 5 a1_0 a1_1 a1_2 a0_0 a0_1 a0_2).bind fun bt426 => (if t415 = 0 then (if t417 = 0 then (if (t414 == t416) = true then (augurylaw04_ValueOrder.j1 kj3 t411 t414 bt418.1 bt418.2 bt420.1 bt420.2 bt422.1 bt422.2 bt424.1 bt424.2 bt426.1 bt426.2 true a0_0 a0_1 a0_2) else (augurylaw04_ValueOrder.j1 kj3 t411 t414 bt418.1 bt418.2 bt420.1 bt420.2 bt422.1 bt422.2 bt424.1 bt424.2 bt426.1 bt426.2 (t414 != (a0_0 == a1_0 && (a0_1 == a1_1 && (a0_2.toList == a1_2.toList)))) a0_0 a0_1 a0_2)) else (augurylaw04_ValueOrder.j1 kj3 t411 t414 bt418.1 bt418.2 bt420.1 bt420.2 bt422.1 bt422.2 bt424.1 bt424.2 bt426.1 bt426.2 true a0_0 a0_1 a0_2)) else (augurylaw04_ValueOrder.j1 kj3 t411 t414 bt418.1 bt418.2 bt420.1 bt420.2 bt422.1 bt422.2 bt424.1 bt424.2 bt426.1 bt426.2 true a0_0 a0_1 a0_2))))))) else (if t411 = true then (if t415 = 42 then (if t417 = 42 then (if t414 = true then (none) else (if t416 = true then (none) else (some true))) else (none)) else (none)) else (none))) = some r := H
        have A31 := Aside0.mk A310
        clear A310
        by_cases c32 : a0_0 = a1_0
        · rw [if_pos c32] at H
          have c32b0 : (a0_0 == a1_0) = true := beq_iff_eq.mpr c32
          have c32b1 : (a0_0 != a1_0) = false := bne_eq_false_iff_eq.mpr c32
          clear c32
          replace H := Option.bind_eq_some_iff.mp H
          obtain ⟨⟨t418, t419⟩, A330, H⟩ := H
          replace H : ((value_Compare.f 4 a0_0 a0_1 a0_2 a1_0 a1_1 a1_2).bind fun bt420 => ((value_Compare.f 5 a0_0 a0_1 a0_2 a1_0 a1_1 a1_2).bind fun bt422 => ((value_Compare.f 6 a0_0 a0_1 a0_2 a1_0 a1_1 a1_2).bind fun bt424 => ((value_Compare.f 5 a1_0 a1_1 a1_2 a0_0 a0_1 a0_2).bind fun bt426 => (if t415 = 0 then (if t417 = 0 then (if (t414 == t416) = true then (augurylaw04_ValueOrder.j1 kj3 t411 t414 t418 t419 bt420.1 bt420.2 bt422.1 bt422.2 bt424.1 bt424.2 bt426.1 bt426.2 true a0_0 a0_1 a0_2) else (augurylaw04_ValueOrder.j1 kj3 t411 t414 t418 t419 bt420.1 bt420.2 bt422.1 bt422.2 bt424.1 bt424.2 bt426.1 bt426.2 (t414 != (a0_0 == a1_0 && (a0_1 == a1_1 && (a0_2.toList == a1_2.toList)))) a0_0 a0_1 a0_2)) else (augurylaw04_ValueOrder.j1 kj3 t411 t414 t418 t419 bt420.1 bt420.2 bt422.1 bt422.2 bt424.1 bt424.2 bt426.1 bt426.2 true a0_0 a0_1 a0_2)) else (augurylaw04_ValueOrder.j1 kj3 t411 t414 t418 t419 bt420.1 bt420.2 bt422.1 bt422.2 bt424.1 bt424.2 bt426.1 bt426.2 true a0_0 a0_1 a0_2)))))) = some r := H
          have A33 := Aside0.mk A330
          clear A330
          replace H := Option.bind_eq_some_iff.mp H
          obtain ⟨⟨t420, t421⟩, A340, H⟩ := H
          replace H : ((value_Compare.f 5 a0_0 a0_1 a0_2 a1_0 a1_1 a1_2).bind fun bt422 => ((value_Compare.f 6 a0_0 a0_1 a0_2 a1_0 a1_1 a1_2).bind fun bt424 => ((value_Compare.f 5 a1_0 a1_1 a1_2 a0_0 a0_1 a0_2).bind fun bt426 => (if t415 = 0 then (if t417 = 0 then (if (t414 == t416) = true then (augurylaw04_ValueOrder.j1 kj3 t411 t414 t418 t419 t420 t421 bt422.1 bt422.2 bt424.1 bt424.2 bt426.1 bt426.2 true a0_0 a0_1 a0_2) else (augurylaw04_ValueOrder.j1 kj3 t411 t414 t418 t419 t420 t421 bt422.1 bt422.2 bt424.1 bt424.2 bt426.1 bt426.2 (t414 != (a0_0 == a1_0 && (a0_1 == a1_1 && (a0_2.toList == a1_2.toList)))) a0_0 a0_1 a0_2)) else (augurylaw04_ValueOrder.j1 kj3 t411 t414 t418 t419 t420 t421 bt422.1 bt422.2 bt424.1 bt424.2 bt426.1 bt426.2 true a0_0 a0_1 a0_2)) else (augurylaw04_ValueOrder.j1 kj3 t411 t414 t418 t419 t420 t421 bt422.1 bt422.2 bt424.1 bt424.2 bt426.1 bt426.2 true a0_0 a0_1 a0_2))))) = some r := H
          have A34 := Aside0.mk A340
          clear A340
          replace H := Option.bind_eq_some_iff.mp H
          obtain ⟨⟨t422, t423⟩, A350, H⟩ := H
          replace H : ((value_Compare.f 6 a0_0 a0_1 a0_2 a1_0 a1_1 a1_2).bind fun bt424 => ((value_Compare.f 5 a1_0 a1_1 a1_2 a0_0 a0_1 a0_2).bind fun bt426 => (if t415 = 0 then (if t417 = 0 then (if (t414 == t416) = true then (augurylaw04_ValueOrder.j1 kj3 t411 t414 t418 t419 t420 t421 t422 t423 bt424.1 bt424.2 bt426.1 bt426.2 true a0_0 a0_1 a0_2) else (augurylaw04_ValueOrder.j1 kj3 t411 t414 t418 t419 t420 t421 t422 t423 bt424.1 bt424.2 bt426.1 bt426.2 (t414 != (a0_0 == a1_0 && (a0_1 == a1_1 && (a0_2.toList == a1_2.toList)))) a0_0 a0_1 a0_2)) else (augurylaw04_ValueOrder.j1 kj3 t411 t414 t418 t419 t420 t421 t422 t423 bt424.1 bt424.2 bt426.1 bt426.2 true a0_0 a0_1 a0_2)) else (augurylaw04_ValueOrder.j1 kj3 t411 t414 t418 t419 t420 t421 t422 t423 bt424.1 bt424.2 bt426.1 bt426.2 true a0_0 a0_1 a0_2)))) = some r := H
          have A35 := Aside0.mk A350
          clear A350
          replace H := Option.bind_eq_some_iff.mp H
          obtain ⟨⟨t424, t425⟩, A360, H⟩ := H
          replace H : ((value_Compare.f 5 a1_0 a1_1 a1_2 a0_0 a0_1 a0_2).bind fun bt426 => (if t415 = 0 then (if t417 = 0 then (if (t414 == t416) = true then (augurylaw04_ValueOrder.j1 kj3 t411 t414 t418 t419 t420 t421 t422 t423 t424 t425 bt426.1 bt426.2 true a0_0 a0_1 a0_2) else (augurylaw04_ValueOrder.j1 kj3 t411 t414 t418 t419 t420 t421 t422 t423 t424 t425 bt426.1 bt426.2 (t414 != (a0_0 == a1_0 && (a0_1 == a1_1 && (a0_2.toList == a1_2.toList)))) a0_0 a0_1 a0_2)) else (augurylaw04_ValueOrder.j1 kj3 t411 t414 t418 t419 t420 t421 t422 t423 t424 t425 bt426.1 bt426.2 true a0_0 a0_1 a0_2)) else (augurylaw04_ValueOrder.j1 kj3 t411 t414 t418 t419 t420 t421 t422 t423 t424 t425 bt426.1 bt426.2 true a0_0 a0_1 a0_2))) = some r := H
          have A36 := Aside0.mk A360
          clear A360
          replace H := Option.bind_eq_some_iff.mp H
          obtain ⟨⟨t426, t427⟩, A370, H⟩ := H
          replace H : (if t415 = 0 then (if t417 = 0 then (if (t414 == t416) = true then (augurylaw04_ValueOrder.j1 kj3 t411 t414 t418 t419 t420 t421 t422 t423 t424 t425 t426 t427 true a0_0 a0_1 a0_2) else (augurylaw04_ValueOrder.j1 kj3 t411 t414 t418 t419 t420 t421 t422 t423 t424 t425 t426 t427 (t414 != (a0_0 == a1_0 && (a0_1 == a1_1 && (a0_2.toList == a1_2.toList)))) a0_0 a0_1 a0_2)) else (augurylaw04_ValueOrder.j1 kj3 t411 t414 t418 t419 t420 t421 t422 t423 t424 t425 t426 t427 true a0_0 a0_1 a0_2)) else (augurylaw04_ValueOrder.j1 kj3 t411 t414 t418 t419 t420 t421 t422 t423 t424 t425 t426 t427 true a0_0 a0_1 a0_2)) = some r := H
          have A37 := Aside0.mk A370
          clear A370
          have HC38 := Aside0.mk H
          clear H
          have hnb39 := NB409_410.out
          have hnc39 := NB410_409.out
          have hcz40_0 : wc.cell? ⟨gb409, 0, none⟩ = some (.int .i64 a0_0) := (blk_cell BK409.out 0).trans rfl
          have hcz40_1 : wc.cell? ⟨gb409, 1, none⟩ = some (.int .i64 a0_1) := (blk_cell BK409.out 1).trans rfl
          have hcz40_2 : wc.cell? ⟨gb409, 2, none⟩ = some (.string a0_2) := (blk_cell BK409.out 2).trans rfl
          have hfz40_0 := blk_frozen BK409.out 0
          have hfz40_1 := blk_frozen BK409.out 1
          have hfz40_2 := blk_frozen BK409.out 2
          have hcz41_0 : wc.cell? ⟨gb410, 0, none⟩ = some (.int .i64 a1_0) := (blk_cell BK410.out 0).trans rfl
          have hcz41_1 : wc.cell? ⟨gb410, 1, none⟩ = some (.int .i64 a1_1) := (blk_cell BK410.out 1).trans rfl
          have hcz41_2 : wc.cell? ⟨gb410, 2, none⟩ = some (.string a1_2) := (blk_cell BK410.out 2).trans rfl
          have hfz41_0 := blk_frozen BK410.out 0
          have hfz41_1 := blk_frozen BK410.out 1
          have hfz41_2 := blk_frozen BK410.out 2
          go_upto_region 13 with (first | ((with_reducible refine gate_callee (f := 14) rfl ?_); refine goesL_ (some 46) rfl rfl Try.func14 (by kernel_rfl) rfl #[.int .i64 1, .agg #[.int .i64 a0_0, .int .i64 a0_1, .string a0_2], .agg #[.int .i64 a1_0, .int .i64 a1_1, .string a1_2]] rfl (by (try simp only [List.map_toArray, List.map_cons, List.map_nil]); first | done | rfl | (simp only [List.length_drop, List.length_take]; rfl)) ?_; (with_reducible refine (value_Compare.calls 1 a0_0 a0_1 a0_2 a1_0 a1_1 a1_2 t414 t415 _ A30.out).mono ?_); rintro e w42 ⟨rfl, hb⟩; refine ⟨_, rfl, ?_⟩; have n0_ := Aside0.mk (blk_below (g := gb409) (o := .cells #[.int .i64 a0_0, .int .i64 a0_1, .string a0_2] 23 (0, 0)) (by (with_reducible repeat (first | refine blk_drewN ?_ _ | refine blk_drew ?_ | refine blk_alloc ?_ _)); exact BK409.out) hb); have n1_ := Aside0.mk (blk_below (g := gb410) (o := .cells #[.int .i64 a1_0, .int .i64 a1_1, .string a1_2] 23 (0, 0)) (by (with_reducible repeat (first | refine blk_drewN ?_ _ | refine blk_drew ?_ | refine blk_alloc ?_ _)); exact BK410.out) hb); have n2_ := Aside0.mk (below_step (by repeat (first | (with_reducible first | exact HB.out | apply below_alloc | apply pw_below_drewN | apply below_drew1 | refine below_set ?_ GE409.out | refine below_set ?_ GE410.out) | exact HB.out)) hb); clear BK409; clear BK410; clear HB; have BK409 := n0_; have BK410 := n1_; have HB := n2_; clear n0_ n1_ n2_; (try clear hb); (try clear hb2); (try clear hk); (try clear hi); have hcz43_0 : w42.cell? ⟨gb409, 0, none⟩ = some (.int .i64 a0_0) := (blk_cell BK409.out 0).trans rfl; have hcz43_1 : w42.cell? ⟨gb409, 1, none⟩ = some (.int .i64 a0_1) := (blk_cell BK409.out 1).trans rfl; have hcz43_2 : w42.cell? ⟨gb409, 2, none⟩ = some (.string a0_2) := (blk_cell BK409.out 2).trans rfl; have hfz43_0 := blk_frozen BK409.out 0; have hfz43_1 := blk_frozen BK409.out 1; have hfz43_2 := blk_frozen BK409.out 2; have hcz44_0 : w42.cell? ⟨gb410, 0, none⟩ = some (.int .i64 a1_0) := (blk_cell BK410.out 0).trans rfl; have hcz44_1 : w42.cell? ⟨gb410, 1, none⟩ = some (.int .i64 a1_1) := (blk_cell BK410.out 1).trans rfl; have hcz44_2 : w42.cell? ⟨gb410, 2, none⟩ = some (.string a1_2) := (blk_cell BK410.out 2).trans rfl; have hfz44_0 := blk_frozen BK410.out 0; have hfz44_1 := blk_frozen BK410.out 1; have hfz44_2 := blk_frozen BK410.out 2) | ((with_reducible refine gate_callee (f := 14) rfl ?_); refine goesL_ (some 52) rfl rfl Try.func14 (by kernel_rfl) rfl #[.int .i64 2, .agg #[.int .i64 a0_0, .int .i64 a0_1, .string a0_2], .agg #[.int .i64 a1_0, .int .i64 a1_1, .string a1_2]] rfl (by (try simp only [List.map_toArray, List.map_cons, List.map_nil]); first | done | rfl | (simp only [List.length_drop, List.length_take]; rfl)) ?_; (with_reducible refine (value_Compare.calls 2 a0_0 a0_1 a0_2 a1_0 a1_1 a1_2 t416 t417 _ A31.out).mono ?_); rintro e w45 ⟨rfl, hb⟩; refine ⟨_, rfl, ?_⟩; have n0_ := Aside0.mk (blk_below (g := gb409) (o := .cells #[.int .i64 a0_0, .int .i64 a0_1, .string a0_2] 23 (0, 0)) (by (with_reducible repeat (first | refine blk_drewN ?_ _ | refine blk_drew ?_ | refine blk_alloc ?_ _)); exact BK409.out) hb); have n1_ := Aside0.mk (blk_below (g := gb410) (o := .cells #[.int .i64 a1_0, .int .i64 a1_1, .string a1_2] 23 (0, 0)) (by (with_reducible repeat (first | refine blk_drewN ?_ _ | refine blk_drew ?_ | refine blk_alloc ?_ _)); exact BK410.out) hb); have n2_ := Aside0.mk (below_step (by repeat (first | (with_reducible first | exact HB.out | apply below_alloc | apply pw_below_drewN | apply below_drew1 | refine below_set ?_ GE409.out | refine below_set ?_ GE410.out) | exact HB.out)) hb); clear BK409; clear BK410; clear HB; have BK409 := n0_; have BK410 := n1_; have HB := n2_; clear n0_ n1_ n2_; (try clear hb); (try clear hb2); (try clear hk); (try clear hi); have hcz46_0 : w45.cell? ⟨gb409, 0, none⟩ = some (.int .i64 a0_0) := (blk_cell BK409.out 0).trans rfl; have hcz46_1 : w45.cell? ⟨gb409, 1, none⟩ = some (.int .i64 a0_1) := (blk_cell BK409.out 1).trans rfl; have hcz46_2 : w45.cell? ⟨gb409, 2, none⟩ = some (.string a0_2) := (blk_cell BK409.out 2).trans rfl; have hfz46_0 := blk_frozen BK409.out 0; have hfz46_1 := blk_frozen BK409.out 1; have hfz46_2 := blk_frozen BK409.out 2; have hcz47_0 : w45.cell? ⟨gb410, 0, none⟩ = some (.int .i64 a1_0) := (blk_cell BK410.out 0).trans rfl; have hcz47_1 : w45.cell? ⟨gb410, 1, none⟩ = some (.int .i64 a1_1) := (blk_cell BK410.out 1).trans rfl; have hcz47_2 : w45.cell? ⟨gb410, 2, none⟩ = some (.string a1_2) := (blk_cell BK410.out 2).trans rfl; have hfz47_0 := blk_frozen BK410.out 0; have hfz47_1 := blk_frozen BK410.out 1; have hfz47_2 := blk_frozen BK410.out 2) | ((with_reducible refine gate_callee (f := 14) rfl ?_); refine goesL_ (some 80) rfl rfl Try.func14 (by kernel_rfl) rfl #[.int .i64 3, .agg #[.int .i64 a0_0, .int .i64 a0_1, .string a0_2], .agg #[.int .i64 a1_0, .int .i64 a1_1, .string a1_2]] rfl (by (try simp only [List.map_toArray, List.map_cons, List.map_nil]); first | done | rfl | (simp only [List.length_drop, List.length_take]; rfl)) ?_; (with_reducible refine (value_Compare.calls 3 a0_0 a0_1 a0_2 a1_0 a1_1 a1_2 t418 t419 _ A33.out).mono ?_); rintro e w48 ⟨rfl, hb⟩; refine ⟨_, rfl, ?_⟩; have n0_ := Aside0.mk (blk_below (g := gb409) (o := .cells #[.int .i64 a0_0, .int .i64 a0_1, .string a0_2] 23 (0, 0)) (by (with_reducible repeat (first | refine blk_drewN ?_ _ | refine blk_drew ?_ | refine blk_alloc ?_ _)); exact BK409.out) hb); have n1_ := Aside0.mk (blk_below (g := gb410) (o := .cells #[.int .i64 a1_0, .int .i64 a1_1, .string a1_2] 23 (0, 0)) (by (with_reducible repeat (first | refine blk_drewN ?_ _ | refine blk_drew ?_ | refine blk_alloc ?_ _)); exact BK410.out) hb); have n2_ := Aside0.mk (below_step (by repeat (first | (with_reducible first | exact HB.out | apply below_alloc | apply pw_below_drewN | apply below_drew1 | refine below_set ?_ GE409.out | refine below_set ?_ GE410.out) | exact HB.out)) hb); clear BK409; clear BK410; clear HB; have BK409 := n0_; have BK410 := n1_; have HB := n2_; clear n0_ n1_ n2_; (try clear hb); (try clear hb2); (try clear hk); (try clear hi); have hcz49_0 : w48.cell? ⟨gb409, 0, none⟩ = some (.int .i64 a0_0) := (blk_cell BK409.out 0).trans rfl; have hcz49_1 : w48.cell? ⟨gb409, 1, none⟩ = some (.int .i64 a0_1) := (blk_cell BK409.out 1).trans rfl; have hcz49_2 : w48.cell? ⟨gb409, 2, none⟩ = some (.string a0_2) := (blk_cell BK409.out 2).trans rfl; have hfz49_0 := blk_frozen BK409.out 0; have hfz49_1 := blk_frozen BK409.out 1; have hfz49_2 := blk_frozen BK409.out 2; have hcz50_0 : w48.cell? ⟨gb410, 0, none⟩ = some (.int .i64 a1_0) := (blk_cell BK410.out 0).trans rfl; have hcz50_1 : w48.cell? ⟨gb410, 1, none⟩ = some (.int .i64 a1_1) := (blk_cell BK410.out 1).trans rfl; have hcz50_2 : w48.cell? ⟨gb410, 2, none⟩ = some (.string a1_2) := (blk_cell BK410.out 2).trans rfl; have hfz50_0 := blk_frozen BK410.out 0; have hfz50_1 := blk_frozen BK410.out 1; have hfz50_2 := blk_frozen BK410.out 2) | ((with_reducible refine gate_callee (f := 14) rfl ?_); refine goesL_ (some 86) rfl rfl Try.func14 (by kernel_rfl) rfl #[.int .i64 4, .agg #[.int .i64 a0_0, .int .i64 a0_1, .string a0_2], .agg #[.int .i64 a1_0, .int .i64 a1_1, .string a1_2]] rfl (by (try simp only [List.map_toArray, List.map_cons, List.map_nil]); first | done | rfl | (simp only [List.length_drop, List.length_take]; rfl)) ?_; (with_reducible refine (value_Compare.calls 4 a0_0 a0_1 a0_2 a1_0 a1_1 a1_2 t420 t421 _ A34.out).mono ?_); rintro e w51 ⟨rfl, hb⟩; refine ⟨_, rfl, ?_⟩; have n0_ := Aside0.mk (blk_below (g := gb409) (o := .cells #[.int .i64 a0_0, .int .i64 a0_1, .string a0_2] 23 (0, 0)) (by (with_reducible repeat (first | refine blk_drewN ?_ _ | refine blk_drew ?_ | refine blk_alloc ?_ _)); exact BK409.out) hb); have n1_ := Aside0.mk (blk_below (g := gb410) (o := .cells #[.int .i64 a1_0, .int .i64 a1_1, .string a1_2] 23 (0, 0)) (by (with_reducible repeat (first | refine blk_drewN ?_ _ | refine blk_drew ?_ | refine blk_alloc ?_ _)); exact BK410.out) hb); have n2_ := Aside0.mk (below_step (by repeat (first | (with_reducible first | exact HB.out | apply below_alloc | apply pw_below_drewN | apply below_drew1 | refine below_set ?_ GE409.out | refine below_set ?_ GE410.out) | exact HB.out)) hb); clear BK409; clear BK410; clear HB; have BK409 := n0_; have BK410 := n1_; have HB := n2_; clear n0_ n1_ n2_; (try clear hb); (try clear hb2); (try clear hk); (try clear hi); have hcz52_0 : w51.cell? ⟨gb409, 0, none⟩ = some (.int .i64 a0_0) := (blk_cell BK409.out 0).trans rfl; have hcz52_1 : w51.cell? ⟨gb409, 1, none⟩ = some (.int .i64 a0_1) := (blk_cell BK409.out 1).trans rfl; have hcz52_2 : w51.cell? ⟨gb409, 2, none⟩ = some (.string a0_2) := (blk_cell BK409.out 2).trans rfl; have hfz52_0 := blk_frozen BK409.out 0; have hfz52_1 := blk_frozen BK409.out 1; have hfz52_2 := blk_frozen BK409.out 2; have hcz53_0 : w51.cell? ⟨gb410, 0, none⟩ = some (.int .i64 a1_0) := (blk_cell BK410.out 0).trans rfl; have hcz53_1 : w51.cell? ⟨gb410, 1, none⟩ = some (.int .i64 a1_1) := (blk_cell BK410.out 1).trans rfl; have hcz53_2 : w51.cell? ⟨gb410, 2, none⟩ = some (.string a1_2) := (blk_cell BK410.out 2).trans rfl; have hfz53_0 := blk_frozen BK410.out 0; have hfz53_1 := blk_frozen BK410.out 1; have hfz53_2 := blk_frozen BK410.out 2) | ((with_reducible refine gate_callee (f := 14) rfl ?_); refine goesL_ (some 92) rfl rfl Try.func14 (by kernel_rfl) rfl #[.int .i64 5, .agg #[.int .i64 a0_0, .int .i64 a0_1, .string a0_2], .agg #[.int .i64 a1_0, .int .i64 a1_1, .string a1_2]] rfl (by (try simp only [List.map_toArray, List.map_cons, List.map_nil]); first | done | rfl | (simp only [List.length_drop, List.length_take]; rfl)) ?_; (with_reducible refine (value_Compare.calls 5 a0_0 a0_1 a0_2 a1_0 a1_1 a1_2 t422 t423 _ A35.out).mono ?_); rintro e w54 ⟨rfl, hb⟩; refine ⟨_, rfl, ?_⟩; have n0_ := Aside0.mk (blk_below (g := gb409) (o := .cells #[.int .i64 a0_0, .int .i64 a0_1, .string a0_2] 23 (0, 0)) (by (with_reducible repeat (first | refine blk_drewN ?_ _ | refine blk_drew ?_ | refine blk_alloc ?_ _)); exact BK409.out) hb); have n1_ := Aside0.mk (blk_below (g := gb410) (o := .cells #[.int .i64 a1_0, .int .i64 a1_1, .string a1_2] 23 (0, 0)) (by (with_reducible repeat (first | refine blk_drewN ?_ _ | refine blk_drew ?_ | refine blk_alloc ?_ _)); exact BK410.out) hb); have n2_ := Aside0.mk (below_step (by repeat (first | (with_reducible first | exact HB.out | apply below_alloc | apply pw_below_drewN | apply below_drew1 | refine below_set ?_ GE409.out | refine below_set ?_ GE410.out) | exact HB.out)) hb); clear BK409; clear BK410; clear HB; have BK409 := n0_; have BK410 := n1_; have HB := n2_; clear n0_ n1_ n2_; (try clear hb); (try clear hb2); (try clear hk); (try clear hi); have hcz55_0 : w54.cell? ⟨gb409, 0, none⟩ = some (.int .i64 a0_0) := (blk_cell BK409.out 0).trans rfl; have hcz55_1 : w54.cell? ⟨gb409, 1, none⟩ = some (.int .i64 a0_1) := (blk_cell BK409.out 1).trans rfl; have hcz55_2 : w54.cell? ⟨gb409, 2, none⟩ = some (.string a0_2) := (blk_cell BK409.out 2).trans rfl; have hfz55_0 := blk_frozen BK409.out 0; have hfz55_1 := blk_frozen BK409.out 1; have hfz55_2 := blk_frozen BK409.out 2; have hcz56_0 : w54.cell? ⟨gb410, 0, none⟩ = some (.int .i64 a1_0) := (blk_cell BK410.out 0).trans rfl; have hcz56_1 : w54.cell? ⟨gb410, 1, none⟩ = some (.int .i64 a1_1) := (blk_cell BK410.out 1).trans rfl; have hcz56_2 : w54.cell? ⟨gb410, 2, none⟩ = some (.string a1_2) := (blk_cell BK410.out 2).trans rfl; have hfz56_0 := blk_frozen BK410.out 0; have hfz56_1 := blk_frozen BK410.out 1; have hfz56_2 := blk_frozen BK410.out 2) | ((with_reducible refine gate_callee (f := 14) rfl ?_); refine goesL_ (some 98) rfl rfl Try.func14 (by kernel_rfl) rfl #[.int .i64 6, .agg #[.int .i64 a0_0, .int .i64 a0_1, .string a0_2], .agg #[.int .i64 a1_0, .int .i64 a1_1, .string a1_2]] rfl (by (try simp only [List.map_toArray, List.map_cons, List.map_nil]); first | done | rfl | (simp only [List.length_drop, List.length_take]; rfl)) ?_; (with_reducible refine (value_Compare.calls 6 a0_0 a0_1 a0_2 a1_0 a1_1 a1_2 t424 t425 _ A36.out).mono ?_); rintro e w57 ⟨rfl, hb⟩; refine ⟨_, rfl, ?_⟩; have n0_ := Aside0.mk (blk_below (g := gb409) (o := .cells #[.int .i64 a0_0, .int .i64 a0_1, .string a0_2] 23 (0, 0)) (by (with_reducible repeat (first | refine blk_drewN ?_ _ | refine blk_drew ?_ | refine blk_alloc ?_ _)); exact BK409.out) hb); have n1_ := Aside0.mk (blk_below (g := gb410) (o := .cells #[.int .i64 a1_0, .int .i64 a1_1, .string a1_2] 23 (0, 0)) (by (with_reducible repeat (first | refine blk_drewN ?_ _ | refine blk_drew ?_ | refine blk_alloc ?_ _)); exact BK410.out) hb); have n2_ := Aside0.mk (below_step (by repeat (first | (with_reducible first | exact HB.out | apply below_alloc | apply pw_below_drewN | apply below_drew1 | refine below_set ?_ GE409.out | refine below_set ?_ GE410.out) | exact HB.out)) hb); clear BK409; clear BK410; clear HB; have BK409 := n0_; have BK410 := n1_; have HB := n2_; clear n0_ n1_ n2_; (try clear hb); (try clear hb2); (try clear hk); (try clear hi); have hcz58_0 : w57.cell? ⟨gb410, 0, none⟩ = some (.int .i64 a1_0) := (blk_cell BK410.out 0).trans rfl; have hcz58_1 : w57.cell? ⟨gb410, 1, none⟩ = some (.int .i64 a1_1) := (blk_cell BK410.out 1).trans rfl; have hcz58_2 : w57.cell? ⟨gb410, 2, none⟩ = some (.string a1_2) := (blk_cell BK410.out 2).trans rfl; have hfz58_0 := blk_frozen BK410.out 0; have hfz58_1 := blk_frozen BK410.out 1; have hfz58_2 := blk_frozen BK410.out 2; have hcz59_0 : w57.cell? ⟨gb409, 0, none⟩ = some (.int .i64 a0_0) := (blk_cell BK409.out 0).trans rfl; have hcz59_1 : w57.cell? ⟨gb409, 1, none⟩ = some (.int .i64 a0_1) := (blk_cell BK409.out 1).trans rfl; have hcz59_2 : w57.cell? ⟨gb409, 2, none⟩ = some (.string a0_2) := (blk_cell BK409.out 2).trans rfl; have hfz59_0 := blk_frozen BK409.out 0; have hfz59_1 := blk_frozen BK409.out 1; have hfz59_2 := blk_frozen BK409.out 2) | ((with_reducible refine gate_callee (f := 14) rfl ?_); refine goesL_ (some 104) rfl rfl Try.func14 (by kernel_rfl) rfl #[.int .i64 5, .agg #[.int .i64 a1_0, .int .i64 a1_1, .string a1_2], .agg #[.int .i64 a0_0, .int .i64 a0_1, .string a0_2]] rfl (by (try simp only [List.map_toArray, List.map_cons, List.map_nil]); first | done | rfl | (simp only [List.length_drop, List.length_take]; rfl)) ?_; (with_reducible refine (value_Compare.calls 5 a1_0 a1_1 a1_2 a0_0 a0_1 a0_2 t426 t427 _ A37.out).mono ?_); rintro e w60 ⟨rfl, hb⟩; refine ⟨_, rfl, ?_⟩; have n0_ := Aside0.mk (blk_below (g := gb409) (o := .cells #[.int .i64 a0_0, .int .i64 a0_1, .string a0_2] 23 (0, 0)) (by (with_reducible repeat (first | refine blk_drewN ?_ _ | refine blk_drew ?_ | refine blk_alloc ?_ _)); exact BK409.out) hb); have n1_ := Aside0.mk (blk_below (g := gb410) (o := .cells #[.int .i64 a1_0, .int .i64 a1_1, .string a1_2] 23 (0, 0)) (by (with_reducible repeat (first | refine blk_drewN ?_ _ | refine blk_drew ?_ | refine blk_alloc ?_ _)); exact BK410.out) hb); have n2_ := Aside0.mk (below_step (by repeat (first | (with_reducible first | exact HB.out | apply below_alloc | apply pw_below_drewN | apply below_drew1 | refine below_set ?_ GE409.out | refine below_set ?_ GE410.out) | exact HB.out)) hb); clear BK409; clear BK410; clear HB; have BK409 := n0_; have BK410 := n1_; have HB := n2_; clear n0_ n1_ n2_; (try clear hb); (try clear hb2); (try clear hk); (try clear hi)))
          (try simp only [Act.put, List.setIfInBounds_toArray, List.set_cons_zero, List.set_cons_succ])
          go_cut [124] (fun v124 wc => ∃ (kq : Nat) (x124_37 : Bool), v124 = .bool x124_37 ∧ Aside0 (augurylaw04_ValueOrder.j1 kq t411 t414 t418 t419 t420 t421 t422 t423 t424 t425 t426 t427 x124_37 a0_0 a0_1 a0_2 = some r) ∧ Aside0 (kq ≤ kj3) ∧ Aside0 (wc.heap[gb409]? = some (.cells #[.int .i64 a0_0, .int .i64 a0_1, .string a0_2] 23 (0, 0))) ∧ Aside0 (wc.heap[gb410]? = some (.cells #[.int .i64 a1_0, .int .i64 a1_1, .string a1_2] 23 (0, 0))) ∧ Aside0 (Below w.heap.size w wc))
          case first =>
            have H := HC38.out
            clear HC38
            by_cases c61 : t415 = 0
            · rw [if_pos c61] at H
              have c61b0 : (t415 == 0) = true := beq_iff_eq.mpr c61
              have c61b1 : (t415 != 0) = false := bne_eq_false_iff_eq.mpr c61
              clear c61
              (first | rw [c61b0] | (simp only [i64_w, i32_w]; rw [c61b0]) | skip)
              by_cases c62 : t417 = 0
              · rw [if_pos c62] at H
                have c62b0 : (t417 == 0) = true := beq_iff_eq.mpr c62
                have c62b1 : (t417 != 0) = false := bne_eq_false_iff_eq.mpr c62
                clear c62
                by_cases c63 : (t414 == t416) = true
                · rw [if_pos c63] at H
                  have c63b0 : (t414 == t416) = true := c63
                  (try (have c63b1 : decide (t414 = t416) = true := by simpa using c63))
                  (try (have c63b2 : (t414 == t416) = true := by simpa using c63))
                  clear c63
                  have H' := Aside0.mk H
                  clear H
                  go_wp2
                  go_meet
                  case rel => exact ⟨_, (true), (by first | rfl | (simp; done) | (simp [*]; done) | grind), H', ⟨by have := HJ3.out; first | omega | exact Nat.le_refl _⟩, ⟨by (with_reducible repeat (first | refine blk_drewN ?_ _ | refine blk_drew ?_ | refine blk_alloc ?_ _)); exact BK409.out⟩, ⟨by (with_reducible repeat (first | refine blk_drewN ?_ _ | refine blk_drew ?_ | refine blk_alloc ?_ _)); exact BK410.out⟩, ⟨by repeat (first | (with_reducible first | exact HB.out | apply below_alloc | apply pw_below_drewN | apply below_drew1 | refine below_set ?_ GE409.out | refine below_set ?_ GE410.out) | exact HB.out)⟩⟩
                · rw [if_neg c63] at H
                  have c63b0 : (t414 == t416) = false := by simpa using c63
                  (try (have c63b1 : decide (t414 = t416) = false := by simpa using c63))
                  (try (have c63b2 : (t414 == t416) = false := by simpa using c63))
                  (try (have c63b3 : ¬ (t414 = t416) := by simpa using c63))
                  clear c63
                  have H' := Aside0.mk H
                  clear H
                  have hnb64 := NB409_410.out
                  have hnc64 := NB410_409.out
                  have hcz65_0 : w60.cell? ⟨gb409, 0, none⟩ = some (.int .i64 a0_0) := (blk_cell BK409.out 0).trans rfl
                  have hcz65_1 : w60.cell? ⟨gb409, 1, none⟩ = some (.int .i64 a0_1) := (blk_cell BK409.out 1).trans rfl
                  have hcz65_2 : w60.cell? ⟨gb409, 2, none⟩ = some (.string a0_2) := (blk_cell BK409.out 2).trans rfl
                  have hfz65_0 := blk_frozen BK409.out 0
                  have hfz65_1 := blk_frozen BK409.out 1
                  have hfz65_2 := blk_frozen BK409.out 2
                  have hcz66_0 : w60.cell? ⟨gb410, 0, none⟩ = some (.int .i64 a1_0) := (blk_cell BK410.out 0).trans rfl
                  have hcz66_1 : w60.cell? ⟨gb410, 1, none⟩ = some (.int .i64 a1_1) := (blk_cell BK410.out 1).trans rfl
                  have hcz66_2 : w60.cell? ⟨gb410, 2, none⟩ = some (.string a1_2) := (blk_cell BK410.out 2).trans rfl
                  have hfz66_0 := blk_frozen BK410.out 0
                  have hfz66_1 := blk_frozen BK410.out 1
                  have hfz66_2 := blk_frozen BK410.out 2
                  go_wp2
                  go_meet
                  case rel => exact ⟨_, ((t414 != (a0_0 == a1_0 && (a0_1 == a1_1 && (a0_2.toList == a1_2.toList))))), (by first | rfl | (simp; done) | (simp [*]; done) | grind), H', ⟨by have := HJ3.out; first | omega | exact Nat.le_refl _⟩, ⟨by (with_reducible repeat (first | refine blk_drewN ?_ _ | refine blk_drew ?_ | refine blk_alloc ?_ _)); exact BK409.out⟩, ⟨by (with_reducible repeat (first | refine blk_drewN ?_ _ | refine blk_drew ?_ | refine blk_alloc ?_ _)); exact BK410.out⟩, ⟨by repeat (first | (with_reducible first | exact HB.out | apply below_alloc | apply pw_below_drewN | apply below_drew1 | refine below_set ?_ GE409.out | refine below_set ?_ GE410.out) | exact HB.out)⟩⟩
              · rw [if_neg c62] at H
                have c62b0 : (t417 == 0) = false := beq_eq_false_iff_ne.mpr c62
                have c62b1 : (t417 != 0) = true := bne_iff_ne.mpr c62
                have H' := Aside0.mk H
                clear H
                go_wp2
                go_meet
                case rel => exact ⟨_, (true), (by first | rfl | (simp; done) | (simp [*]; done) | grind), H', ⟨by have := HJ3.out; first | omega | exact Nat.le_refl _⟩, ⟨by (with_reducible repeat (first | refine blk_drewN ?_ _ | refine blk_drew ?_ | refine blk_alloc ?_ _)); exact BK409.out⟩, ⟨by (with_reducible repeat (first | refine blk_drewN ?_ _ | refine blk_drew ?_ | refine blk_alloc ?_ _)); exact BK410.out⟩, ⟨by repeat (first | (with_reducible first | exact HB.out | apply below_alloc | apply pw_below_drewN | apply below_drew1 | refine below_set ?_ GE409.out | refine below_set ?_ GE410.out) | exact HB.out)⟩⟩
            · rw [if_neg c61] at H
              have c61b0 : (t415 == 0) = false := beq_eq_false_iff_ne.mpr c61
              have c61b1 : (t415 != 0) = true := bne_iff_ne.mpr c61
              (first | rw [c61b0] | (simp only [i64_w, i32_w]; rw [c61b0]) | skip)
              have H' := Aside0.mk H
              clear H
              go_wp2
              go_meet
              case rel => exact ⟨_, (true), (by first | rfl | (simp; done) | (simp [*]; done) | grind), H', ⟨by have := HJ3.out; first | omega | exact Nat.le_refl _⟩, ⟨by (with_reducible repeat (first | refine blk_drewN ?_ _ | refine blk_drew ?_ | refine blk_alloc ?_ _)); exact BK409.out⟩, ⟨by (with_reducible repeat (first | refine blk_drewN ?_ _ | refine blk_drew ?_ | refine blk_alloc ?_ _)); exact BK410.out⟩, ⟨by repeat (first | (with_reducible first | exact HB.out | apply below_alloc | apply pw_below_drewN | apply below_drew1 | refine below_set ?_ GE409.out | refine below_set ?_ GE410.out) | exact HB.out)⟩⟩
          case rest =>
            clear HC38
            try clear c1
            try clear c2
            try clear p2
            try clear c3
            try clear c6
            try clear c8
            try clear c8b0
            try clear c8b1
            try clear c9
            try clear c11
            try clear c11b0
            try clear c11b1
            try clear c12
            try clear c14
            try clear c16
            try clear c18
            try clear c24
            try clear c28
            try clear c29
            try clear c32
            try clear c32b0
            try clear c32b1
            try clear c39
            try clear c61
            try clear c61b0
            try clear c61b1
            try clear c62
            try clear c62b0
            try clear c62b1
            try clear c63
            try clear c63b0
            try clear c63b1
            try clear c63b2
            try clear c64
            try clear hcz10_0
            try clear hcz10_1
            try clear hcz10_2
            try clear hcz13_0
            try clear hcz13_1
            try clear hcz13_2
            try clear hcz14_0
            try clear hcz14_1
            try clear hcz14_2
            try clear hcz19_0
            try clear hcz19_1
            try clear hcz19_2
            try clear hcz20_0
            try clear hcz20_1
            try clear hcz20_2
            try clear hcz22_0
            try clear hcz22_1
            try clear hcz22_2
            try clear hcz25_0
            try clear hcz25_1
            try clear hcz25_2
            try clear hcz26_0
            try clear hcz26_1
            try clear hcz26_2
            try clear hcz40_0
            try clear hcz40_1
            try clear hcz40_2
            try clear hcz41_0
            try clear hcz41_1
            try clear hcz41_2
            try clear hcz43_0
            try clear hcz43_1
            try clear hcz43_2
            try clear hcz44_0
            try clear hcz44_1
            try clear hcz44_2
            try clear hcz46_0
            try clear hcz46_1
            try clear hcz46_2
            try clear hcz47_0
            try clear hcz47_1
            try clear hcz47_2
            try clear hcz49_0
            try clear hcz49_1
            try clear hcz49_2
            try clear hcz50_0
            try clear hcz50_1
            try clear hcz50_2
            try clear hcz52_0
            try clear hcz52_1
            try clear hcz52_2
            try clear hcz53_0
            try clear hcz53_1
            try clear hcz53_2
            try clear hcz55_0
            try clear hcz55_1
            try clear hcz55_2
            try clear hcz56_0
            try clear hcz56_1
            try clear hcz56_2
            try clear hcz58_0
            try clear hcz58_1
            try clear hcz58_2
            try clear hcz59_0
            try clear hcz59_1
            try clear hcz59_2
            try clear hcz65_0
            try clear hcz65_1
            try clear hcz65_2
            try clear hcz66_0
            try clear hcz66_1
            try clear hcz66_2
            try clear hfz10_0
            try clear hfz10_1
            try clear hfz10_2
            try clear hfz13_0
            try clear hfz13_1
            try clear hfz13_2
            try clear hfz14_0
            try clear hfz14_1
            try clear hfz14_2
            try clear hfz19_0
            try clear hfz19_1
            try clear hfz19_2
            try clear hfz20_0
            try clear hfz20_1
            try clear hfz20_2
            try clear hfz22_0
            try clear hfz22_1
            try clear hfz22_2
            try clear hfz25_0
            try clear hfz25_1
            try clear hfz25_2
            try clear hfz26_0
            try clear hfz26_1
            try clear hfz26_2
            try clear hfz40_0
            try clear hfz40_1
            try clear hfz40_2
            try clear hfz41_0
            try clear hfz41_1
            try clear hfz41_2
            try clear hfz43_0
            try clear hfz43_1
            try clear hfz43_2
            try clear hfz44_0
            try clear hfz44_1
            try clear hfz44_2
            try clear hfz46_0
            try clear hfz46_1
            try clear hfz46_2
            try clear hfz47_0
            try clear hfz47_1
            try clear hfz47_2
            try clear hfz49_0
            try clear hfz49_1
            try clear hfz49_2
            try clear hfz50_0
            try clear hfz50_1
            try clear hfz50_2
            try clear hfz52_0
            try clear hfz52_1
            try clear hfz52_2
            try clear hfz53_0
            try clear hfz53_1
            try clear hfz53_2
            try clear hfz55_0
            try clear hfz55_1
            try clear hfz55_2
            try clear hfz56_0
            try clear hfz56_1
            try clear hfz56_2
            try clear hfz58_0
            try clear hfz58_1
            try clear hfz58_2
            try clear hfz59_0
            try clear hfz59_1
            try clear hfz59_2
            try clear hfz65_0
            try clear hfz65_1
            try clear hfz65_2
            try clear hfz66_0
            try clear hfz66_1
            try clear hfz66_2
            try clear p2
            obtain ⟨kq, x124_37, rfl, HA, HJ37, BK409, BK410, HB⟩ := hcut
            cases kq with
            | zero => exact absurd HA.out (by simp [augurylaw04_ValueOrder.j1])
            | succ kj37 =>
              have H := HA.out
              clear HA
              simp only [augurylaw04_ValueOrder.j1] at H
              by_cases c67 : x124_37 = true
              · subst c67
                have H1 : (none) = some r := by rw [if_pos rfl] at H; exact H
                clear H
                have H := H1
                clear H1
                exact absurd H (by simp)
              · replace c67 := Bool.eq_false_iff.mpr c67
                subst c67
                have H1 : (if a0_0 = 3 then (if t411 = true then (if t419 = 42 then (if t421 = t419 then (if t423 = t419 then (if t425 = t419 then (if t427 = t419 then (some true) else (none)) else (none)) else (none)) else (none)) else (none)) else (none)) else (if t418 = true then (augurylaw04_ValueOrder.j2 kj37 t411 t414 t418 t419 t420 t421 t422 t423 t424 t425 t426 t427 (0 + 1)) else (augurylaw04_ValueOrder.j2 kj37 t411 t414 t418 t419 t420 t421 t422 t423 t424 t425 t426 t427 0))) = some r := by rw [if_neg (show ¬ (false = true) by decide)] at H; exact H
                clear H
                have H := H1
                clear H1
                by_cases c68 : a0_0 = 3
                · rw [if_pos c68] at H
                  have c68b0 : (a0_0 == 3) = true := beq_iff_eq.mpr c68
                  have c68b1 : (a0_0 != 3) = false := bne_eq_false_iff_eq.mpr c68
                  clear c68
                  by_cases c69 : t411 = true
                  · subst c69
                    have H1 : (if t419 = 42 then (if t421 = t419 then (if t423 = t419 then (if t425 = t419 then (if t427 = t419 then (some true) else (none)) else (none)) else (none)) else (none)) else (none)) = some r := by rw [if_pos rfl] at H; exact H
                    clear H
                    have H := H1
                    clear H1
                    by_cases c70 : t419 = 42
                    · rw [if_pos c70] at H
                      have c70b0 : (t419 == 42) = true := beq_iff_eq.mpr c70
                      have c70b1 : (t419 != 42) = false := bne_eq_false_iff_eq.mpr c70
                      clear c70
                      by_cases c71 : t421 = t419
                      · rw [if_pos c71] at H
                        have c71b0 : (t421 == t419) = true := beq_iff_eq.mpr c71
                        have c71b1 : (t421 != t419) = false := bne_eq_false_iff_eq.mpr c71
                        clear c71
                        by_cases c72 : t423 = t419
                        · rw [if_pos c72] at H
                          have c72b0 : (t423 == t419) = true := beq_iff_eq.mpr c72
                          have c72b1 : (t423 != t419) = false := bne_eq_false_iff_eq.mpr c72
                          clear c72
                          by_cases c73 : t425 = t419
                          · rw [if_pos c73] at H
                            have c73b0 : (t425 == t419) = true := beq_iff_eq.mpr c73
                            have c73b1 : (t425 != t419) = false := bne_eq_false_iff_eq.mpr c73
                            clear c73
                            by_cases c74 : t427 = t419
                            · rw [if_pos c74] at H
                              have c74b0 : (t427 == t419) = true := beq_iff_eq.mpr c74
                              have c74b1 : (t427 != t419) = false := bne_eq_false_iff_eq.mpr c74
                              clear c74
                              obtain rfl := Option.some.inj H
                              have hnb75 := NB409_410.out
                              have hnc75 := NB410_409.out
                              have hcz76_0 : wc.cell? ⟨gb409, 0, none⟩ = some (.int .i64 a0_0) := (blk_cell BK409.out 0).trans rfl
                              have hcz76_1 : wc.cell? ⟨gb409, 1, none⟩ = some (.int .i64 a0_1) := (blk_cell BK409.out 1).trans rfl
                              have hcz76_2 : wc.cell? ⟨gb409, 2, none⟩ = some (.string a0_2) := (blk_cell BK409.out 2).trans rfl
                              have hfz76_0 := blk_frozen BK409.out 0
                              have hfz76_1 := blk_frozen BK409.out 1
                              have hfz76_2 := blk_frozen BK409.out 2
                              go_wp2
                              go_ret
                              exact ⟨by first | rfl | (simp [errW_none, errW_some] <;> rfl) | (simp [*, errW_none, errW_some] <;> rfl), by repeat (first | (with_reducible first | exact HB.out | apply below_alloc | apply pw_below_drewN | apply below_drew1 | refine below_set ?_ GE409.out | refine below_set ?_ GE410.out) | exact HB.out)⟩
                            · rw [if_neg c74] at H
                              exact absurd H (by simp)
                          · rw [if_neg c73] at H
                            exact absurd H (by simp)
                        · rw [if_neg c72] at H
                          exact absurd H (by simp)
                      · rw [if_neg c71] at H
                        exact absurd H (by simp)
                    · rw [if_neg c70] at H
                      exact absurd H (by simp)
                  · replace c69 := Bool.eq_false_iff.mpr c69
                    subst c69
                    have H1 : (none) = some r := by rw [if_neg (show ¬ (false = true) by decide)] at H; exact H
                    clear H
                    have H := H1
                    clear H1
                    exact absurd H (by simp)
                · rw [if_neg c68] at H
                  have c68b0 : (a0_0 == 3) = false := beq_eq_false_iff_ne.mpr c68
                  have c68b1 : (a0_0 != 3) = true := bne_iff_ne.mpr c68
                  have HC77 := Aside0.mk H
                  clear H
                  have hnb78 := NB409_410.out
                  have hnc78 := NB410_409.out
                  have hcz79_0 : wc.cell? ⟨gb409, 0, none⟩ = some (.int .i64 a0_0) := (blk_cell BK409.out 0).trans rfl
                  have hcz79_1 : wc.cell? ⟨gb409, 1, none⟩ = some (.int .i64 a0_1) := (blk_cell BK409.out 1).trans rfl
                  have hcz79_2 : wc.cell? ⟨gb409, 2, none⟩ = some (.string a0_2) := (blk_cell BK409.out 2).trans rfl
                  have hfz79_0 := blk_frozen BK409.out 0
                  have hfz79_1 := blk_frozen BK409.out 1
                  have hfz79_2 := blk_frozen BK409.out 2
                  go_upto_if 153 with (fail)
                  go_cut [20] (fun v20 wc => ∃ (kq : Nat) (x20_76 : Int), v20 = .int .i64 x20_76 ∧ Aside0 (augurylaw04_ValueOrder.j2 kq t411 t414 t418 t419 t420 t421 t422 t423 t424 t425 t426 t427 x20_76 = some r) ∧ Aside0 (kq ≤ kj37) ∧ Aside0 (wc.heap[gb409]? = some (.cells #[.int .i64 a0_0, .int .i64 a0_1, .string a0_2] 23 (0, 0))) ∧ Aside0 (wc.heap[gb410]? = some (.cells #[.int .i64 a1_0, .int .i64 a1_1, .string a1_2] 23 (0, 0))) ∧ Aside0 (Below w.heap.size w wc))
                  case first =>
                    have H := HC77.out
                    clear HC77
                    by_cases c80 : t418 = true
                    · subst c80
                      have H1 : (augurylaw04_ValueOrder.j2 kj37 t411 t414 true t419 t420 t421 t422 t423 t424 t425 t426 t427 (0 + 1)) = some r := by rw [if_pos rfl] at H; exact H
                      clear H
                      have H := H1
                      clear H1
                      have H' := Aside0.mk H
                      clear H
                      go_wp2
                      go_meet
                      case rel => exact ⟨_, (0 + 1), (by first | rfl | (simp; done) | (simp [*]; done) | grind), H', ⟨by have := HJ3.out; have := HJ37.out; first | omega | exact Nat.le_refl _⟩, ⟨by (with_reducible repeat (first | refine blk_drewN ?_ _ | refine blk_drew ?_ | refine blk_alloc ?_ _)); exact BK409.out⟩, ⟨by (with_reducible repeat (first | refine blk_drewN ?_ _ | refine blk_drew ?_ | refine blk_alloc ?_ _)); exact BK410.out⟩, ⟨by repeat (first | (with_reducible first | exact HB.out | apply below_alloc | apply pw_below_drewN | apply below_drew1 | refine below_set ?_ GE409.out | refine below_set ?_ GE410.out) | exact HB.out)⟩⟩
                    · replace c80 := Bool.eq_false_iff.mpr c80
                      subst c80
                      have H1 : (augurylaw04_ValueOrder.j2 kj37 t411 t414 false t419 t420 t421 t422 t423 t424 t425 t426 t427 0) = some r := by rw [if_neg (show ¬ (false = true) by decide)] at H; exact H
                      clear H
                      have H := H1
                      clear H1
                      have H' := Aside0.mk H
                      clear H
                      go_wp2
                      go_meet
                      case rel => exact ⟨_, (0), (by first | rfl | (simp; done) | (simp [*]; done) | grind), H', ⟨by have := HJ3.out; have := HJ37.out; first | omega | exact Nat.le_refl _⟩, ⟨by (with_reducible repeat (first | refine blk_drewN ?_ _ | refine blk_drew ?_ | refine blk_alloc ?_ _)); exact BK409.out⟩, ⟨by (with_reducible repeat (first | refine blk_drewN ?_ _ | refine blk_drew ?_ | refine blk_alloc ?_ _)); exact BK410.out⟩, ⟨by repeat (first | (with_reducible first | exact HB.out | apply below_alloc | apply pw_below_drewN | apply below_drew1 | refine below_set ?_ GE409.out | refine below_set ?_ GE410.out) | exact HB.out)⟩⟩
                  case rest =>
                    clear HC77
                    try clear c1
                    try clear c2
                    try clear p2
                    try clear c3
                    try clear c6
                    try clear c7
                    try clear c8
                    try clear c8b0
                    try clear c8b1
                    try clear c9
                    try clear c11
                    try clear c11b0
                    try clear c11b1
                    try clear c12
                    try clear c14
                    try clear c16
                    try clear c18
                    try clear c24
                    try clear c28
                    try clear c29
                    try clear c32
                    try clear c32b0
                    try clear c32b1
                    try clear c39
                    try clear c61
                    try clear c61b0
                    try clear c61b1
                    try clear c62
                    try clear c62b0
                    try clear c62b1
                    try clear c63
                    try clear c63b0
                    try clear c63b1
                    try clear c63b2
                    try clear c64
                    try clear c67
                    try clear c68
                    try clear c68b0
                    try clear c68b1
                    try clear c69
                    try clear c70
                    try clear c70b0
                    try clear c70b1
                    try clear c71
                    try clear c71b0
                    try clear c71b1
                    try clear c72
                    try clear c72b0
                    try clear c72b1
                    try clear c73
                    try clear c73b0
                    try clear c73b1
                    try clear c74
                    try clear c74b0
                    try clear c74b1
                    try clear c75
                    try clear c78
                    try clear c80
                    try clear hcz10_0
                    try clear hcz10_1
                    try clear hcz10_2
                    try clear hcz13_0
                    try clear hcz13_1
                    try clear hcz13_2
                    try clear hcz14_0
                    try clear hcz14_1
                    try clear hcz14_2
                    try clear hcz19_0
                    try clear hcz19_1
                    try clear hcz19_2
                    try clear hcz20_0
                    try clear hcz20_1
                    try clear hcz20_2
                    try clear hcz22_0
                    try clear hcz22_1
                    try clear hcz22_2
                    try clear hcz25_0
                    try clear hcz25_1
                    try clear hcz25_2
                    try clear hcz26_0
                    try clear hcz26_1
                    try clear hcz26_2
                    try clear hcz40_0
                    try clear hcz40_1
                    try clear hcz40_2
                    try clear hcz41_0
                    try clear hcz41_1
                    try clear hcz41_2
                    try clear hcz43_0
                    try clear hcz43_1
                    try clear hcz43_2
                    try clear hcz44_0
                    try clear hcz44_1
                    try clear hcz44_2
                    try clear hcz46_0
                    try clear hcz46_1
                    try clear hcz46_2
                    try clear hcz47_0
                    try clear hcz47_1
                    try clear hcz47_2
                    try clear hcz49_0
                    try clear hcz49_1
                    try clear hcz49_2
                    try clear hcz50_0
                    try clear hcz50_1
                    try clear hcz50_2
                    try clear hcz52_0
                    try clear hcz52_1
                    try clear hcz52_2
                    try clear hcz53_0
                    try clear hcz53_1
                    try clear hcz53_2
                    try clear hcz55_0
                    try clear hcz55_1
                    try clear hcz55_2
                    try clear hcz56_0
                    try clear hcz56_1
                    try clear hcz56_2
                    try clear hcz58_0
                    try clear hcz58_1
                    try clear hcz58_2
                    try clear hcz59_0
                    try clear hcz59_1
                    try clear hcz59_2
                    try clear hcz65_0
                    try clear hcz65_1
                    try clear hcz65_2
                    try clear hcz66_0
                    try clear hcz66_1
                    try clear hcz66_2
                    try clear hcz76_0
                    try clear hcz76_1
                    try clear hcz76_2
                    try clear hcz79_0
                    try clear hcz79_1
                    try clear hcz79_2
                    try clear hfz10_0
                    try clear hfz10_1
                    try clear hfz10_2
                    try clear hfz13_0
                    try clear hfz13_1
                    try clear hfz13_2
                    try clear hfz14_0
                    try clear hfz14_1
                    try clear hfz14_2
                    try clear hfz19_0
                    try clear hfz19_1
                    try clear hfz19_2
                    try clear hfz20_0
                    try clear hfz20_1
                    try clear hfz20_2
                    try clear hfz22_0
                    try clear hfz22_1
                    try clear hfz22_2
                    try clear hfz25_0
                    try clear hfz25_1
                    try clear hfz25_2
                    try clear hfz26_0
                    try clear hfz26_1
                    try clear hfz26_2
                    try clear hfz40_0
                    try clear hfz40_1
                    try clear hfz40_2
                    try clear hfz41_0
                    try clear hfz41_1
                    try clear hfz41_2
                    try clear hfz43_0
                    try clear hfz43_1
                    try clear hfz43_2
                    try clear hfz44_0
                    try clear hfz44_1
                    try clear hfz44_2
                    try clear hfz46_0
                    try clear hfz46_1
                    try clear hfz46_2
                    try clear hfz47_0
                    try clear hfz47_1
                    try clear hfz47_2
                    try clear hfz49_0
                    try clear hfz49_1
                    try clear hfz49_2
                    try clear hfz50_0
                    try clear hfz50_1
                    try clear hfz50_2
                    try clear hfz52_0
                    try clear hfz52_1
                    try clear hfz52_2
                    try clear hfz53_0
                    try clear hfz53_1
                    try clear hfz53_2
                    try clear hfz55_0
                    try clear hfz55_1
                    try clear hfz55_2
                    try clear hfz56_0
                    try clear hfz56_1
                    try clear hfz56_2
                    try clear hfz58_0
                    try clear hfz58_1
                    try clear hfz58_2
                    try clear hfz59_0
                    try clear hfz59_1
                    try clear hfz59_2
                    try clear hfz65_0
                    try clear hfz65_1
                    try clear hfz65_2
                    try clear hfz66_0
                    try clear hfz66_1
                    try clear hfz66_2
                    try clear hfz76_0
                    try clear hfz76_1
                    try clear hfz76_2
                    try clear hfz79_0
                    try clear hfz79_1
                    try clear hfz79_2
                    try clear p2
                    obtain ⟨kq, x20_76, rfl, HA, HJ76, BK409, BK410, HB⟩ := hcut
                    cases kq with
                    | zero => exact absurd HA.out (by simp [augurylaw04_ValueOrder.j2])
                    | succ kj76 =>
                      have H := HA.out
                      clear HA
                      simp only [augurylaw04_ValueOrder.j2] at H
                      by_cases c81 : t414 = true
                      · subst c81
                        have H1 : (if t422 = true then (if t411 = true then (if t419 = 0 then (if t421 = 0 then (if t423 = 0 then (if t425 = 0 then (if t427 = 0 then (if (wrap64 ((wrap64 (x20_76 + 1)) + 1)) = 1 then (if (t420 == (!t422)) = true then (if (t424 == (!t418)) = true then (if (t426 == t418) = true then (some true) else (none)) else (none)) else (none)) else (none)) else (none)) else (none)) else (none)) else (none)) else (none)) else (none)) else (if t411 = true then (if t419 = 0 then (if t421 = 0 then (if t423 = 0 then (if t425 = 0 then (if t427 = 0 then (if (wrap64 (x20_76 + 1)) = 1 then (if (t420 == (!t422)) = true then (if (t424 == (!t418)) = true then (if (t426 == t418) = true then (some true) else (none)) else (none)) else (none)) else (none)) else (none)) else (none)) else (none)) else (none)) else (none)) else (none))) = some r := by rw [if_pos rfl] at H; exact H
                        clear H
                        have H := H1
                        clear H1
                        by_cases c82 : t422 = true
                        · subst c82
                          have H1 : (if t411 = true then (if t419 = 0 then (if t421 = 0 then (if t423 = 0 then (if t425 = 0 then (if t427 = 0 then (if (wrap64 ((wrap64 (x20_76 + 1)) + 1)) = 1 then (if (t420 == (!true)) = true then (if (t424 == (!t418)) = true then (if (t426 == t418) = true then (some true) else (none)) else (none)) else (none)) else (none)) else (none)) else (none)) else (none)) else (none)) else (none)) else (none)) = some r := by rw [if_pos rfl] at H; exact H
                          clear H
                          have H := H1
                          clear H1
                          by_cases c83 : t411 = true
                          · subst c83
                            have H1 : (if t419 = 0 then (if t421 = 0 then (if t423 = 0 then (if t425 = 0 then (if t427 = 0 then (if (wrap64 ((wrap64 (x20_76 + 1)) + 1)) = 1 then (if (t420 == (!true)) = true then (if (t424 == (!t418)) = true then (if (t426 == t418) = true then (some true) else (none)) else (none)) else (none)) else (none)) else (none)) else (none)) else (none)) else (none)) else (none)) = some r := by rw [if_pos rfl] at H; exact H
                            clear H
                            have H := H1
                            clear H1
                            by_cases c84 : t419 = 0
                            · rw [if_pos c84] at H
                              have c84b0 : (t419 == 0) = true := beq_iff_eq.mpr c84
                              have c84b1 : (t419 != 0) = false := bne_eq_false_iff_eq.mpr c84
                              clear c84
                              by_cases c85 : t421 = 0
                              · rw [if_pos c85] at H
                                have c85b0 : (t421 == 0) = true := beq_iff_eq.mpr c85
                                have c85b1 : (t421 != 0) = false := bne_eq_false_iff_eq.mpr c85
                                clear c85
                                by_cases c86 : t423 = 0
                                · rw [if_pos c86] at H
                                  have c86b0 : (t423 == 0) = true := beq_iff_eq.mpr c86
                                  have c86b1 : (t423 != 0) = false := bne_eq_false_iff_eq.mpr c86
                                  clear c86
                                  by_cases c87 : t425 = 0
                                  · rw [if_pos c87] at H
                                    have c87b0 : (t425 == 0) = true := beq_iff_eq.mpr c87
                                    have c87b1 : (t425 != 0) = false := bne_eq_false_iff_eq.mpr c87
                                    clear c87
                                    by_cases c88 : t427 = 0
                                    · rw [if_pos c88] at H
                                      have c88b0 : (t427 == 0) = true := beq_iff_eq.mpr c88
                                      have c88b1 : (t427 != 0) = false := bne_eq_false_iff_eq.mpr c88
                                      clear c88
                                      by_cases c89 : (wrap64 ((wrap64 (x20_76 + 1)) + 1)) = 1
                                      · rw [if_pos c89] at H
                                        have c89b0 : ((wrap64 ((wrap64 (x20_76 + 1)) + 1)) == 1) = true := beq_iff_eq.mpr c89
                                        have c89b1 : ((wrap64 ((wrap64 (x20_76 + 1)) + 1)) != 1) = false := bne_eq_false_iff_eq.mpr c89
                                        clear c89
                                        by_cases c90 : (t420 == (!true)) = true
                                        · rw [if_pos c90] at H
                                          have c90b0 : (t420 == (!true)) = true := c90
                                          (try (have c90b1 : t420 = false := by simpa using c90))
                                          (try (have c90b2 : decide (t420 = (!true)) = true := by simpa using c90))
                                          (try (have c90b3 : (t420 == (!true)) = true := by simpa using c90))
                                          clear c90
                                          by_cases c91 : (t424 == (!t418)) = true
                                          · rw [if_pos c91] at H
                                            have c91b0 : (t424 == (!t418)) = true := c91
                                            (try (have c91b1 : decide (t424 = (!t418)) = true := by simpa using c91))
                                            (try (have c91b2 : (t424 == (!t418)) = true := by simpa using c91))
                                            clear c91
                                            by_cases c92 : (t426 == t418) = true
                                            · rw [if_pos c92] at H
                                              have c92b0 : (t426 == t418) = true := c92
                                              (try (have c92b1 : decide (t426 = t418) = true := by simpa using c92))
                                              (try (have c92b2 : (t426 == t418) = true := by simpa using c92))
                                              clear c92
                                              obtain rfl := Option.some.inj H
                                              go_wp2
                                              go_ret
                                              exact ⟨by first | rfl | (simp [errW_none, errW_some] <;> rfl) | (simp [*, errW_none, errW_some] <;> rfl), by repeat (first | (with_reducible first | exact HB.out | apply below_alloc | apply pw_below_drewN | apply below_drew1 | refine below_set ?_ GE409.out | refine below_set ?_ GE410.out) | exact HB.out)⟩
                                            · rw [if_neg c92] at H
                                              exact absurd H (by simp)
                                          · rw [if_neg c91] at H
                                            exact absurd H (by simp)
                                        · rw [if_neg c90] at H
                                          exact absurd H (by simp)
                                      · rw [if_neg c89] at H
                                        exact absurd H (by simp)
                                    · rw [if_neg c88] at H
                                      exact absurd H (by simp)
                                  · rw [if_neg c87] at H
                                    exact absurd H (by simp)
                                · rw [if_neg c86] at H
                                  exact absurd H (by simp)
                              · rw [if_neg c85] at H
                                exact absurd H (by simp)
                            · rw [if_neg c84] at H
                              exact absurd H (by simp)
                          · replace c83 := Bool.eq_false_iff.mpr c83
                            subst c83
                            have H1 : (none) = some r := by rw [if_neg (show ¬ (false = true) by decide)] at H; exact H
                            clear H
                            have H := H1
                            clear H1
                            exact absurd H (by simp)
                        · replace c82 := Bool.eq_false_iff.mpr c82
                          subst c82
                          have H1 : (if t411 = true then (if t419 = 0 then (if t421 = 0 then (if t423 = 0 then (if t425 = 0 then (if t427 = 0 then (if (wrap64 (x20_76 + 1)) = 1 then (if (t420 == (!false)) = true then (if (t424 == (!t418)) = true then (if (t426 == t418) = true then (some true) else (none)) else (none)) else (none)) else (none)) else (none)) else (none)) else (none)) else (none)) else (none)) else (none)) = some r := by rw [if_neg (show ¬ (false = true) by decide)] at H; exact H
                          clear H
                          have H := H1
                          clear H1
                          by_cases c93 : t411 = true
                          · subst c93
                            have H1 : (if t419 = 0 then (if t421 = 0 then (if t423 = 0 then (if t425 = 0 then (if t427 = 0 then (if (wrap64 (x20_76 + 1)) = 1 then (if (t420 == (!false)) = true then (if (t424 == (!t418)) = true then (if (t426 == t418) = true then (some true) else (none)) else (none)) else (none)) else (none)) else (none)) else (none)) else (none)) else (none)) else (none)) = some r := by rw [if_pos rfl] at H; exact H
                            clear H
                            have H := H1
                            clear H1
                            by_cases c94 : t419 = 0
                            · rw [if_pos c94] at H
                              have c94b0 : (t419 == 0) = true := beq_iff_eq.mpr c94
                              have c94b1 : (t419 != 0) = false := bne_eq_false_iff_eq.mpr c94
                              clear c94
                              by_cases c95 : t421 = 0
                              · rw [if_pos c95] at H
                                have c95b0 : (t421 == 0) = true := beq_iff_eq.mpr c95
                                have c95b1 : (t421 != 0) = false := bne_eq_false_iff_eq.mpr c95
                                clear c95
                                by_cases c96 : t423 = 0
                                · rw [if_pos c96] at H
                                  have c96b0 : (t423 == 0) = true := beq_iff_eq.mpr c96
                                  have c96b1 : (t423 != 0) = false := bne_eq_false_iff_eq.mpr c96
                                  clear c96
                                  by_cases c97 : t425 = 0
                                  · rw [if_pos c97] at H
                                    have c97b0 : (t425 == 0) = true := beq_iff_eq.mpr c97
                                    have c97b1 : (t425 != 0) = false := bne_eq_false_iff_eq.mpr c97
                                    clear c97
                                    by_cases c98 : t427 = 0
                                    · rw [if_pos c98] at H
                                      have c98b0 : (t427 == 0) = true := beq_iff_eq.mpr c98
                                      have c98b1 : (t427 != 0) = false := bne_eq_false_iff_eq.mpr c98
                                      clear c98
                                      by_cases c99 : (wrap64 (x20_76 + 1)) = 1
                                      · rw [if_pos c99] at H
                                        have c99b0 : ((wrap64 (x20_76 + 1)) == 1) = true := beq_iff_eq.mpr c99
                                        have c99b1 : ((wrap64 (x20_76 + 1)) != 1) = false := bne_eq_false_iff_eq.mpr c99
                                        clear c99
                                        by_cases c100 : (t420 == (!false)) = true
                                        · rw [if_pos c100] at H
                                          have c100b0 : (t420 == (!false)) = true := c100
                                          (try (have c100b1 : t420 = true := by simpa using c100))
                                          (try (have c100b2 : decide (t420 = (!false)) = true := by simpa using c100))
                                          (try (have c100b3 : (t420 == (!false)) = true := by simpa using c100))
                                          clear c100
                                          by_cases c101 : (t424 == (!t418)) = true
                                          · rw [if_pos c101] at H
                                            have c101b0 : (t424 == (!t418)) = true := c101
                                            (try (have c101b1 : decide (t424 = (!t418)) = true := by simpa using c101))
                                            (try (have c101b2 : (t424 == (!t418)) = true := by simpa using c101))
                                            clear c101
                                            by_cases c102 : (t426 == t418) = true
                                            · rw [if_pos c102] at H
                                              have c102b0 : (t426 == t418) = true := c102
                                              (try (have c102b1 : decide (t426 = t418) = true := by simpa using c102))
                                              (try (have c102b2 : (t426 == t418) = true := by simpa using c102))
                                              clear c102
                                              obtain rfl := Option.some.inj H
                                              go_wp2
                                              go_ret
                                              exact ⟨by first | rfl | (simp [errW_none, errW_some] <;> rfl) | (simp [*, errW_none, errW_some] <;> rfl), by repeat (first | (with_reducible first | exact HB.out | apply below_alloc | apply pw_below_drewN | apply below_drew1 | refine below_set ?_ GE409.out | refine below_set ?_ GE410.out) | exact HB.out)⟩
                                            · rw [if_neg c102] at H
                                              exact absurd H (by simp)
                                          · rw [if_neg c101] at H
                                            exact absurd H (by simp)
                                        · rw [if_neg c100] at H
                                          exact absurd H (by simp)
                                      · rw [if_neg c99] at H
                                        exact absurd H (by simp)
                                    · rw [if_neg c98] at H
                                      exact absurd H (by simp)
                                  · rw [if_neg c97] at H
                                    exact absurd H (by simp)
                                · rw [if_neg c96] at H
                                  exact absurd H (by simp)
                              · rw [if_neg c95] at H
                                exact absurd H (by simp)
                            · rw [if_neg c94] at H
                              exact absurd H (by simp)
                          · replace c93 := Bool.eq_false_iff.mpr c93
                            subst c93
                            have H1 : (none) = some r := by rw [if_neg (show ¬ (false = true) by decide)] at H; exact H
                            clear H
                            have H := H1
                            clear H1
                            exact absurd H (by simp)
                      · replace c81 := Bool.eq_false_iff.mpr c81
                        subst c81
                        have H1 : (if t422 = true then (if t411 = true then (if t419 = 0 then (if t421 = 0 then (if t423 = 0 then (if t425 = 0 then (if t427 = 0 then (if (wrap64 (x20_76 + 1)) = 1 then (if (t420 == (!t422)) = true then (if (t424 == (!t418)) = true then (if (t426 == t418) = true then (some true) else (none)) else (none)) else (none)) else (none)) else (none)) else (none)) else (none)) else (none)) else (none)) else (none)) else (if t411 = true then (if t419 = 0 then (if t421 = 0 then (if t423 = 0 then (if t425 = 0 then (if t427 = 0 then (if x20_76 = 1 then (if (t420 == (!t422)) = true then (if (t424 == (!t418)) = true then (if (t426 == t418) = true then (some true) else (none)) else (none)) else (none)) else (none)) else (none)) else (none)) else (none)) else (none)) else (none)) else (none))) = some r := by rw [if_neg (show ¬ (false = true) by decide)] at H; exact H
                        clear H
                        have H := H1
                        clear H1
                        by_cases c103 : t422 = true
                        · subst c103
                          have H1 : (if t411 = true then (if t419 = 0 then (if t421 = 0 then (if t423 = 0 then (if t425 = 0 then (if t427 = 0 then (if (wrap64 (x20_76 + 1)) = 1 then (if (t420 == (!true)) = true then (if (t424 == (!t418)) = true then (if (t426 == t418) = true then (some true) else (none)) else (none)) else (none)) else (none)) else (none)) else (none)) else (none)) else (none)) else (none)) else (none)) = some r := by rw [if_pos rfl] at H; exact H
                          clear H
                          have H := H1
                          clear H1
                          by_cases c104 : t411 = true
                          · subst c104
                            have H1 : (if t419 = 0 then (if t421 = 0 then (if t423 = 0 then (if t425 = 0 then (if t427 = 0 then (if (wrap64 (x20_76 + 1)) = 1 then (if (t420 == (!true)) = true then (if (t424 == (!t418)) = true then (if (t426 == t418) = true then (some true) else (none)) else (none)) else (none)) else (none)) else (none)) else (none)) else (none)) else (none)) else (none)) = some r := by rw [if_pos rfl] at H; exact H
                            clear H
                            have H := H1
                            clear H1
                            by_cases c105 : t419 = 0
                            · rw [if_pos c105] at H
                              have c105b0 : (t419 == 0) = true := beq_iff_eq.mpr c105
                              have c105b1 : (t419 != 0) = false := bne_eq_false_iff_eq.mpr c105
                              clear c105
                              by_cases c106 : t421 = 0
                              · rw [if_pos c106] at H
                                have c106b0 : (t421 == 0) = true := beq_iff_eq.mpr c106
                                have c106b1 : (t421 != 0) = false := bne_eq_false_iff_eq.mpr c106
                                clear c106
                                by_cases c107 : t423 = 0
                                · rw [if_pos c107] at H
                                  have c107b0 : (t423 == 0) = true := beq_iff_eq.mpr c107
                                  have c107b1 : (t423 != 0) = false := bne_eq_false_iff_eq.mpr c107
                                  clear c107
                                  by_cases c108 : t425 = 0
                                  · rw [if_pos c108] at H
                                    have c108b0 : (t425 == 0) = true := beq_iff_eq.mpr c108
                                    have c108b1 : (t425 != 0) = false := bne_eq_false_iff_eq.mpr c108
                                    clear c108
                                    by_cases c109 : t427 = 0
                                    · rw [if_pos c109] at H
                                      have c109b0 : (t427 == 0) = true := beq_iff_eq.mpr c109
                                      have c109b1 : (t427 != 0) = false := bne_eq_false_iff_eq.mpr c109
                                      clear c109
                                      by_cases c110 : (wrap64 (x20_76 + 1)) = 1
                                      · rw [if_pos c110] at H
                                        have c110b0 : ((wrap64 (x20_76 + 1)) == 1) = true := beq_iff_eq.mpr c110
                                        have c110b1 : ((wrap64 (x20_76 + 1)) != 1) = false := bne_eq_false_iff_eq.mpr c110
                                        clear c110
                                        by_cases c111 : (t420 == (!true)) = true
                                        · rw [if_pos c111] at H
                                          have c111b0 : (t420 == (!true)) = true := c111
                                          (try (have c111b1 : t420 = false := by simpa using c111))
                                          (try (have c111b2 : decide (t420 = (!true)) = true := by simpa using c111))
                                          (try (have c111b3 : (t420 == (!true)) = true := by simpa using c111))
                                          clear c111
                                          by_cases c112 : (t424 == (!t418)) = true
                                          · rw [if_pos c112] at H
                                            have c112b0 : (t424 == (!t418)) = true := c112
                                            (try (have c112b1 : decide (t424 = (!t418)) = true := by simpa using c112))
                                            (try (have c112b2 : (t424 == (!t418)) = true := by simpa using c112))
                                            clear c112
                                            by_cases c113 : (t426 == t418) = true
                                            · rw [if_pos c113] at H
                                              have c113b0 : (t426 == t418) = true := c113
                                              (try (have c113b1 : decide (t426 = t418) = true := by simpa using c113))
                                              (try (have c113b2 : (t426 == t418) = true := by simpa using c113))
                                              clear c113
                                              obtain rfl := Option.some.inj H
                                              go_wp2
                                              go_ret
                                              exact ⟨by first | rfl | (simp [errW_none, errW_some] <;> rfl) | (simp [*, errW_none, errW_some] <;> rfl), by repeat (first | (with_reducible first | exact HB.out | apply below_alloc | apply pw_below_drewN | apply below_drew1 | refine below_set ?_ GE409.out | refine below_set ?_ GE410.out) | exact HB.out)⟩
                                            · rw [if_neg c113] at H
                                              exact absurd H (by simp)
                                          · rw [if_neg c112] at H
                                            exact absurd H (by simp)
                                        · rw [if_neg c111] at H
                                          exact absurd H (by simp)
                                      · rw [if_neg c110] at H
                                        exact absurd H (by simp)
                                    · rw [if_neg c109] at H
                                      exact absurd H (by simp)
                                  · rw [if_neg c108] at H
                                    exact absurd H (by simp)
                                · rw [if_neg c107] at H
                                  exact absurd H (by simp)
                              · rw [if_neg c106] at H
                                exact absurd H (by simp)
                            · rw [if_neg c105] at H
                              exact absurd H (by simp)
                          · replace c104 := Bool.eq_false_iff.mpr c104
                            subst c104
                            have H1 : (none) = some r := by rw [if_neg (show ¬ (false = true) by decide)] at H; exact H
                            clear H
                            have H := H1
                            clear H1
                            exact absurd H (by simp)
                        · replace c103 := Bool.eq_false_iff.mpr c103
                          subst c103
                          have H1 : (if t411 = true then (if t419 = 0 then (if t421 = 0 then (if t423 = 0 then (if t425 = 0 then (if t427 = 0 then (if x20_76 = 1 then (if (t420 == (!false)) = true then (if (t424 == (!t418)) = true then (if (t426 == t418) = true then (some true) else (none)) else (none)) else (none)) else (none)) else (none)) else (none)) else (none)) else (none)) else (none)) else (none)) = some r := by rw [if_neg (show ¬ (false = true) by decide)] at H; exact H
                          clear H
                          have H := H1
                          clear H1
                          by_cases c114 : t411 = true
                          · subst c114
                            have H1 : (if t419 = 0 then (if t421 = 0 then (if t423 = 0 then (if t425 = 0 then (if t427 = 0 then (if x20_76 = 1 then (if (t420 == (!false)) = true then (if (t424 == (!t418)) = true then (if (t426 == t418) = true then (some true) else (none)) else (none)) else (none)) else (none)) else (none)) else (none)) else (none)) else (none)) else (none)) = some r := by rw [if_pos rfl] at H; exact H
                            clear H
                            have H := H1
                            clear H1
                            by_cases c115 : t419 = 0
                            · rw [if_pos c115] at H
                              have c115b0 : (t419 == 0) = true := beq_iff_eq.mpr c115
                              have c115b1 : (t419 != 0) = false := bne_eq_false_iff_eq.mpr c115
                              clear c115
                              by_cases c116 : t421 = 0
                              · rw [if_pos c116] at H
                                have c116b0 : (t421 == 0) = true := beq_iff_eq.mpr c116
                                have c116b1 : (t421 != 0) = false := bne_eq_false_iff_eq.mpr c116
                                clear c116
                                by_cases c117 : t423 = 0
                                · rw [if_pos c117] at H
                                  have c117b0 : (t423 == 0) = true := beq_iff_eq.mpr c117
                                  have c117b1 : (t423 != 0) = false := bne_eq_false_iff_eq.mpr c117
                                  clear c117
                                  by_cases c118 : t425 = 0
                                  · rw [if_pos c118] at H
                                    have c118b0 : (t425 == 0) = true := beq_iff_eq.mpr c118
                                    have c118b1 : (t425 != 0) = false := bne_eq_false_iff_eq.mpr c118
                                    clear c118
                                    by_cases c119 : t427 = 0
                                    · rw [if_pos c119] at H
                                      have c119b0 : (t427 == 0) = true := beq_iff_eq.mpr c119
                                      have c119b1 : (t427 != 0) = false := bne_eq_false_iff_eq.mpr c119
                                      clear c119
                                      by_cases c120 : x20_76 = 1
                                      · rw [if_pos c120] at H
                                        have c120b0 : (x20_76 == 1) = true := beq_iff_eq.mpr c120
                                        have c120b1 : (x20_76 != 1) = false := bne_eq_false_iff_eq.mpr c120
                                        clear c120
                                        by_cases c121 : (t420 == (!false)) = true
                                        · rw [if_pos c121] at H
                                          have c121b0 : (t420 == (!false)) = true := c121
                                          (try (have c121b1 : t420 = true := by simpa using c121))
                                          (try (have c121b2 : decide (t420 = (!false)) = true := by simpa using c121))
                                          (try (have c121b3 : (t420 == (!false)) = true := by simpa using c121))
                                          clear c121
                                          by_cases c122 : (t424 == (!t418)) = true
                                          · rw [if_pos c122] at H
                                            have c122b0 : (t424 == (!t418)) = true := c122
                                            (try (have c122b1 : decide (t424 = (!t418)) = true := by simpa using c122))
                                            (try (have c122b2 : (t424 == (!t418)) = true := by simpa using c122))
                                            clear c122
                                            by_cases c123 : (t426 == t418) = true
                                            · rw [if_pos c123] at H
                                              have c123b0 : (t426 == t418) = true := c123
                                              (try (have c123b1 : decide (t426 = t418) = true := by simpa using c123))
                                              (try (have c123b2 : (t426 == t418) = true := by simpa using c123))
                                              clear c123
                                              obtain rfl := Option.some.inj H
                                              go_wp2
                                              go_ret
                                              exact ⟨by first | rfl | (simp [errW_none, errW_some] <;> rfl) | (simp [*, errW_none, errW_some] <;> rfl), by repeat (first | (with_reducible first | exact HB.out | apply below_alloc | apply pw_below_drewN | apply below_drew1 | refine below_set ?_ GE409.out | refine below_set ?_ GE410.out) | exact HB.out)⟩
                                            · rw [if_neg c123] at H
                                              exact absurd H (by simp)
                                          · rw [if_neg c122] at H
                                            exact absurd H (by simp)
                                        · rw [if_neg c121] at H
                                          exact absurd H (by simp)
                                      · rw [if_neg c120] at H
                                        exact absurd H (by simp)
                                    · rw [if_neg c119] at H
                                      exact absurd H (by simp)
                                  · rw [if_neg c118] at H
                                    exact absurd H (by simp)
                                · rw [if_neg c117] at H
                                  exact absurd H (by simp)
                              · rw [if_neg c116] at H
                                exact absurd H (by simp)
                            · rw [if_neg c115] at H
                              exact absurd H (by simp)
                          · replace c114 := Bool.eq_false_iff.mpr c114
                            subst c114
                            have H1 : (none) = some r := by rw [if_neg (show ¬ (false = true) by decide)] at H; exact H
                            clear H
                            have H := H1
                            clear H1
                            exact absurd H (by simp)
        · rw [if_neg c32] at H
          have c32b0 : (a0_0 == a1_0) = false := beq_eq_false_iff_ne.mpr c32
          have c32b1 : (a0_0 != a1_0) = true := bne_iff_ne.mpr c32
          by_cases c124 : t411 = true
          · subst c124
            have H1 : (if t415 = 42 then (if t417 = 42 then (if t414 = true then (none) else (if t416 = true then (none) else (some true))) else (none)) else (none)) = some r := by rw [if_pos rfl] at H; exact H
            clear H
            have H := H1
            clear H1
            by_cases c125 : t415 = 42
            · rw [if_pos c125] at H
              have c125b0 : (t415 == 42) = true := beq_iff_eq.mpr c125
              have c125b1 : (t415 != 42) = false := bne_eq_false_iff_eq.mpr c125
              clear c125
              by_cases c126 : t417 = 42
              · rw [if_pos c126] at H
                have c126b0 : (t417 == 42) = true := beq_iff_eq.mpr c126
                have c126b1 : (t417 != 42) = false := bne_eq_false_iff_eq.mpr c126
                clear c126
                by_cases c127 : t414 = true
                · subst c127
                  have H1 : (none) = some r := by rw [if_pos rfl] at H; exact H
                  clear H
                  have H := H1
                  clear H1
                  exact absurd H (by simp)
                · replace c127 := Bool.eq_false_iff.mpr c127
                  subst c127
                  have H1 : (if t416 = true then (none) else (some true)) = some r := by rw [if_neg (show ¬ (false = true) by decide)] at H; exact H
                  clear H
                  have H := H1
                  clear H1
                  by_cases c128 : t416 = true
                  · subst c128
                    have H1 : (none) = some r := by rw [if_pos rfl] at H; exact H
                    clear H
                    have H := H1
                    clear H1
                    exact absurd H (by simp)
                  · replace c128 := Bool.eq_false_iff.mpr c128
                    subst c128
                    have H1 : (some true) = some r := by rw [if_neg (show ¬ (false = true) by decide)] at H; exact H
                    clear H
                    have H := H1
                    clear H1
                    obtain rfl := Option.some.inj H
                    have hnb129 := NB409_410.out
                    have hnc129 := NB410_409.out
                    have hcz130_0 : wc.cell? ⟨gb409, 0, none⟩ = some (.int .i64 a0_0) := (blk_cell BK409.out 0).trans rfl
                    have hcz130_1 : wc.cell? ⟨gb409, 1, none⟩ = some (.int .i64 a0_1) := (blk_cell BK409.out 1).trans rfl
                    have hcz130_2 : wc.cell? ⟨gb409, 2, none⟩ = some (.string a0_2) := (blk_cell BK409.out 2).trans rfl
                    have hfz130_0 := blk_frozen BK409.out 0
                    have hfz130_1 := blk_frozen BK409.out 1
                    have hfz130_2 := blk_frozen BK409.out 2
                    have hcz131_0 : wc.cell? ⟨gb410, 0, none⟩ = some (.int .i64 a1_0) := (blk_cell BK410.out 0).trans rfl
                    have hcz131_1 : wc.cell? ⟨gb410, 1, none⟩ = some (.int .i64 a1_1) := (blk_cell BK410.out 1).trans rfl
                    have hcz131_2 : wc.cell? ⟨gb410, 2, none⟩ = some (.string a1_2) := (blk_cell BK410.out 2).trans rfl
                    have hfz131_0 := blk_frozen BK410.out 0
                    have hfz131_1 := blk_frozen BK410.out 1
                    have hfz131_2 := blk_frozen BK410.out 2
                    go_wp2_with (first | ((with_reducible refine gate_callee (f := 14) rfl ?_); refine goesL_ (some 46) rfl rfl Try.func14 (by kernel_rfl) rfl #[.int .i64 1, .agg #[.int .i64 a0_0, .int .i64 a0_1, .string a0_2], .agg #[.int .i64 a1_0, .int .i64 a1_1, .string a1_2]] rfl (by (try simp only [List.map_toArray, List.map_cons, List.map_nil]); first | done | rfl | (simp only [List.length_drop, List.length_take]; rfl)) ?_; (with_reducible refine (value_Compare.calls 1 a0_0 a0_1 a0_2 a1_0 a1_1 a1_2 false t415 _ A30.out).mono ?_); rintro e w132 ⟨rfl, hb⟩; refine ⟨_, rfl, ?_⟩; have n0_ := Aside0.mk (blk_below (g := gb409) (o := .cells #[.int .i64 a0_0, .int .i64 a0_1, .string a0_2] 23 (0, 0)) (by (with_reducible repeat (first | refine blk_drewN ?_ _ | refine blk_drew ?_ | refine blk_alloc ?_ _)); exact BK409.out) hb); have n1_ := Aside0.mk (blk_below (g := gb410) (o := .cells #[.int .i64 a1_0, .int .i64 a1_1, .string a1_2] 23 (0, 0)) (by (with_reducible repeat (first | refine blk_drewN ?_ _ | refine blk_drew ?_ | refine blk_alloc ?_ _)); exact BK410.out) hb); have n2_ := Aside0.mk (below_step (by repeat (first | (with_reducible first | exact HB.out | apply below_alloc | apply pw_below_drewN | apply below_drew1 | refine below_set ?_ GE409.out | refine below_set ?_ GE410.out) | exact HB.out)) hb); clear BK409; clear BK410; clear HB; have BK409 := n0_; have BK410 := n1_; have HB := n2_; clear n0_ n1_ n2_; (try clear hb); (try clear hb2); (try clear hk); (try clear hi); have hcz133_0 : w132.cell? ⟨gb409, 0, none⟩ = some (.int .i64 a0_0) := (blk_cell BK409.out 0).trans rfl; have hcz133_1 : w132.cell? ⟨gb409, 1, none⟩ = some (.int .i64 a0_1) := (blk_cell BK409.out 1).trans rfl; have hcz133_2 : w132.cell? ⟨gb409, 2, none⟩ = some (.string a0_2) := (blk_cell BK409.out 2).trans rfl; have hfz133_0 := blk_frozen BK409.out 0; have hfz133_1 := blk_frozen BK409.out 1; have hfz133_2 := blk_frozen BK409.out 2; have hcz134_0 : w132.cell? ⟨gb410, 0, none⟩ = some (.int .i64 a1_0) := (blk_cell BK410.out 0).trans rfl; have hcz134_1 : w132.cell? ⟨gb410, 1, none⟩ = some (.int .i64 a1_1) := (blk_cell BK410.out 1).trans rfl; have hcz134_2 : w132.cell? ⟨gb410, 2, none⟩ = some (.string a1_2) := (blk_cell BK410.out 2).trans rfl; have hfz134_0 := blk_frozen BK410.out 0; have hfz134_1 := blk_frozen BK410.out 1; have hfz134_2 := blk_frozen BK410.out 2) | ((with_reducible refine gate_callee (f := 14) rfl ?_); refine goesL_ (some 52) rfl rfl Try.func14 (by kernel_rfl) rfl #[.int .i64 2, .agg #[.int .i64 a0_0, .int .i64 a0_1, .string a0_2], .agg #[.int .i64 a1_0, .int .i64 a1_1, .string a1_2]] rfl (by (try simp only [List.map_toArray, List.map_cons, List.map_nil]); first | done | rfl | (simp only [List.length_drop, List.length_take]; rfl)) ?_; (with_reducible refine (value_Compare.calls 2 a0_0 a0_1 a0_2 a1_0 a1_1 a1_2 false t417 _ A31.out).mono ?_); rintro e w135 ⟨rfl, hb⟩; refine ⟨_, rfl, ?_⟩; have n0_ := Aside0.mk (blk_below (g := gb409) (o := .cells #[.int .i64 a0_0, .int .i64 a0_1, .string a0_2] 23 (0, 0)) (by (with_reducible repeat (first | refine blk_drewN ?_ _ | refine blk_drew ?_ | refine blk_alloc ?_ _)); exact BK409.out) hb); have n1_ := Aside0.mk (blk_below (g := gb410) (o := .cells #[.int .i64 a1_0, .int .i64 a1_1, .string a1_2] 23 (0, 0)) (by (with_reducible repeat (first | refine blk_drewN ?_ _ | refine blk_drew ?_ | refine blk_alloc ?_ _)); exact BK410.out) hb); have n2_ := Aside0.mk (below_step (by repeat (first | (with_reducible first | exact HB.out | apply below_alloc | apply pw_below_drewN | apply below_drew1 | refine below_set ?_ GE409.out | refine below_set ?_ GE410.out) | exact HB.out)) hb); clear BK409; clear BK410; clear HB; have BK409 := n0_; have BK410 := n1_; have HB := n2_; clear n0_ n1_ n2_; (try clear hb); (try clear hb2); (try clear hk); (try clear hi); have hcz136_0 : w135.cell? ⟨gb409, 0, none⟩ = some (.int .i64 a0_0) := (blk_cell BK409.out 0).trans rfl; have hcz136_1 : w135.cell? ⟨gb409, 1, none⟩ = some (.int .i64 a0_1) := (blk_cell BK409.out 1).trans rfl; have hcz136_2 : w135.cell? ⟨gb409, 2, none⟩ = some (.string a0_2) := (blk_cell BK409.out 2).trans rfl; have hfz136_0 := blk_frozen BK409.out 0; have hfz136_1 := blk_frozen BK409.out 1; have hfz136_2 := blk_frozen BK409.out 2; have hcz137_0 : w135.cell? ⟨gb410, 0, none⟩ = some (.int .i64 a1_0) := (blk_cell BK410.out 0).trans rfl; have hcz137_1 : w135.cell? ⟨gb410, 1, none⟩ = some (.int .i64 a1_1) := (blk_cell BK410.out 1).trans rfl; have hcz137_2 : w135.cell? ⟨gb410, 2, none⟩ = some (.string a1_2) := (blk_cell BK410.out 2).trans rfl; have hfz137_0 := blk_frozen BK410.out 0; have hfz137_1 := blk_frozen BK410.out 1; have hfz137_2 := blk_frozen BK410.out 2))
                    go_ret
                    exact ⟨by first | rfl | (simp [errW_none, errW_some] <;> rfl) | (simp [*, errW_none, errW_some] <;> rfl), by repeat (first | (with_reducible first | exact HB.out | apply below_alloc | apply pw_below_drewN | apply below_drew1 | refine below_set ?_ GE409.out | refine below_set ?_ GE410.out) | exact HB.out)⟩
              · rw [if_neg c126] at H
                exact absurd H (by simp)
            · rw [if_neg c125] at H
              exact absurd H (by simp)
          · replace c124 := Bool.eq_false_iff.mpr c124
            subst c124
            have H1 : (none) = some r := by rw [if_neg (show ¬ (false = true) by decide)] at H; exact H
            clear H
            have H := H1
            clear H1
            exact absurd H (by simp)

/-- THE ONE PURE STATEMENT of augurylaw04_ValueOrder: yours. -/
def augurylaw04_ValueOrder.Pure : Prop := ∀ (x0 : S23) (x1 : S23), ok23 x0 → ok23 x1 → ∃ k, augurylaw04_ValueOrder.f k x0.f0 x0.f1 x0.f2 x1.f0 x1.f1 x1.f2 = some true

end Go.Proofs.Ytlbaoekmnfeogaa.PAll
