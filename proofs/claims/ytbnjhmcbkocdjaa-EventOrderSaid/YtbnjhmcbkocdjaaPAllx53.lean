/- Written by this session's own program (wip/xprint): functions of the Go program as Lean functions, and proofs that the Go code computes them. -/
import Derived.Test.YtbnjhmcbkocdjaaPAllx0
import Derived.Test.YtbnjhmcbkocdjaaPAllx31
import Derived.Test.YtbnjhmcbkocdjaaPAllx32
import Derived.Test.YtbnjhmcbkocdjaaPAllx34
namespace Go.Proofs.Ytbnjhmcbkocdjaa.PAll
open Go.RowKit Go.Proofs.YtbnjhmcbkocdjaaW.PrintWords Go.Proofs.YtbnjhmcbkocdjaaW.PrintLast Go.Proofs.YtbnjhmcbkocdjaaW.PrintMore
attribute [local go_sem] max2_int min2_int max_two min_two max_three min_three max_four min_four   -- for this text's walks alone
set_option linter.unusedVariables false
set_option linter.unusedSimpArgs false

/-! ### augurylaw05_EventOrder: function 6 -/
mutual
def augurylaw05_EventOrder.j0 : Nat → Bool → Bool → Int → Int → Int → ByteArray → List (S52) → Int → Int → Int → ByteArray → List (S52) → Int → Int → Int → ByteArray → List (S52) → Option (Bool)
  | 0, _, _, _, _, _, _, _, _, _, _, _, _, _, _, _, _, _ => none
  | k + 1, x7, x21, x567000, x567001, x567002, x567003, x567004, x568000, x568001, x568002, x568003, x568004, x569000, x569001, x569002, x569003, x569004 => if x21 = true then (if x7 = true then (some true) else (none)) else ((event_Less.f k x567000 x567001 x567002 x567003 x567004 x568000 x568001 x568002 x568003 x568004).bind fun t573 => ((event_Less.f k x568000 x568001 x568002 x568003 x568004 x569000 x569001 x569002 x569003 x569004).bind fun t574 => (if x567000 = x568000 then (if x567001 = x568001 then (augurylaw05_EventOrder.j1 k x7 t573 t574 (x567002 == x568002) x567000 x567001 x567002 x567003 x567004 x568000 x568001 x568002 x568003 x568004 x569000 x569001 x569002 x569003 x569004) else (augurylaw05_EventOrder.j1 k x7 t573 t574 false x567000 x567001 x567002 x567003 x567004 x568000 x568001 x568002 x568003 x568004 x569000 x569001 x569002 x569003 x569004)) else (augurylaw05_EventOrder.j1 k x7 t573 t574 false x567000 x567001 x567002 x567003 x567004 x568000 x568001 x568002 x568003 x568004 x569000 x569001 x569002 x569003 x569004))))
def augurylaw05_EventOrder.j1 : Nat → Bool → Bool → Bool → Bool → Int → Int → Int → ByteArray → List (S52) → Int → Int → Int → ByteArray → List (S52) → Int → Int → Int → ByteArray → List (S52) → Option (Bool)
  | 0, _, _, _, _, _, _, _, _, _, _, _, _, _, _, _, _, _, _, _ => none
  | k + 1, x7, x8, x9, x10, x567000, x567001, x567002, x567003, x567004, x568000, x568001, x568002, x568003, x568004, x569000, x569001, x569002, x569003, x569004 => if x7 = true then ((event_Less.f k x567000 x567001 x567002 x567003 x567004 x567000 x567001 x567002 x567003 x567004).bind fun t575 => (if t575 = true then (none) else (if x8 = true then ((event_Less.f k x568000 x568001 x568002 x568003 x568004 x567000 x567001 x567002 x567003 x567004).bind fun t576 => (if t576 = true then (none) else (if x9 = true then ((event_Less.f k x567000 x567001 x567002 x567003 x567004 x569000 x569001 x569002 x569003 x569004).bind fun t577 => (if t577 = true then (if (true == (!x10)) = true then (some true) else (none)) else (none))) else (if (true == (!x10)) = true then (some true) else (none))))) else ((event_Less.f k x568000 x568001 x568002 x568003 x568004 x567000 x567001 x567002 x567003 x567004).bind fun t578 => (if (t578 == (!x10)) = true then (some true) else (none)))))) else (none)
end
def augurylaw05_EventOrder.f (k : Nat) (a0_0 : Int) (a0_1 : Int) (a0_2 : Int) (a0_3 : ByteArray) (l0_4 : List (S52)) (a1_0 : Int) (a1_1 : Int) (a1_2 : Int) (a1_3 : ByteArray) (l1_4 : List (S52)) (a2_0 : Int) (a2_1 : Int) (a2_2 : Int) (a2_3 : ByteArray) (l2_4 : List (S52)) : Option (Bool) := (augurylaw05_head.f k).bind fun t569 => ((augurylaw05_GreatEvent.f k a0_0 a0_1 a0_2 a0_3 l0_4).bind fun t570 => (if t570 = true then (augurylaw05_EventOrder.j0 k t569 true a0_0 a0_1 a0_2 a0_3 l0_4 a1_0 a1_1 a1_2 a1_3 l1_4 a2_0 a2_1 a2_2 a2_3 l2_4) else ((augurylaw05_GreatEvent.f k a1_0 a1_1 a1_2 a1_3 l1_4).bind fun t571 => (if t571 = true then (augurylaw05_EventOrder.j0 k t569 true a0_0 a0_1 a0_2 a0_3 l0_4 a1_0 a1_1 a1_2 a1_3 l1_4 a2_0 a2_1 a2_2 a2_3 l2_4) else ((augurylaw05_GreatEvent.f k a2_0 a2_1 a2_2 a2_3 l2_4).bind fun t572 => (augurylaw05_EventOrder.j0 k t569 t572 a0_0 a0_1 a0_2 a0_3 l0_4 a1_0 a1_1 a1_2 a1_3 l1_4 a2_0 a2_1 a2_2 a2_3 l2_4))))))
theorem augurylaw05_EventOrder.mono_l : ∀ k, (∀ y0 y1 y2 y3 y4 y5 y6 y7 y8 y9 y10 y11 y12 y13 y14 y15 y16, LeO (augurylaw05_EventOrder.j0 k y0 y1 y2 y3 y4 y5 y6 y7 y8 y9 y10 y11 y12 y13 y14 y15 y16) (augurylaw05_EventOrder.j0 (k + 1) y0 y1 y2 y3 y4 y5 y6 y7 y8 y9 y10 y11 y12 y13 y14 y15 y16)) ∧ (∀ y0 y1 y2 y3 y4 y5 y6 y7 y8 y9 y10 y11 y12 y13 y14 y15 y16 y17 y18, LeO (augurylaw05_EventOrder.j1 k y0 y1 y2 y3 y4 y5 y6 y7 y8 y9 y10 y11 y12 y13 y14 y15 y16 y17 y18) (augurylaw05_EventOrder.j1 (k + 1) y0 y1 y2 y3 y4 y5 y6 y7 y8 y9 y10 y11 y12 y13 y14 y15 y16 y17 y18))
  | 0 => ⟨fun _ _ _ _ _ _ _ _ _ _ _ _ _ _ _ _ _ r h => by simp [augurylaw05_EventOrder.j0] at h, fun _ _ _ _ _ _ _ _ _ _ _ _ _ _ _ _ _ _ _ r h => by simp [augurylaw05_EventOrder.j1] at h⟩
  | k + 1 => by
    obtain ⟨ih0, ih1⟩ := augurylaw05_EventOrder.mono_l k
    refine ⟨?_, ?_⟩
    · intro y0 y1 y2 y3 y4 y5 y6 y7 y8 y9 y10 y11 y12 y13 y14 y15 y16
      unfold augurylaw05_EventOrder.j0
      repeat' first
      | (with_reducible exact ih0 _ _ _ _ _ _ _ _ _ _ _ _ _ _ _ _ _)
      | (with_reducible exact ih1 _ _ _ _ _ _ _ _ _ _ _ _ _ _ _ _ _ _ _)
      | (with_reducible exact augurylaw05_GreatEvent.mono _ _ _ _ _ _)
      | (with_reducible exact augurylaw05_head.mono _)
      | (with_reducible exact event_Less.mono _ _ _ _ _ _ _ _ _ _ _)
      | (with_reducible exact LeO.refl _)
      | (with_reducible exact LeO.none _)
      | (with_reducible refine LeO.ite ?_ ?_)
      | (with_reducible refine LeO.bind ?_ (fun _ => ?_))
      | exact ih0 _ _ _ _ _ _ _ _ _ _ _ _ _ _ _ _ _
      | exact ih1 _ _ _ _ _ _ _ _ _ _ _ _ _ _ _ _ _ _ _
      | exact augurylaw05_GreatEvent.mono _ _ _ _ _ _
      | exact augurylaw05_head.mono _
      | exact event_Less.mono _ _ _ _ _ _ _ _ _ _ _
      | exact LeO.none _
      | refine LeO.ite ?_ ?_
      | refine LeO.bind ?_ (fun _ => ?_)
    · intro y0 y1 y2 y3 y4 y5 y6 y7 y8 y9 y10 y11 y12 y13 y14 y15 y16 y17 y18
      unfold augurylaw05_EventOrder.j1
      repeat' first
      | (with_reducible exact ih0 _ _ _ _ _ _ _ _ _ _ _ _ _ _ _ _ _)
      | (with_reducible exact ih1 _ _ _ _ _ _ _ _ _ _ _ _ _ _ _ _ _ _ _)
      | (with_reducible exact augurylaw05_GreatEvent.mono _ _ _ _ _ _)
      | (with_reducible exact augurylaw05_head.mono _)
      | (with_reducible exact event_Less.mono _ _ _ _ _ _ _ _ _ _ _)
      | (with_reducible exact LeO.refl _)
      | (with_reducible exact LeO.none _)
      | (with_reducible refine LeO.ite ?_ ?_)
      | (with_reducible refine LeO.bind ?_ (fun _ => ?_))
      | exact ih0 _ _ _ _ _ _ _ _ _ _ _ _ _ _ _ _ _
      | exact ih1 _ _ _ _ _ _ _ _ _ _ _ _ _ _ _ _ _ _ _
      | exact augurylaw05_GreatEvent.mono _ _ _ _ _ _
      | exact augurylaw05_head.mono _
      | exact event_Less.mono _ _ _ _ _ _ _ _ _ _ _
      | exact LeO.none _
      | refine LeO.ite ?_ ?_
      | refine LeO.bind ?_ (fun _ => ?_)
theorem augurylaw05_EventOrder.mono : ∀ a0 a1 a2 a3 a4 a5 a6 a7 a8 a9 a10 a11 a12 a13 a14 k, LeO (augurylaw05_EventOrder.f k a0 a1 a2 a3 a4 a5 a6 a7 a8 a9 a10 a11 a12 a13 a14) (augurylaw05_EventOrder.f (k + 1) a0 a1 a2 a3 a4 a5 a6 a7 a8 a9 a10 a11 a12 a13 a14) := by
  intro a0 a1 a2 a3 a4 a5 a6 a7 a8 a9 a10 a11 a12 a13 a14 k
  obtain ⟨ih0, ih1⟩ := augurylaw05_EventOrder.mono_l k
  unfold augurylaw05_EventOrder.f
  repeat' first
      | (with_reducible exact ih0 _ _ _ _ _ _ _ _ _ _ _ _ _ _ _ _ _)
      | (with_reducible exact ih1 _ _ _ _ _ _ _ _ _ _ _ _ _ _ _ _ _ _ _)
      | (with_reducible exact augurylaw05_GreatEvent.mono _ _ _ _ _ _)
      | (with_reducible exact augurylaw05_head.mono _)
      | (with_reducible exact event_Less.mono _ _ _ _ _ _ _ _ _ _ _)
      | (with_reducible exact LeO.refl _)
      | (with_reducible exact LeO.none _)
      | (with_reducible refine LeO.ite ?_ ?_)
      | (with_reducible refine LeO.bind ?_ (fun _ => ?_))
      | exact ih0 _ _ _ _ _ _ _ _ _ _ _ _ _ _ _ _ _
      | exact ih1 _ _ _ _ _ _ _ _ _ _ _ _ _ _ _ _ _ _ _
      | exact augurylaw05_GreatEvent.mono _ _ _ _ _ _
      | exact augurylaw05_head.mono _
      | exact event_Less.mono _ _ _ _ _ _ _ _ _ _ _
      | exact LeO.none _
      | refine LeO.ite ?_ ?_
      | refine LeO.bind ?_ (fun _ => ?_)
set_option maxHeartbeats 8000000 in
set_option maxRecDepth 100000 in
theorem augurylaw05_EventOrder.calls (k : Nat) (a0_0 : Int) (a0_1 : Int) (a0_2 : Int) (a0_3 : ByteArray) (A0_4 : Option Addr) (c0_4 : Nat) (l0_4 : List (S52)) (a1_0 : Int) (a1_1 : Int) (a1_2 : Int) (a1_3 : ByteArray) (A1_4 : Option Addr) (c1_4 : Nat) (l1_4 : List (S52)) (a2_0 : Int) (a2_1 : Int) (a2_2 : Int) (a2_3 : ByteArray) (A2_4 : Option Addr) (c2_4 : Nat) (l2_4 : List (S52)) (r : Bool) (w : World) (hr0_4 : Kd.C k52 w A0_4 l0_4.length l0_4) (hc0_4 : l0_4.length ≤ c0_4) (hr1_4 : Kd.C k52 w A1_4 l1_4.length l1_4) (hc1_4 : l1_4.length ≤ c1_4) (hr2_4 : Kd.C k52 w A2_4 l2_4.length l2_4) (hc2_4 : l2_4.length ≤ c2_4) (h : augurylaw05_EventOrder.f k a0_0 a0_1 a0_2 a0_3 l0_4 a1_0 a1_1 a1_2 a1_3 l1_4 a2_0 a2_1 a2_2 a2_3 l2_4 = some r) :
    Calls Try.prog 6 #[.agg #[.int .i64 a0_0, .int .i64 a0_1, .int .i64 a0_2, .string a0_3, .slice A0_4 l0_4.length c0_4], .agg #[.int .i64 a1_0, .int .i64 a1_1, .int .i64 a1_2, .string a1_3, .slice A1_4 l1_4.length c1_4], .agg #[.int .i64 a2_0, .int .i64 a2_1, .int .i64 a2_2, .string a2_3, .slice A2_4 l2_4.length c2_4]] w fun e w' => e = .returned (.bool r) ∧ Below w.heap.size w w' := by
  have hu25 := Try.underlying25
  have HR0_4 := Aside0.mk hr0_4
  have HC0_4 := Aside0.mk hc0_4
  clear hr0_4 hc0_4
  have HR1_4 := Aside0.mk hr1_4
  have HC1_4 := Aside0.mk hc1_4
  clear hr1_4 hc1_4
  have HR2_4 := Aside0.mk hr2_4
  have HC2_4 := Aside0.mk hc2_4
  clear hr2_4 hc2_4
  have HB := Aside0.mk (Below.refl w.heap.size w)
  have H : ((augurylaw05_head.f k).bind fun t569 => ((augurylaw05_GreatEvent.f k a0_0 a0_1 a0_2 a0_3 l0_4).bind fun t570 => (if t570 = true then (augurylaw05_EventOrder.j0 k t569 true a0_0 a0_1 a0_2 a0_3 l0_4 a1_0 a1_1 a1_2 a1_3 l1_4 a2_0 a2_1 a2_2 a2_3 l2_4) else ((augurylaw05_GreatEvent.f k a1_0 a1_1 a1_2 a1_3 l1_4).bind fun t571 => (if t571 = true then (augurylaw05_EventOrder.j0 k t569 true a0_0 a0_1 a0_2 a0_3 l0_4 a1_0 a1_1 a1_2 a1_3 l1_4 a2_0 a2_1 a2_2 a2_3 l2_4) else ((augurylaw05_GreatEvent.f k a2_0 a2_1 a2_2 a2_3 l2_4).bind fun t572 => (augurylaw05_EventOrder.j0 k t569 t572 a0_0 a0_1 a0_2 a0_3 l0_4 a1_0 a1_1 a1_2 a1_3 l1_4 a2_0 a2_1 a2_2 a2_3 l2_4))))))) = some r := h
  clear h
  replace H := Option.bind_eq_some_iff.mp H
  obtain ⟨t569, A40, H⟩ := H
  replace H : ((augurylaw05_GreatEvent.f k a0_0 a0_1 a0_2 a0_3 l0_4).bind fun t570 => (if t570 = true then (augurylaw05_EventOrder.j0 k t569 true a0_0 a0_1 a0_2 a0_3 l0_4 a1_0 a1_1 a1_2 a1_3 l1_4 a2_0 a2_1 a2_2 a2_3 l2_4) else ((augurylaw05_GreatEvent.f k a1_0 a1_1 a1_2 a1_3 l1_4).bind fun t571 => (if t571 = true then (augurylaw05_EventOrder.j0 k t569 true a0_0 a0_1 a0_2 a0_3 l0_4 a1_0 a1_1 a1_2 a1_3 l1_4 a2_0 a2_1 a2_2 a2_3 l2_4) else ((augurylaw05_GreatEvent.f k a2_0 a2_1 a2_2 a2_3 l2_4).bind fun t572 => (augurylaw05_EventOrder.j0 k t569 t572 a0_0 a0_1 a0_2 a0_3 l0_4 a1_0 a1_1 a1_2 a1_3 l1_4 a2_0 a2_1 a2_2 a2_3 l2_4)))))) = some r := H
  have A4 := Aside0.mk A40
  clear A40
  have HC5 := Aside0.mk H
  clear H
  go_enter Try.func6, Try.ntmps6
  go_upto_region 2 with (first | ((with_reducible refine gate_dst (N := 3) rfl ?_); refine box_event ?hg (N := 3) ?hd (cs := #[.int .i64 a0_0, .int .i64 a0_1, .int .i64 a0_2, .string a0_3, .slice A0_4 l0_4.length c0_4]) (t := 25) ?hr ?_; (case hd => rfl); (case hg => rfl); (case hr => first | (go_simp; done) | (go_simp; rfl)); intro gb566 hg w6 hbox hb; have n0_ := Aside0.mk (below_step (by repeat (first | (with_reducible first | exact HB.out | apply below_alloc | apply pw_below_drewN | apply below_drew1) | exact HB.out)) hb); have n1_ := Aside0.mk (hbox); have n2_ := Aside0.mk ((by rw [hg]; exact (below_size (by repeat (first | (with_reducible first | exact HB.out | apply below_alloc | apply pw_below_drewN | apply below_drew1) | exact HB.out))) : w.heap.size ≤ gb566)); have n3_ := Aside0.mk ((by rw [hg]; exact (below_size (by repeat (first | (with_reducible first | exact HB.out | apply below_alloc | apply pw_below_drewN | apply below_drew1) | exact HB.out))) : w.heap.size ≤ gb566)); clear HB; have HB := n0_; have BK566 := n1_; have GW566 := n2_; have GE566 := n3_; clear n0_ n1_ n2_ n3_; clear hb hbox hg) | ((with_reducible refine gate_dst (N := 4) rfl ?_); refine box_event ?hg (N := 4) ?hd (cs := #[.int .i64 a1_0, .int .i64 a1_1, .int .i64 a1_2, .string a1_3, .slice A1_4 l1_4.length c1_4]) (t := 25) ?hr ?_; (case hd => rfl); (case hg => rfl); (case hr => first | (go_simp; done) | (go_simp; rfl)); intro gb567 hg w7 hbox hb; have n0_ := Aside0.mk (blk_below (g := gb566) (o := .cells #[.int .i64 a0_0, .int .i64 a0_1, .int .i64 a0_2, .string a0_3, .slice A0_4 l0_4.length c0_4] 25 (0, 0)) (by (with_reducible repeat (first | refine blk_drewN ?_ _ | refine blk_drew ?_ | refine blk_alloc ?_ _)); exact BK566.out) hb); have n1_ := Aside0.mk (below_step (by repeat (first | (with_reducible first | exact HB.out | apply below_alloc | apply pw_below_drewN | apply below_drew1 | refine below_set ?_ GE566.out) | exact HB.out)) hb); have n2_ := Aside0.mk (hbox); have n3_ := Aside0.mk ((by rw [hg]; exact (below_size (by repeat (first | (with_reducible first | exact HB.out | apply below_alloc | apply pw_below_drewN | apply below_drew1 | refine below_set ?_ GE566.out) | exact HB.out))) : w.heap.size ≤ gb567)); have n4_ := Aside0.mk ((by rw [hg]; exact (below_size (by repeat (first | (with_reducible first | exact HB.out | apply below_alloc | apply pw_below_drewN | apply below_drew1 | refine below_set ?_ GE566.out) | exact HB.out))) : w.heap.size ≤ gb567)); have n5_ := Aside0.mk ((by rw [hg]; exact Nat.ne_of_lt (blk_lt (g := gb566) (o := .cells #[.int .i64 a0_0, .int .i64 a0_1, .int .i64 a0_2, .string a0_3, .slice A0_4 l0_4.length c0_4] 25 (0, 0)) (by (with_reducible repeat (first | refine blk_drewN ?_ _ | refine blk_drew ?_ | refine blk_alloc ?_ _)); exact BK566.out)) : gb566 ≠ gb567)); have n6_ := Aside0.mk ((by rw [hg]; exact Nat.ne_of_gt (blk_lt (g := gb566) (o := .cells #[.int .i64 a0_0, .int .i64 a0_1, .int .i64 a0_2, .string a0_3, .slice A0_4 l0_4.length c0_4] 25 (0, 0)) (by (with_reducible repeat (first | refine blk_drewN ?_ _ | refine blk_drew ?_ | refine blk_alloc ?_ _)); exact BK566.out)) : gb567 ≠ gb566)); clear BK566; clear HB; have BK566 := n0_; have HB := n1_; have BK567 := n2_; have GW567 := n3_; have GE567 := n4_; have NB566_567 := n5_; have NB567_566 := n6_; clear n0_ n1_ n2_ n3_ n4_ n5_ n6_; clear hb hbox hg) | ((with_reducible refine gate_dst (N := 5) rfl ?_); refine box_event ?hg (N := 5) ?hd (cs := #[.int .i64 a2_0, .int .i64 a2_1, .int .i64 a2_2, .string a2_3, .slice A2_4 l2_4.length c2_4]) (t := 25) ?hr ?_; (case hd => rfl); (case hg => rfl); (case hr => first | (go_simp; done) | (go_simp; rfl)); intro gb568 hg w8 hbox hb; have n0_ := Aside0.mk (blk_below (g := gb566) (o := .cells #[.int .i64 a0_0, .int .i64 a0_1, .int .i64 a0_2, .string a0_3, .slice A0_4 l0_4.length c0_4] 25 (0, 0)) (by (with_reducible repeat (first | refine blk_drewN ?_ _ | refine blk_drew ?_ | refine blk_alloc ?_ _)); exact BK566.out) hb); have n1_ := Aside0.mk (blk_below (g := gb567) (o := .cells #[.int .i64 a1_0, .int .i64 a1_1, .int .i64 a1_2, .string a1_3, .slice A1_4 l1_4.length c1_4] 25 (0, 0)) (by (with_reducible repeat (first | refine blk_drewN ?_ _ | refine blk_drew ?_ | refine blk_alloc ?_ _)); exact BK567.out) hb); have n2_ := Aside0.mk (below_step (by repeat (first | (with_reducible first | exact HB.out | apply below_alloc | apply pw_below_drewN | apply below_drew1 | refine below_set ?_ GE566.out | refine below_set ?_ GE567.out) | exact HB.out)) hb); have n3_ := Aside0.mk (hbox); have n4_ := Aside0.mk ((by rw [hg]; exact (below_size (by repeat (first | (with_reducible first | exact HB.out | apply below_alloc | apply pw_below_drewN | apply below_drew1 | refine below_set ?_ GE566.out | refine below_set ?_ GE567.out) | exact HB.out))) : w.heap.size ≤ gb568)); have n5_ := Aside0.mk ((by rw [hg]; exact (below_size (by repeat (first | (with_reducible first | exact HB.out | apply below_alloc | apply pw_below_drewN | apply below_drew1 | refine below_set ?_ GE566.out | refine below_set ?_ GE567.out) | exact HB.out))) : w.heap.size ≤ gb568)); have n6_ := Aside0.mk ((by rw [hg]; exact Nat.ne_of_lt (blk_lt (g := gb566) (o := .cells #[.int .i64 a0_0, .int .i64 a0_1, .int .i64 a0_2, .string a0_3, .slice A0_4 l0_4.length c0_4] 25 (0, 0)) (by (with_reducible repeat (first | refine blk_drewN ?_ _ | refine blk_drew ?_ | refine blk_alloc ?_ _)); exact BK566.out)) : gb566 ≠ gb568)); have n7_ := Aside0.mk ((by rw [hg]; exact Nat.ne_of_gt (blk_lt (g := gb566) (o := .cells #[.int .i64 a0_0, .int .i64 a0_1, .int .i64 a0_2, .string a0_3, .slice A0_4 l0_4.length c0_4] 25 (0, 0)) (by (with_reducible repeat (first | refine blk_drewN ?_ _ | refine blk_drew ?_ | refine blk_alloc ?_ _)); exact BK566.out)) : gb568 ≠ gb566)); have n8_ := Aside0.mk ((by rw [hg]; exact Nat.ne_of_lt (blk_lt (g := gb567) (o := .cells #[.int .i64 a1_0, .int .i64 a1_1, .int .i64 a1_2, .string a1_3, .slice A1_4 l1_4.length c1_4] 25 (0, 0)) (by (with_reducible repeat (first | refine blk_drewN ?_ _ | refine blk_drew ?_ | refine blk_alloc ?_ _)); exact BK567.out)) : gb567 ≠ gb568)); have n9_ := Aside0.mk ((by rw [hg]; exact Nat.ne_of_gt (blk_lt (g := gb567) (o := .cells #[.int .i64 a1_0, .int .i64 a1_1, .int .i64 a1_2, .string a1_3, .slice A1_4 l1_4.length c1_4] 25 (0, 0)) (by (with_reducible repeat (first | refine blk_drewN ?_ _ | refine blk_drew ?_ | refine blk_alloc ?_ _)); exact BK567.out)) : gb568 ≠ gb567)); clear BK566; clear BK567; clear HB; have BK566 := n0_; have BK567 := n1_; have HB := n2_; have BK568 := n3_; have GW568 := n4_; have GE568 := n5_; have NB566_568 := n6_; have NB568_566 := n7_; have NB567_568 := n8_; have NB568_567 := n9_; clear n0_ n1_ n2_ n3_ n4_ n5_ n6_ n7_ n8_ n9_; clear hb hbox hg) | ((with_reducible refine gate_callee (f := 9) rfl ?_); refine goesL_ (some 11) rfl rfl Try.func9 (by kernel_rfl) rfl #[] rfl (by (try simp only [List.map_toArray, List.map_cons, List.map_nil]); first | done | rfl | (simp only [List.length_drop, List.length_take]; rfl)) ?_; (with_reducible refine (augurylaw05_head.calls k  t569 _ A4.out).mono ?_); rintro e w9 ⟨rfl, hb⟩; refine ⟨_, rfl, ?_⟩; have n0_ := Aside0.mk (blk_below (g := gb566) (o := .cells #[.int .i64 a0_0, .int .i64 a0_1, .int .i64 a0_2, .string a0_3, .slice A0_4 l0_4.length c0_4] 25 (0, 0)) (by (with_reducible repeat (first | refine blk_drewN ?_ _ | refine blk_drew ?_ | refine blk_alloc ?_ _)); exact BK566.out) hb); have n1_ := Aside0.mk (blk_below (g := gb567) (o := .cells #[.int .i64 a1_0, .int .i64 a1_1, .int .i64 a1_2, .string a1_3, .slice A1_4 l1_4.length c1_4] 25 (0, 0)) (by (with_reducible repeat (first | refine blk_drewN ?_ _ | refine blk_drew ?_ | refine blk_alloc ?_ _)); exact BK567.out) hb); have n2_ := Aside0.mk (blk_below (g := gb568) (o := .cells #[.int .i64 a2_0, .int .i64 a2_1, .int .i64 a2_2, .string a2_3, .slice A2_4 l2_4.length c2_4] 25 (0, 0)) (by (with_reducible repeat (first | refine blk_drewN ?_ _ | refine blk_drew ?_ | refine blk_alloc ?_ _)); exact BK568.out) hb); have n3_ := Aside0.mk (below_step (by repeat (first | (with_reducible first | exact HB.out | apply below_alloc | apply pw_below_drewN | apply below_drew1 | refine below_set ?_ GE566.out | refine below_set ?_ GE567.out | refine below_set ?_ GE568.out) | exact HB.out)) hb); clear BK566; clear BK567; clear BK568; clear HB; have BK566 := n0_; have BK567 := n1_; have BK568 := n2_; have HB := n3_; clear n0_ n1_ n2_ n3_; (try clear hb); (try clear hb2); (try clear hk); (try clear hi)))
  (try simp only [Act.put, List.setIfInBounds_toArray, List.set_cons_zero, List.set_cons_succ])
  go_cut [21] (fun v21 wc => ∃ (kq : Nat) (x21_4 : Bool), v21 = .bool x21_4 ∧ Aside0 (augurylaw05_EventOrder.j0 kq t569 x21_4 a0_0 a0_1 a0_2 a0_3 l0_4 a1_0 a1_1 a1_2 a1_3 l1_4 a2_0 a2_1 a2_2 a2_3 l2_4 = some r) ∧ Aside0 (kq ≤ k) ∧ Aside0 (wc.heap[gb566]? = some (.cells #[.int .i64 a0_0, .int .i64 a0_1, .int .i64 a0_2, .string a0_3, (.slice A0_4 l0_4.length c0_4)] 25 (0, 0))) ∧ Aside0 (wc.heap[gb567]? = some (.cells #[.int .i64 a1_0, .int .i64 a1_1, .int .i64 a1_2, .string a1_3, (.slice A1_4 l1_4.length c1_4)] 25 (0, 0))) ∧ Aside0 (wc.heap[gb568]? = some (.cells #[.int .i64 a2_0, .int .i64 a2_1, .int .i64 a2_2, .string a2_3, (.slice A2_4 l2_4.length c2_4)] 25 (0, 0))) ∧ Aside0 (Below w.heap.size w wc))
  case first =>
    have H := HC5.out
    clear HC5
    replace H := Option.bind_eq_some_iff.mp H
    obtain ⟨t570, A100, H⟩ := H
    replace H : (if t570 = true then (augurylaw05_EventOrder.j0 k t569 true a0_0 a0_1 a0_2 a0_3 l0_4 a1_0 a1_1 a1_2 a1_3 l1_4 a2_0 a2_1 a2_2 a2_3 l2_4) else ((augurylaw05_GreatEvent.f k a1_0 a1_1 a1_2 a1_3 l1_4).bind fun t571 => (if t571 = true then (augurylaw05_EventOrder.j0 k t569 true a0_0 a0_1 a0_2 a0_3 l0_4 a1_0 a1_1 a1_2 a1_3 l1_4 a2_0 a2_1 a2_2 a2_3 l2_4) else ((augurylaw05_GreatEvent.f k a2_0 a2_1 a2_2 a2_3 l2_4).bind fun t572 => (augurylaw05_EventOrder.j0 k t569 t572 a0_0 a0_1 a0_2 a0_3 l0_4 a1_0 a1_1 a1_2 a1_3 l1_4 a2_0 a2_1 a2_2 a2_3 l2_4))))) = some r := H
    have A10 := Aside0.mk A100
    clear A100
    by_cases c11 : t570 = true
    · subst c11
      have H1 : (augurylaw05_EventOrder.j0 k t569 true a0_0 a0_1 a0_2 a0_3 l0_4 a1_0 a1_1 a1_2 a1_3 l1_4 a2_0 a2_1 a2_2 a2_3 l2_4) = some r := by rw [if_pos rfl] at H; exact H
      clear H
      have H := H1
      clear H1
      have H' := Aside0.mk H
      clear H
      have hnb12 := NB566_567.out
      have hnc12 := NB567_566.out
      have hnb13 := NB566_568.out
      have hnc13 := NB568_566.out
      have hcz14_0 : w9.cell? ⟨gb566, 0, none⟩ = some (.int .i64 a0_0) := (blk_cell BK566.out 0).trans rfl
      have hcz14_1 : w9.cell? ⟨gb566, 1, none⟩ = some (.int .i64 a0_1) := (blk_cell BK566.out 1).trans rfl
      have hcz14_2 : w9.cell? ⟨gb566, 2, none⟩ = some (.int .i64 a0_2) := (blk_cell BK566.out 2).trans rfl
      have hcz14_3 : w9.cell? ⟨gb566, 3, none⟩ = some (.string a0_3) := (blk_cell BK566.out 3).trans rfl
      have hcz14_4 : w9.cell? ⟨gb566, 4, none⟩ = some (.slice A0_4 l0_4.length c0_4) := (blk_cell BK566.out 4).trans rfl
      have hfz14_0 := blk_frozen BK566.out 0
      have hfz14_1 := blk_frozen BK566.out 1
      have hfz14_2 := blk_frozen BK566.out 2
      have hfz14_3 := blk_frozen BK566.out 3
      have hfz14_4 := blk_frozen BK566.out 4
      go_wp2_with (first | ((with_reducible refine gate_callee (f := 11) rfl ?_); refine goesL_ (some 13) rfl rfl Try.func11 (by kernel_rfl) rfl #[.agg #[.int .i64 a0_0, .int .i64 a0_1, .int .i64 a0_2, .string a0_3, .slice A0_4 l0_4.length c0_4]] rfl (by (try simp only [List.map_toArray, List.map_cons, List.map_nil]); first | done | rfl | (simp only [List.length_drop, List.length_take]; rfl)) ?_; (with_reducible refine (augurylaw05_GreatEvent.calls k a0_0 a0_1 a0_2 a0_3 _ _ l0_4 true _ ?side1 ?side2 A10.out).mono ?_); (case side1 => repeat (first | exact (Kd.C_below HR0_4.out HB.out) | (with_reducible refine Kd.C_alloc ?_ _) | (with_reducible refine Kd.C_drewN ?_ _) | (with_reducible refine Kd.C_drew ?_))); (case side2 => exact HC0_4.out); rintro e w15 ⟨rfl, hb⟩; refine ⟨_, rfl, ?_⟩; have n0_ := Aside0.mk (blk_below (g := gb566) (o := .cells #[.int .i64 a0_0, .int .i64 a0_1, .int .i64 a0_2, .string a0_3, .slice A0_4 l0_4.length c0_4] 25 (0, 0)) (by (with_reducible repeat (first | refine blk_drewN ?_ _ | refine blk_drew ?_ | refine blk_alloc ?_ _)); exact BK566.out) hb); have n1_ := Aside0.mk (blk_below (g := gb567) (o := .cells #[.int .i64 a1_0, .int .i64 a1_1, .int .i64 a1_2, .string a1_3, .slice A1_4 l1_4.length c1_4] 25 (0, 0)) (by (with_reducible repeat (first | refine blk_drewN ?_ _ | refine blk_drew ?_ | refine blk_alloc ?_ _)); exact BK567.out) hb); have n2_ := Aside0.mk (blk_below (g := gb568) (o := .cells #[.int .i64 a2_0, .int .i64 a2_1, .int .i64 a2_2, .string a2_3, .slice A2_4 l2_4.length c2_4] 25 (0, 0)) (by (with_reducible repeat (first | refine blk_drewN ?_ _ | refine blk_drew ?_ | refine blk_alloc ?_ _)); exact BK568.out) hb); have n3_ := Aside0.mk (below_step (by repeat (first | (with_reducible first | exact HB.out | apply below_alloc | apply pw_below_drewN | apply below_drew1 | refine below_set ?_ GE566.out | refine below_set ?_ GE567.out | refine below_set ?_ GE568.out) | exact HB.out)) hb); clear BK566; clear BK567; clear BK568; clear HB; have BK566 := n0_; have BK567 := n1_; have BK568 := n2_; have HB := n3_; clear n0_ n1_ n2_ n3_; (try clear hb); (try clear hb2); (try clear hk); (try clear hi)))
      go_meet
      case rel => exact ⟨_, (true), (by first | rfl | (simp; done) | (simp [*]; done) | grind), H', ⟨by first | omega | exact Nat.le_refl _⟩, ⟨by (with_reducible repeat (first | refine blk_drewN ?_ _ | refine blk_drew ?_ | refine blk_alloc ?_ _)); exact BK566.out⟩, ⟨by (with_reducible repeat (first | refine blk_drewN ?_ _ | refine blk_drew ?_ | refine blk_alloc ?_ _)); exact BK567.out⟩, ⟨by (with_reducible repeat (first | refine blk_drewN ?_ _ | refine blk_drew ?_ | refine blk_alloc ?_ _)); exact BK568.out⟩, ⟨by repeat (first | (with_reducible first | exact HB.out | apply below_alloc | apply pw_below_drewN | apply below_drew1 | refine below_set ?_ GE566.out | refine below_set ?_ GE567.out | refine below_set ?_ GE568.out) | exact HB.out)⟩⟩
    · replace c11 := Bool.eq_false_iff.mpr c11
      subst c11
      have H1 : ((augurylaw05_GreatEvent.f k a1_0 a1_1 a1_2 a1_3 l1_4).bind fun t571 => (if t571 = true then (augurylaw05_EventOrder.j0 k t569 true a0_0 a0_1 a0_2 a0_3 l0_4 a1_0 a1_1 a1_2 a1_3 l1_4 a2_0 a2_1 a2_2 a2_3 l2_4) else ((augurylaw05_GreatEvent.f k a2_0 a2_1 a2_2 a2_3 l2_4).bind fun t572 => (augurylaw05_EventOrder.j0 k t569 t572 a0_0 a0_1 a0_2 a0_3 l0_4 a1_0 a1_1 a1_2 a1_3 l1_4 a2_0 a2_1 a2_2 a2_3 l2_4)))) = some r := by rw [if_neg (show ¬ (false = true) by decide)] at H; exact H
      clear H
      have H := H1
      clear H1
      replace H := Option.bind_eq_some_iff.mp H
      obtain ⟨t571, A160, H⟩ := H
      replace H : (if t571 = true then (augurylaw05_EventOrder.j0 k t569 true a0_0 a0_1 a0_2 a0_3 l0_4 a1_0 a1_1 a1_2 a1_3 l1_4 a2_0 a2_1 a2_2 a2_3 l2_4) else ((augurylaw05_GreatEvent.f k a2_0 a2_1 a2_2 a2_3 l2_4).bind fun t572 => (augurylaw05_EventOrder.j0 k t569 t572 a0_0 a0_1 a0_2 a0_3 l0_4 a1_0 a1_1 a1_2 a1_3 l1_4 a2_0 a2_1 a2_2 a2_3 l2_4))) = some r := H
      have A16 := Aside0.mk A160
      clear A160
      by_cases c17 : t571 = true
      · subst c17
        have H1 : (augurylaw05_EventOrder.j0 k t569 true a0_0 a0_1 a0_2 a0_3 l0_4 a1_0 a1_1 a1_2 a1_3 l1_4 a2_0 a2_1 a2_2 a2_3 l2_4) = some r := by rw [if_pos rfl] at H; exact H
        clear H
        have H := H1
        clear H1
        have H' := Aside0.mk H
        clear H
        have hnb18 := NB566_567.out
        have hnc18 := NB567_566.out
        have hnb19 := NB566_568.out
        have hnc19 := NB568_566.out
        have hcz20_0 : w9.cell? ⟨gb566, 0, none⟩ = some (.int .i64 a0_0) := (blk_cell BK566.out 0).trans rfl
        have hcz20_1 : w9.cell? ⟨gb566, 1, none⟩ = some (.int .i64 a0_1) := (blk_cell BK566.out 1).trans rfl
        have hcz20_2 : w9.cell? ⟨gb566, 2, none⟩ = some (.int .i64 a0_2) := (blk_cell BK566.out 2).trans rfl
        have hcz20_3 : w9.cell? ⟨gb566, 3, none⟩ = some (.string a0_3) := (blk_cell BK566.out 3).trans rfl
        have hcz20_4 : w9.cell? ⟨gb566, 4, none⟩ = some (.slice A0_4 l0_4.length c0_4) := (blk_cell BK566.out 4).trans rfl
        have hfz20_0 := blk_frozen BK566.out 0
        have hfz20_1 := blk_frozen BK566.out 1
        have hfz20_2 := blk_frozen BK566.out 2
        have hfz20_3 := blk_frozen BK566.out 3
        have hfz20_4 := blk_frozen BK566.out 4
        go_wp2_with (first | ((with_reducible refine gate_callee (f := 11) rfl ?_); refine goesL_ (some 13) rfl rfl Try.func11 (by kernel_rfl) rfl #[.agg #[.int .i64 a0_0, .int .i64 a0_1, .int .i64 a0_2, .string a0_3, .slice A0_4 l0_4.length c0_4]] rfl (by (try simp only [List.map_toArray, List.map_cons, List.map_nil]); first | done | rfl | (simp only [List.length_drop, List.length_take]; rfl)) ?_; (with_reducible refine (augurylaw05_GreatEvent.calls k a0_0 a0_1 a0_2 a0_3 _ _ l0_4 false _ ?side1 ?side2 A10.out).mono ?_); (case side1 => repeat (first | exact (Kd.C_below HR0_4.out HB.out) | (with_reducible refine Kd.C_alloc ?_ _) | (with_reducible refine Kd.C_drewN ?_ _) | (with_reducible refine Kd.C_drew ?_))); (case side2 => exact HC0_4.out); rintro e w21 ⟨rfl, hb⟩; refine ⟨_, rfl, ?_⟩; have n0_ := Aside0.mk (blk_below (g := gb566) (o := .cells #[.int .i64 a0_0, .int .i64 a0_1, .int .i64 a0_2, .string a0_3, .slice A0_4 l0_4.length c0_4] 25 (0, 0)) (by (with_reducible repeat (first | refine blk_drewN ?_ _ | refine blk_drew ?_ | refine blk_alloc ?_ _)); exact BK566.out) hb); have n1_ := Aside0.mk (blk_below (g := gb567) (o := .cells #[.int .i64 a1_0, .int .i64 a1_1, .int .i64 a1_2, .string a1_3, .slice A1_4 l1_4.length c1_4] 25 (0, 0)) (by (with_reducible repeat (first | refine blk_drewN ?_ _ | refine blk_drew ?_ | refine blk_alloc ?_ _)); exact BK567.out) hb); have n2_ := Aside0.mk (blk_below (g := gb568) (o := .cells #[.int .i64 a2_0, .int .i64 a2_1, .int .i64 a2_2, .string a2_3, .slice A2_4 l2_4.length c2_4] 25 (0, 0)) (by (with_reducible repeat (first | refine blk_drewN ?_ _ | refine blk_drew ?_ | refine blk_alloc ?_ _)); exact BK568.out) hb); have n3_ := Aside0.mk (below_step (by repeat (first | (with_reducible first | exact HB.out | apply below_alloc | apply pw_below_drewN | apply below_drew1 | refine below_set ?_ GE566.out | refine below_set ?_ GE567.out | refine below_set ?_ GE568.out) | exact HB.out)) hb); clear BK566; clear BK567; clear BK568; clear HB; have BK566 := n0_; have BK567 := n1_; have BK568 := n2_; have HB := n3_; clear n0_ n1_ n2_ n3_; (try clear hb); (try clear hb2); (try clear hk); (try clear hi); have hnb22 := NB567_568.out; have hnc22 := NB568_567.out; have hcz23_0 : w21.cell? ⟨gb567, 0, none⟩ = some (.int .i64 a1_0) := (blk_cell BK567.out 0).trans rfl; have hcz23_1 : w21.cell? ⟨gb567, 1, none⟩ = some (.int .i64 a1_1) := (blk_cell BK567.out 1).trans rfl; have hcz23_2 : w21.cell? ⟨gb567, 2, none⟩ = some (.int .i64 a1_2) := (blk_cell BK567.out 2).trans rfl; have hcz23_3 : w21.cell? ⟨gb567, 3, none⟩ = some (.string a1_3) := (blk_cell BK567.out 3).trans rfl; have hcz23_4 : w21.cell? ⟨gb567, 4, none⟩ = some (.slice A1_4 l1_4.length c1_4) := (blk_cell BK567.out 4).trans rfl; have hfz23_0 := blk_frozen BK567.out 0; have hfz23_1 := blk_frozen BK567.out 1; have hfz23_2 := blk_frozen BK567.out 2; have hfz23_3 := blk_frozen BK567.out 3; have hfz23_4 := blk_frozen BK567.out 4) | (go_at_call 11; (with_reducible refine (augurylaw05_GreatEvent.calls k a1_0 a1_1 a1_2 a1_3 _ _ l1_4 true _ ?side1 ?side2 A16.out).mono ?_); (case side1 => repeat (first | exact (Kd.C_below HR1_4.out HB.out) | (with_reducible refine Kd.C_alloc ?_ _) | (with_reducible refine Kd.C_drewN ?_ _) | (with_reducible refine Kd.C_drew ?_))); (case side2 => exact HC1_4.out); rintro e w24 ⟨rfl, hb⟩; have n0_ := Aside0.mk (blk_below (g := gb566) (o := .cells #[.int .i64 a0_0, .int .i64 a0_1, .int .i64 a0_2, .string a0_3, .slice A0_4 l0_4.length c0_4] 25 (0, 0)) (by (with_reducible repeat (first | refine blk_drewN ?_ _ | refine blk_drew ?_ | refine blk_alloc ?_ _)); exact BK566.out) hb); have n1_ := Aside0.mk (blk_below (g := gb567) (o := .cells #[.int .i64 a1_0, .int .i64 a1_1, .int .i64 a1_2, .string a1_3, .slice A1_4 l1_4.length c1_4] 25 (0, 0)) (by (with_reducible repeat (first | refine blk_drewN ?_ _ | refine blk_drew ?_ | refine blk_alloc ?_ _)); exact BK567.out) hb); have n2_ := Aside0.mk (blk_below (g := gb568) (o := .cells #[.int .i64 a2_0, .int .i64 a2_1, .int .i64 a2_2, .string a2_3, .slice A2_4 l2_4.length c2_4] 25 (0, 0)) (by (with_reducible repeat (first | refine blk_drewN ?_ _ | refine blk_drew ?_ | refine blk_alloc ?_ _)); exact BK568.out) hb); have n3_ := Aside0.mk (below_step (by repeat (first | (with_reducible first | exact HB.out | apply below_alloc | apply pw_below_drewN | apply below_drew1 | refine below_set ?_ GE566.out | refine below_set ?_ GE567.out | refine below_set ?_ GE568.out) | exact HB.out)) hb); clear BK566; clear BK567; clear BK568; clear HB; have BK566 := n0_; have BK567 := n1_; have BK568 := n2_; have HB := n3_; clear n0_ n1_ n2_ n3_; (try clear hb); (try clear hb2); (try clear hk); (try clear hi)))
        go_meet
        case rel => exact ⟨_, (true), (by first | rfl | (simp; done) | (simp [*]; done) | grind), H', ⟨by first | omega | exact Nat.le_refl _⟩, ⟨by (with_reducible repeat (first | refine blk_drewN ?_ _ | refine blk_drew ?_ | refine blk_alloc ?_ _)); exact BK566.out⟩, ⟨by (with_reducible repeat (first | refine blk_drewN ?_ _ | refine blk_drew ?_ | refine blk_alloc ?_ _)); exact BK567.out⟩, ⟨by (with_reducible repeat (first | refine blk_drewN ?_ _ | refine blk_drew ?_ | refine blk_alloc ?_ _)); exact BK568.out⟩, ⟨by repeat (first | (with_reducible first | exact HB.out | apply below_alloc | apply pw_below_drewN | apply below_drew1 | refine below_set ?_ GE566.out | refine below_set ?_ GE567.out | refine below_set ?_ GE568.out) | exact HB.out)⟩⟩
      · replace c17 := Bool.eq_false_iff.mpr c17
        subst c17
        have H1 : ((augurylaw05_GreatEvent.f k a2_0 a2_1 a2_2 a2_3 l2_4).bind fun t572 => (augurylaw05_EventOrder.j0 k t569 t572 a0_0 a0_1 a0_2 a0_3 l0_4 a1_0 a1_1 a1_2 a1_3 l1_4 a2_0 a2_1 a2_2 a2_3 l2_4)) = some r := by rw [if_neg (show ¬ (false = true) by decide)] at H; exact H
        clear H
        have H := H1
        clear H1
        replace H := Option.bind_eq_some_iff.mp H
        obtain ⟨t572, A250, H⟩ := H
        replace H : (augurylaw05_EventOrder.j0 k t569 t572 a0_0 a0_1 a0_2 a0_3 l0_4 a1_0 a1_1 a1_2 a1_3 l1_4 a2_0 a2_1 a2_2 a2_3 l2_4) = some r := H
        have A25 := Aside0.mk A250
        clear A250
        have H' := Aside0.mk H
        clear H
        have hnb26 := NB566_567.out
        have hnc26 := NB567_566.out
        have hnb27 := NB566_568.out
        have hnc27 := NB568_566.out
        have hcz28_0 : w9.cell? ⟨gb566, 0, none⟩ = some (.int .i64 a0_0) := (blk_cell BK566.out 0).trans rfl
        have hcz28_1 : w9.cell? ⟨gb566, 1, none⟩ = some (.int .i64 a0_1) := (blk_cell BK566.out 1).trans rfl
        have hcz28_2 : w9.cell? ⟨gb566, 2, none⟩ = some (.int .i64 a0_2) := (blk_cell BK566.out 2).trans rfl
        have hcz28_3 : w9.cell? ⟨gb566, 3, none⟩ = some (.string a0_3) := (blk_cell BK566.out 3).trans rfl
        have hcz28_4 : w9.cell? ⟨gb566, 4, none⟩ = some (.slice A0_4 l0_4.length c0_4) := (blk_cell BK566.out 4).trans rfl
        have hfz28_0 := blk_frozen BK566.out 0
        have hfz28_1 := blk_frozen BK566.out 1
        have hfz28_2 := blk_frozen BK566.out 2
        have hfz28_3 := blk_frozen BK566.out 3
        have hfz28_4 := blk_frozen BK566.out 4
        go_wp2_with (first | ((with_reducible refine gate_callee (f := 11) rfl ?_); refine goesL_ (some 13) rfl rfl Try.func11 (by kernel_rfl) rfl #[.agg #[.int .i64 a0_0, .int .i64 a0_1, .int .i64 a0_2, .string a0_3, .slice A0_4 l0_4.length c0_4]] rfl (by (try simp only [List.map_toArray, List.map_cons, List.map_nil]); first | done | rfl | (simp only [List.length_drop, List.length_take]; rfl)) ?_; (with_reducible refine (augurylaw05_GreatEvent.calls k a0_0 a0_1 a0_2 a0_3 _ _ l0_4 false _ ?side1 ?side2 A10.out).mono ?_); (case side1 => repeat (first | exact (Kd.C_below HR0_4.out HB.out) | (with_reducible refine Kd.C_alloc ?_ _) | (with_reducible refine Kd.C_drewN ?_ _) | (with_reducible refine Kd.C_drew ?_))); (case side2 => exact HC0_4.out); rintro e w29 ⟨rfl, hb⟩; refine ⟨_, rfl, ?_⟩; have n0_ := Aside0.mk (blk_below (g := gb566) (o := .cells #[.int .i64 a0_0, .int .i64 a0_1, .int .i64 a0_2, .string a0_3, .slice A0_4 l0_4.length c0_4] 25 (0, 0)) (by (with_reducible repeat (first | refine blk_drewN ?_ _ | refine blk_drew ?_ | refine blk_alloc ?_ _)); exact BK566.out) hb); have n1_ := Aside0.mk (blk_below (g := gb567) (o := .cells #[.int .i64 a1_0, .int .i64 a1_1, .int .i64 a1_2, .string a1_3, .slice A1_4 l1_4.length c1_4] 25 (0, 0)) (by (with_reducible repeat (first | refine blk_drewN ?_ _ | refine blk_drew ?_ | refine blk_alloc ?_ _)); exact BK567.out) hb); have n2_ := Aside0.mk (blk_below (g := gb568) (o := .cells #[.int .i64 a2_0, .int .i64 a2_1, .int .i64 a2_2, .string a2_3, .slice A2_4 l2_4.length c2_4] 25 (0, 0)) (by (with_reducible repeat (first | refine blk_drewN ?_ _ | refine blk_drew ?_ | refine blk_alloc ?_ _)); exact BK568.out) hb); have n3_ := Aside0.mk (below_step (by repeat (first | (with_reducible first | exact HB.out | apply below_alloc | apply pw_below_drewN | apply below_drew1 | refine below_set ?_ GE566.out | refine below_set ?_ GE567.out | refine below_set ?_ GE568.out) | exact HB.out)) hb); clear BK566; clear BK567; clear BK568; clear HB; have BK566 := n0_; have BK567 := n1_; have BK568 := n2_; have HB := n3_; clear n0_ n1_ n2_ n3_; (try clear hb); (try clear hb2); (try clear hk); (try clear hi); have hnb30 := NB567_568.out; have hnc30 := NB568_567.out; have hcz31_0 : w29.cell? ⟨gb567, 0, none⟩ = some (.int .i64 a1_0) := (blk_cell BK567.out 0).trans rfl; have hcz31_1 : w29.cell? ⟨gb567, 1, none⟩ = some (.int .i64 a1_1) := (blk_cell BK567.out 1).trans rfl; have hcz31_2 : w29.cell? ⟨gb567, 2, none⟩ = some (.int .i64 a1_2) := (blk_cell BK567.out 2).trans rfl; have hcz31_3 : w29.cell? ⟨gb567, 3, none⟩ = some (.string a1_3) := (blk_cell BK567.out 3).trans rfl; have hcz31_4 : w29.cell? ⟨gb567, 4, none⟩ = some (.slice A1_4 l1_4.length c1_4) := (blk_cell BK567.out 4).trans rfl; have hfz31_0 := blk_frozen BK567.out 0; have hfz31_1 := blk_frozen BK567.out 1; have hfz31_2 := blk_frozen BK567.out 2; have hfz31_3 := blk_frozen BK567.out 3; have hfz31_4 := blk_frozen BK567.out 4) | (go_at_call 11; (with_reducible refine (augurylaw05_GreatEvent.calls k a1_0 a1_1 a1_2 a1_3 _ _ l1_4 false _ ?side1 ?side2 A16.out).mono ?_); (case side1 => repeat (first | exact (Kd.C_below HR1_4.out HB.out) | (with_reducible refine Kd.C_alloc ?_ _) | (with_reducible refine Kd.C_drewN ?_ _) | (with_reducible refine Kd.C_drew ?_))); (case side2 => exact HC1_4.out); rintro e w32 ⟨rfl, hb⟩; have n0_ := Aside0.mk (blk_below (g := gb566) (o := .cells #[.int .i64 a0_0, .int .i64 a0_1, .int .i64 a0_2, .string a0_3, .slice A0_4 l0_4.length c0_4] 25 (0, 0)) (by (with_reducible repeat (first | refine blk_drewN ?_ _ | refine blk_drew ?_ | refine blk_alloc ?_ _)); exact BK566.out) hb); have n1_ := Aside0.mk (blk_below (g := gb567) (o := .cells #[.int .i64 a1_0, .int .i64 a1_1, .int .i64 a1_2, .string a1_3, .slice A1_4 l1_4.length c1_4] 25 (0, 0)) (by (with_reducible repeat (first | refine blk_drewN ?_ _ | refine blk_drew ?_ | refine blk_alloc ?_ _)); exact BK567.out) hb); have n2_ := Aside0.mk (blk_below (g := gb568) (o := .cells #[.int .i64 a2_0, .int .i64 a2_1, .int .i64 a2_2, .string a2_3, .slice A2_4 l2_4.length c2_4] 25 (0, 0)) (by (with_reducible repeat (first | refine blk_drewN ?_ _ | refine blk_drew ?_ | refine blk_alloc ?_ _)); exact BK568.out) hb); have n3_ := Aside0.mk (below_step (by repeat (first | (with_reducible first | exact HB.out | apply below_alloc | apply pw_below_drewN | apply below_drew1 | refine below_set ?_ GE566.out | refine below_set ?_ GE567.out | refine below_set ?_ GE568.out) | exact HB.out)) hb); clear BK566; clear BK567; clear BK568; clear HB; have BK566 := n0_; have BK567 := n1_; have BK568 := n2_; have HB := n3_; clear n0_ n1_ n2_ n3_; (try clear hb); (try clear hb2); (try clear hk); (try clear hi); have hcz33_0 : w32.cell? ⟨gb568, 0, none⟩ = some (.int .i64 a2_0) := (blk_cell BK568.out 0).trans rfl; have hcz33_1 : w32.cell? ⟨gb568, 1, none⟩ = some (.int .i64 a2_1) := (blk_cell BK568.out 1).trans rfl; have hcz33_2 : w32.cell? ⟨gb568, 2, none⟩ = some (.int .i64 a2_2) := (blk_cell BK568.out 2).trans rfl; have hcz33_3 : w32.cell? ⟨gb568, 3, none⟩ = some (.string a2_3) := (blk_cell BK568.out 3).trans rfl; have hcz33_4 : w32.cell? ⟨gb568, 4, none⟩ = some (.slice A2_4 l2_4.length c2_4) := (blk_cell BK568.out 4).trans rfl; have hfz33_0 := blk_frozen BK568.out 0; have hfz33_1 := blk_frozen BK568.out 1; have hfz33_2 := blk_frozen BK568.out 2; have hfz33_3 := blk_frozen BK568.out 3; have hfz33_4 := blk_frozen BK568.out 4) | (go_at_call 11; (with_reducible refine (augurylaw05_GreatEvent.calls k a2_0 a2_1 a2_2 a2_3 _ _ l2_4 t572 _ ?side1 ?side2 A25.out).mono ?_); (case side1 => repeat (first | exact (Kd.C_below HR2_4.out HB.out) | (with_reducible refine Kd.C_alloc ?_ _) | (with_reducible refine Kd.C_drewN ?_ _) | (with_reducible refine Kd.C_drew ?_))); (case side2 => exact HC2_4.out); rintro e w34 ⟨rfl, hb⟩; have n0_ := Aside0.mk (blk_below (g := gb566) (o := .cells #[.int .i64 a0_0, .int .i64 a0_1, .int .i64 a0_2, .string a0_3, .slice A0_4 l0_4.length c0_4] 25 (0, 0)) (by (with_reducible repeat (first | refine blk_drewN ?_ _ | refine blk_drew ?_ | refine blk_alloc ?_ _)); exact BK566.out) hb); have n1_ := Aside0.mk (blk_below (g := gb567) (o := .cells #[.int .i64 a1_0, .int .i64 a1_1, .int .i64 a1_2, .string a1_3, .slice A1_4 l1_4.length c1_4] 25 (0, 0)) (by (with_reducible repeat (first | refine blk_drewN ?_ _ | refine blk_drew ?_ | refine blk_alloc ?_ _)); exact BK567.out) hb); have n2_ := Aside0.mk (blk_below (g := gb568) (o := .cells #[.int .i64 a2_0, .int .i64 a2_1, .int .i64 a2_2, .string a2_3, .slice A2_4 l2_4.length c2_4] 25 (0, 0)) (by (with_reducible repeat (first | refine blk_drewN ?_ _ | refine blk_drew ?_ | refine blk_alloc ?_ _)); exact BK568.out) hb); have n3_ := Aside0.mk (below_step (by repeat (first | (with_reducible first | exact HB.out | apply below_alloc | apply pw_below_drewN | apply below_drew1 | refine below_set ?_ GE566.out | refine below_set ?_ GE567.out | refine below_set ?_ GE568.out) | exact HB.out)) hb); clear BK566; clear BK567; clear BK568; clear HB; have BK566 := n0_; have BK567 := n1_; have BK568 := n2_; have HB := n3_; clear n0_ n1_ n2_ n3_; (try clear hb); (try clear hb2); (try clear hk); (try clear hi)))
        go_meet
        case rel => exact ⟨_, (t572), (by first | rfl | (simp; done) | (simp [*]; done) | grind), H', ⟨by first | omega | exact Nat.le_refl _⟩, ⟨by (with_reducible repeat (first | refine blk_drewN ?_ _ | refine blk_drew ?_ | refine blk_alloc ?_ _)); exact BK566.out⟩, ⟨by (with_reducible repeat (first | refine blk_drewN ?_ _ | refine blk_drew ?_ | refine blk_alloc ?_ _)); exact BK567.out⟩, ⟨by (with_reducible repeat (first | refine blk_drewN ?_ _ | refine blk_drew ?_ | refine blk_alloc ?_ _)); exact BK568.out⟩, ⟨by repeat (first | (with_reducible first | exact HB.out | apply below_alloc | apply pw_below_drewN | apply below_drew1 | refine below_set ?_ GE566.out | refine below_set ?_ GE567.out | refine below_set ?_ GE568.out) | exact HB.out)⟩⟩
  case rest =>
    clear HC5
    try clear c1
    try clear c2
    try clear p2
    try clear c3
    try clear c6
    try clear c9
    try clear c11
    try clear c12
    try clear c13
    try clear c17
    try clear c18
    try clear c19
    try clear c22
    try clear c26
    try clear c27
    try clear c30
    try clear hcz14_0
    try clear hcz14_1
    try clear hcz14_2
    try clear hcz14_3
    try clear hcz14_4
    try clear hcz20_0
    try clear hcz20_1
    try clear hcz20_2
    try clear hcz20_3
    try clear hcz20_4
    try clear hcz23_0
    try clear hcz23_1
    try clear hcz23_2
    try clear hcz23_3
    try clear hcz23_4
    try clear hcz28_0
    try clear hcz28_1
    try clear hcz28_2
    try clear hcz28_3
    try clear hcz28_4
    try clear hcz31_0
    try clear hcz31_1
    try clear hcz31_2
    try clear hcz31_3
    try clear hcz31_4
    try clear hcz33_0
    try clear hcz33_1
    try clear hcz33_2
    try clear hcz33_3
    try clear hcz33_4
    try clear hfz14_0
    try clear hfz14_1
    try clear hfz14_2
    try clear hfz14_3
    try clear hfz14_4
    try clear hfz20_0
    try clear hfz20_1
    try clear hfz20_2
    try clear hfz20_3
    try clear hfz20_4
    try clear hfz23_0
    try clear hfz23_1
    try clear hfz23_2
    try clear hfz23_3
    try clear hfz23_4
    try clear hfz28_0
    try clear hfz28_1
    try clear hfz28_2
    try clear hfz28_3
    try clear hfz28_4
    try clear hfz31_0
    try clear hfz31_1
    try clear hfz31_2
    try clear hfz31_3
    try clear hfz31_4
    try clear hfz33_0
    try clear hfz33_1
    try clear hfz33_2
    try clear hfz33_3
    try clear hfz33_4
    obtain ⟨kq, x21_4, rfl, HA, HJ4, BK566, BK567, BK568, HB⟩ := hcut
    cases kq with
    | zero => exact absurd HA.out (by simp [augurylaw05_EventOrder.j0])
    | succ kj4 =>
      have H := HA.out
      clear HA
      simp only [augurylaw05_EventOrder.j0] at H
      by_cases c35 : x21_4 = true
      · subst c35
        have H1 : (if t569 = true then (some true) else (none)) = some r := by rw [if_pos rfl] at H; exact H
        clear H
        have H := H1
        clear H1
        by_cases c36 : t569 = true
        · subst c36
          have H1 : (some true) = some r := by rw [if_pos rfl] at H; exact H
          clear H
          have H := H1
          clear H1
          obtain rfl := Option.some.inj H
          go_wp2
          go_ret
          exact ⟨by first | rfl | (simp [errW_none, errW_some] <;> rfl) | (simp [*, errW_none, errW_some] <;> rfl), by repeat (first | (with_reducible first | exact HB.out | apply below_alloc | apply pw_below_drewN | apply below_drew1 | refine below_set ?_ GE566.out | refine below_set ?_ GE567.out | refine below_set ?_ GE568.out) | exact HB.out)⟩
        · replace c36 := Bool.eq_false_iff.mpr c36
          subst c36
          have H1 : (none) = some r := by rw [if_neg (show ¬ (false = true) by decide)] at H; exact H
          clear H
          have H := H1
          clear H1
          exact absurd H (by simp)
      · replace c35 := Bool.eq_false_iff.mpr c35
        subst c35
        have H1 : ((event_Less.f kj4 a0_0 a0_1 a0_2 a0_3 l0_4 a1_0 a1_1 a1_2 a1_3 l1_4).bind fun t573 => ((event_Less.f kj4 a1_0 a1_1 a1_2 a1_3 l1_4 a2_0 a2_1 a2_2 a2_3 l2_4).bind fun t574 => (if a0_0 = a1_0 then (if a0_1 = a1_1 then (augurylaw05_EventOrder.j1 kj4 t569 t573 t574 (a0_2 == a1_2) a0_0 a0_1 a0_2 a0_3 l0_4 a1_0 a1_1 a1_2 a1_3 l1_4 a2_0 a2_1 a2_2 a2_3 l2_4) else (augurylaw05_EventOrder.j1 kj4 t569 t573 t574 false a0_0 a0_1 a0_2 a0_3 l0_4 a1_0 a1_1 a1_2 a1_3 l1_4 a2_0 a2_1 a2_2 a2_3 l2_4)) else (augurylaw05_EventOrder.j1 kj4 t569 t573 t574 false a0_0 a0_1 a0_2 a0_3 l0_4 a1_0 a1_1 a1_2 a1_3 l1_4 a2_0 a2_1 a2_2 a2_3 l2_4)))) = some r := by rw [if_neg (show ¬ (false = true) by decide)] at H; exact H
        clear H
        have H := H1
        clear H1
        replace H := Option.bind_eq_some_iff.mp H
        obtain ⟨t573, A370, H⟩ := H
        replace H : ((event_Less.f kj4 a1_0 a1_1 a1_2 a1_3 l1_4 a2_0 a2_1 a2_2 a2_3 l2_4).bind fun t574 => (if a0_0 = a1_0 then (if a0_1 = a1_1 then (augurylaw05_EventOrder.j1 kj4 t569 t573 t574 (a0_2 == a1_2) a0_0 a0_1 a0_2 a0_3 l0_4 a1_0 a1_1 a1_2 a1_3 l1_4 a2_0 a2_1 a2_2 a2_3 l2_4) else (augurylaw05_EventOrder.j1 kj4 t569 t573 t574 false a0_0 a0_1 a0_2 a0_3 l0_4 a1_0 a1_1 a1_2 a1_3 l1_4 a2_0 a2_1 a2_2 a2_3 l2_4)) else (augurylaw05_EventOrder.j1 kj4 t569 t573 t574 false a0_0 a0_1 a0_2 a0_3 l0_4 a1_0 a1_1 a1_2 a1_3 l1_4 a2_0 a2_1 a2_2 a2_3 l2_4))) = some r := H
        have A37 := Aside0.mk A370
        clear A370
        replace H := Option.bind_eq_some_iff.mp H
        obtain ⟨t574, A380, H⟩ := H
        replace H : (if a0_0 = a1_0 then (if a0_1 = a1_1 then (augurylaw05_EventOrder.j1 kj4 t569 t573 t574 (a0_2 == a1_2) a0_0 a0_1 a0_2 a0_3 l0_4 a1_0 a1_1 a1_2 a1_3 l1_4 a2_0 a2_1 a2_2 a2_3 l2_4) else (augurylaw05_EventOrder.j1 kj4 t569 t573 t574 false a0_0 a0_1 a0_2 a0_3 l0_4 a1_0 a1_1 a1_2 a1_3 l1_4 a2_0 a2_1 a2_2 a2_3 l2_4)) else (augurylaw05_EventOrder.j1 kj4 t569 t573 t574 false a0_0 a0_1 a0_2 a0_3 l0_4 a1_0 a1_1 a1_2 a1_3 l1_4 a2_0 a2_1 a2_2 a2_3 l2_4)) = some r := H
        have A38 := Aside0.mk A380
        clear A380
        have HC39 := Aside0.mk H
        clear H
        have hnb40 := NB566_567.out
        have hnc40 := NB567_566.out
        have hnb41 := NB566_568.out
        have hnc41 := NB568_566.out
        have hcz42_0 : wc.cell? ⟨gb566, 0, none⟩ = some (.int .i64 a0_0) := (blk_cell BK566.out 0).trans rfl
        have hcz42_1 : wc.cell? ⟨gb566, 1, none⟩ = some (.int .i64 a0_1) := (blk_cell BK566.out 1).trans rfl
        have hcz42_2 : wc.cell? ⟨gb566, 2, none⟩ = some (.int .i64 a0_2) := (blk_cell BK566.out 2).trans rfl
        have hcz42_3 : wc.cell? ⟨gb566, 3, none⟩ = some (.string a0_3) := (blk_cell BK566.out 3).trans rfl
        have hcz42_4 : wc.cell? ⟨gb566, 4, none⟩ = some (.slice A0_4 l0_4.length c0_4) := (blk_cell BK566.out 4).trans rfl
        have hfz42_0 := blk_frozen BK566.out 0
        have hfz42_1 := blk_frozen BK566.out 1
        have hfz42_2 := blk_frozen BK566.out 2
        have hfz42_3 := blk_frozen BK566.out 3
        have hfz42_4 := blk_frozen BK566.out 4
        have hnb43 := NB567_568.out
        have hnc43 := NB568_567.out
        have hcz44_0 : wc.cell? ⟨gb567, 0, none⟩ = some (.int .i64 a1_0) := (blk_cell BK567.out 0).trans rfl
        have hcz44_1 : wc.cell? ⟨gb567, 1, none⟩ = some (.int .i64 a1_1) := (blk_cell BK567.out 1).trans rfl
        have hcz44_2 : wc.cell? ⟨gb567, 2, none⟩ = some (.int .i64 a1_2) := (blk_cell BK567.out 2).trans rfl
        have hcz44_3 : wc.cell? ⟨gb567, 3, none⟩ = some (.string a1_3) := (blk_cell BK567.out 3).trans rfl
        have hcz44_4 : wc.cell? ⟨gb567, 4, none⟩ = some (.slice A1_4 l1_4.length c1_4) := (blk_cell BK567.out 4).trans rfl
        have hfz44_0 := blk_frozen BK567.out 0
        have hfz44_1 := blk_frozen BK567.out 1
        have hfz44_2 := blk_frozen BK567.out 2
        have hfz44_3 := blk_frozen BK567.out 3
        have hfz44_4 := blk_frozen BK567.out 4
        go_upto_region 6 with (first | ((with_reducible refine gate_callee (f := 28) rfl ?_); refine goesL_ (some 25) rfl rfl Try.func28 (by kernel_rfl) rfl #[.agg #[.int .i64 a0_0, .int .i64 a0_1, .int .i64 a0_2, .string a0_3, .slice A0_4 l0_4.length c0_4], .agg #[.int .i64 a1_0, .int .i64 a1_1, .int .i64 a1_2, .string a1_3, .slice A1_4 l1_4.length c1_4]] rfl (by (try simp only [List.map_toArray, List.map_cons, List.map_nil]); first | done | rfl | (simp only [List.length_drop, List.length_take]; rfl)) ?_; (with_reducible refine (event_Less.calls kj4 a0_0 a0_1 a0_2 a0_3 _ _ l0_4 a1_0 a1_1 a1_2 a1_3 _ _ l1_4 t573 _ ?side1 ?side2 ?side3 ?side4 A37.out).mono ?_); (case side1 => repeat (first | exact (Kd.C_below HR0_4.out HB.out) | (with_reducible refine Kd.C_alloc ?_ _) | (with_reducible refine Kd.C_drewN ?_ _) | (with_reducible refine Kd.C_drew ?_))); (case side2 => exact HC0_4.out); (case side3 => repeat (first | exact (Kd.C_below HR1_4.out HB.out) | (with_reducible refine Kd.C_alloc ?_ _) | (with_reducible refine Kd.C_drewN ?_ _) | (with_reducible refine Kd.C_drew ?_))); (case side4 => exact HC1_4.out); rintro e w45 ⟨rfl, hb⟩; refine ⟨_, rfl, ?_⟩; have n0_ := Aside0.mk (blk_below (g := gb566) (o := .cells #[.int .i64 a0_0, .int .i64 a0_1, .int .i64 a0_2, .string a0_3, .slice A0_4 l0_4.length c0_4] 25 (0, 0)) (by (with_reducible repeat (first | refine blk_drewN ?_ _ | refine blk_drew ?_ | refine blk_alloc ?_ _)); exact BK566.out) hb); have n1_ := Aside0.mk (blk_below (g := gb567) (o := .cells #[.int .i64 a1_0, .int .i64 a1_1, .int .i64 a1_2, .string a1_3, .slice A1_4 l1_4.length c1_4] 25 (0, 0)) (by (with_reducible repeat (first | refine blk_drewN ?_ _ | refine blk_drew ?_ | refine blk_alloc ?_ _)); exact BK567.out) hb); have n2_ := Aside0.mk (blk_below (g := gb568) (o := .cells #[.int .i64 a2_0, .int .i64 a2_1, .int .i64 a2_2, .string a2_3, .slice A2_4 l2_4.length c2_4] 25 (0, 0)) (by (with_reducible repeat (first | refine blk_drewN ?_ _ | refine blk_drew ?_ | refine blk_alloc ?_ _)); exact BK568.out) hb); have n3_ := Aside0.mk (below_step (by repeat (first | (with_reducible first | exact HB.out | apply below_alloc | apply pw_below_drewN | apply below_drew1 | refine below_set ?_ GE566.out | refine below_set ?_ GE567.out | refine below_set ?_ GE568.out) | exact HB.out)) hb); clear BK566; clear BK567; clear BK568; clear HB; have BK566 := n0_; have BK567 := n1_; have BK568 := n2_; have HB := n3_; clear n0_ n1_ n2_ n3_; (try clear hb); (try clear hb2); (try clear hk); (try clear hi); have hcz46_0 : w45.cell? ⟨gb567, 0, none⟩ = some (.int .i64 a1_0) := (blk_cell BK567.out 0).trans rfl; have hcz46_1 : w45.cell? ⟨gb567, 1, none⟩ = some (.int .i64 a1_1) := (blk_cell BK567.out 1).trans rfl; have hcz46_2 : w45.cell? ⟨gb567, 2, none⟩ = some (.int .i64 a1_2) := (blk_cell BK567.out 2).trans rfl; have hcz46_3 : w45.cell? ⟨gb567, 3, none⟩ = some (.string a1_3) := (blk_cell BK567.out 3).trans rfl; have hcz46_4 : w45.cell? ⟨gb567, 4, none⟩ = some (.slice A1_4 l1_4.length c1_4) := (blk_cell BK567.out 4).trans rfl; have hfz46_0 := blk_frozen BK567.out 0; have hfz46_1 := blk_frozen BK567.out 1; have hfz46_2 := blk_frozen BK567.out 2; have hfz46_3 := blk_frozen BK567.out 3; have hfz46_4 := blk_frozen BK567.out 4; have hcz47_0 : w45.cell? ⟨gb568, 0, none⟩ = some (.int .i64 a2_0) := (blk_cell BK568.out 0).trans rfl; have hcz47_1 : w45.cell? ⟨gb568, 1, none⟩ = some (.int .i64 a2_1) := (blk_cell BK568.out 1).trans rfl; have hcz47_2 : w45.cell? ⟨gb568, 2, none⟩ = some (.int .i64 a2_2) := (blk_cell BK568.out 2).trans rfl; have hcz47_3 : w45.cell? ⟨gb568, 3, none⟩ = some (.string a2_3) := (blk_cell BK568.out 3).trans rfl; have hcz47_4 : w45.cell? ⟨gb568, 4, none⟩ = some (.slice A2_4 l2_4.length c2_4) := (blk_cell BK568.out 4).trans rfl; have hfz47_0 := blk_frozen BK568.out 0; have hfz47_1 := blk_frozen BK568.out 1; have hfz47_2 := blk_frozen BK568.out 2; have hfz47_3 := blk_frozen BK568.out 3; have hfz47_4 := blk_frozen BK568.out 4) | ((with_reducible refine gate_callee (f := 28) rfl ?_); refine goesL_ (some 28) rfl rfl Try.func28 (by kernel_rfl) rfl #[.agg #[.int .i64 a1_0, .int .i64 a1_1, .int .i64 a1_2, .string a1_3, .slice A1_4 l1_4.length c1_4], .agg #[.int .i64 a2_0, .int .i64 a2_1, .int .i64 a2_2, .string a2_3, .slice A2_4 l2_4.length c2_4]] rfl (by (try simp only [List.map_toArray, List.map_cons, List.map_nil]); first | done | rfl | (simp only [List.length_drop, List.length_take]; rfl)) ?_; (with_reducible refine (event_Less.calls kj4 a1_0 a1_1 a1_2 a1_3 _ _ l1_4 a2_0 a2_1 a2_2 a2_3 _ _ l2_4 t574 _ ?side1 ?side2 ?side3 ?side4 A38.out).mono ?_); (case side1 => repeat (first | exact (Kd.C_below HR1_4.out HB.out) | (with_reducible refine Kd.C_alloc ?_ _) | (with_reducible refine Kd.C_drewN ?_ _) | (with_reducible refine Kd.C_drew ?_))); (case side2 => exact HC1_4.out); (case side3 => repeat (first | exact (Kd.C_below HR2_4.out HB.out) | (with_reducible refine Kd.C_alloc ?_ _) | (with_reducible refine Kd.C_drewN ?_ _) | (with_reducible refine Kd.C_drew ?_))); (case side4 => exact HC2_4.out); rintro e w48 ⟨rfl, hb⟩; refine ⟨_, rfl, ?_⟩; have n0_ := Aside0.mk (blk_below (g := gb566) (o := .cells #[.int .i64 a0_0, .int .i64 a0_1, .int .i64 a0_2, .string a0_3, .slice A0_4 l0_4.length c0_4] 25 (0, 0)) (by (with_reducible repeat (first | refine blk_drewN ?_ _ | refine blk_drew ?_ | refine blk_alloc ?_ _)); exact BK566.out) hb); have n1_ := Aside0.mk (blk_below (g := gb567) (o := .cells #[.int .i64 a1_0, .int .i64 a1_1, .int .i64 a1_2, .string a1_3, .slice A1_4 l1_4.length c1_4] 25 (0, 0)) (by (with_reducible repeat (first | refine blk_drewN ?_ _ | refine blk_drew ?_ | refine blk_alloc ?_ _)); exact BK567.out) hb); have n2_ := Aside0.mk (blk_below (g := gb568) (o := .cells #[.int .i64 a2_0, .int .i64 a2_1, .int .i64 a2_2, .string a2_3, .slice A2_4 l2_4.length c2_4] 25 (0, 0)) (by (with_reducible repeat (first | refine blk_drewN ?_ _ | refine blk_drew ?_ | refine blk_alloc ?_ _)); exact BK568.out) hb); have n3_ := Aside0.mk (below_step (by repeat (first | (with_reducible first | exact HB.out | apply below_alloc | apply pw_below_drewN | apply below_drew1 | refine below_set ?_ GE566.out | refine below_set ?_ GE567.out | refine below_set ?_ GE568.out) | exact HB.out)) hb); clear BK566; clear BK567; clear BK568; clear HB; have BK566 := n0_; have BK567 := n1_; have BK568 := n2_; have HB := n3_; clear n0_ n1_ n2_ n3_; (try clear hb); (try clear hb2); (try clear hk); (try clear hi)))
        (try simp only [Act.put, List.setIfInBounds_toArray, List.set_cons_zero, List.set_cons_succ])
        go_cut [10] (fun v10 wc => ∃ (kq : Nat) (x10_38 : Bool), v10 = .bool x10_38 ∧ Aside0 (augurylaw05_EventOrder.j1 kq t569 t573 t574 x10_38 a0_0 a0_1 a0_2 a0_3 l0_4 a1_0 a1_1 a1_2 a1_3 l1_4 a2_0 a2_1 a2_2 a2_3 l2_4 = some r) ∧ Aside0 (kq ≤ kj4) ∧ Aside0 (wc.heap[gb566]? = some (.cells #[.int .i64 a0_0, .int .i64 a0_1, .int .i64 a0_2, .string a0_3, (.slice A0_4 l0_4.length c0_4)] 25 (0, 0))) ∧ Aside0 (wc.heap[gb567]? = some (.cells #[.int .i64 a1_0, .int .i64 a1_1, .int .i64 a1_2, .string a1_3, (.slice A1_4 l1_4.length c1_4)] 25 (0, 0))) ∧ Aside0 (wc.heap[gb568]? = some (.cells #[.int .i64 a2_0, .int .i64 a2_1, .int .i64 a2_2, .string a2_3, (.slice A2_4 l2_4.length c2_4)] 25 (0, 0))) ∧ Aside0 (Below w.heap.size w wc))
        case first =>
          have H := HC39.out
          clear HC39
          by_cases c49 : a0_0 = a1_0
          · rw [if_pos c49] at H
            have c49b0 : (a0_0 == a1_0) = true := beq_iff_eq.mpr c49
            have c49b1 : (a0_0 != a1_0) = false := bne_eq_false_iff_eq.mpr c49
            clear c49
            (first | rw [c49b0] | (simp only [i64_w, i32_w]; rw [c49b0]) | rw [c49b1] | skip)
            by_cases c50 : a0_1 = a1_1
            · rw [if_pos c50] at H
              have c50b0 : (a0_1 == a1_1) = true := beq_iff_eq.mpr c50
              have c50b1 : (a0_1 != a1_1) = false := bne_eq_false_iff_eq.mpr c50
              clear c50
              have H' := Aside0.mk H
              clear H
              have hnb51 := NB566_567.out
              have hnc51 := NB567_566.out
              have hnb52 := NB566_568.out
              have hnc52 := NB568_566.out
              have hcz53_0 : w48.cell? ⟨gb566, 0, none⟩ = some (.int .i64 a0_0) := (blk_cell BK566.out 0).trans rfl
              have hcz53_1 : w48.cell? ⟨gb566, 1, none⟩ = some (.int .i64 a0_1) := (blk_cell BK566.out 1).trans rfl
              have hcz53_2 : w48.cell? ⟨gb566, 2, none⟩ = some (.int .i64 a0_2) := (blk_cell BK566.out 2).trans rfl
              have hcz53_3 : w48.cell? ⟨gb566, 3, none⟩ = some (.string a0_3) := (blk_cell BK566.out 3).trans rfl
              have hcz53_4 : w48.cell? ⟨gb566, 4, none⟩ = some (.slice A0_4 l0_4.length c0_4) := (blk_cell BK566.out 4).trans rfl
              have hfz53_0 := blk_frozen BK566.out 0
              have hfz53_1 := blk_frozen BK566.out 1
              have hfz53_2 := blk_frozen BK566.out 2
              have hfz53_3 := blk_frozen BK566.out 3
              have hfz53_4 := blk_frozen BK566.out 4
              have hnb54 := NB567_568.out
              have hnc54 := NB568_567.out
              have hcz55_0 : w48.cell? ⟨gb567, 0, none⟩ = some (.int .i64 a1_0) := (blk_cell BK567.out 0).trans rfl
              have hcz55_1 : w48.cell? ⟨gb567, 1, none⟩ = some (.int .i64 a1_1) := (blk_cell BK567.out 1).trans rfl
              have hcz55_2 : w48.cell? ⟨gb567, 2, none⟩ = some (.int .i64 a1_2) := (blk_cell BK567.out 2).trans rfl
              have hcz55_3 : w48.cell? ⟨gb567, 3, none⟩ = some (.string a1_3) := (blk_cell BK567.out 3).trans rfl
              have hcz55_4 : w48.cell? ⟨gb567, 4, none⟩ = some (.slice A1_4 l1_4.length c1_4) := (blk_cell BK567.out 4).trans rfl
              have hfz55_0 := blk_frozen BK567.out 0
              have hfz55_1 := blk_frozen BK567.out 1
              have hfz55_2 := blk_frozen BK567.out 2
              have hfz55_3 := blk_frozen BK567.out 3
              have hfz55_4 := blk_frozen BK567.out 4
              go_wp2
              go_meet
              case rel => exact ⟨_, ((a0_2 == a1_2)), (by first | rfl | (simp; done) | (simp [*]; done) | grind), H', ⟨by have := HJ4.out; first | omega | exact Nat.le_refl _⟩, ⟨by (with_reducible repeat (first | refine blk_drewN ?_ _ | refine blk_drew ?_ | refine blk_alloc ?_ _)); exact BK566.out⟩, ⟨by (with_reducible repeat (first | refine blk_drewN ?_ _ | refine blk_drew ?_ | refine blk_alloc ?_ _)); exact BK567.out⟩, ⟨by (with_reducible repeat (first | refine blk_drewN ?_ _ | refine blk_drew ?_ | refine blk_alloc ?_ _)); exact BK568.out⟩, ⟨by repeat (first | (with_reducible first | exact HB.out | apply below_alloc | apply pw_below_drewN | apply below_drew1 | refine below_set ?_ GE566.out | refine below_set ?_ GE567.out | refine below_set ?_ GE568.out) | exact HB.out)⟩⟩
            · rw [if_neg c50] at H
              have c50b0 : (a0_1 == a1_1) = false := beq_eq_false_iff_ne.mpr c50
              have c50b1 : (a0_1 != a1_1) = true := bne_iff_ne.mpr c50
              have H' := Aside0.mk H
              clear H
              have hnb56 := NB566_567.out
              have hnc56 := NB567_566.out
              have hnb57 := NB566_568.out
              have hnc57 := NB568_566.out
              have hcz58_0 : w48.cell? ⟨gb566, 0, none⟩ = some (.int .i64 a0_0) := (blk_cell BK566.out 0).trans rfl
              have hcz58_1 : w48.cell? ⟨gb566, 1, none⟩ = some (.int .i64 a0_1) := (blk_cell BK566.out 1).trans rfl
              have hcz58_2 : w48.cell? ⟨gb566, 2, none⟩ = some (.int .i64 a0_2) := (blk_cell BK566.out 2).trans rfl
              have hcz58_3 : w48.cell? ⟨gb566, 3, none⟩ = some (.string a0_3) := (blk_cell BK566.out 3).trans rfl
              have hcz58_4 : w48.cell? ⟨gb566, 4, none⟩ = some (.slice A0_4 l0_4.length c0_4) := (blk_cell BK566.out 4).trans rfl
              have hfz58_0 := blk_frozen BK566.out 0
              have hfz58_1 := blk_frozen BK566.out 1
              have hfz58_2 := blk_frozen BK566.out 2
              have hfz58_3 := blk_frozen BK566.out 3
              have hfz58_4 := blk_frozen BK566.out 4
              have hnb59 := NB567_568.out
              have hnc59 := NB568_567.out
              have hcz60_0 : w48.cell? ⟨gb567, 0, none⟩ = some (.int .i64 a1_0) := (blk_cell BK567.out 0).trans rfl
              have hcz60_1 : w48.cell? ⟨gb567, 1, none⟩ = some (.int .i64 a1_1) := (blk_cell BK567.out 1).trans rfl
              have hcz60_2 : w48.cell? ⟨gb567, 2, none⟩ = some (.int .i64 a1_2) := (blk_cell BK567.out 2).trans rfl
              have hcz60_3 : w48.cell? ⟨gb567, 3, none⟩ = some (.string a1_3) := (blk_cell BK567.out 3).trans rfl
              have hcz60_4 : w48.cell? ⟨gb567, 4, none⟩ = some (.slice A1_4 l1_4.length c1_4) := (blk_cell BK567.out 4).trans rfl
              have hfz60_0 := blk_frozen BK567.out 0
              have hfz60_1 := blk_frozen BK567.out 1
              have hfz60_2 := blk_frozen BK567.out 2
              have hfz60_3 := blk_frozen BK567.out 3
              have hfz60_4 := blk_frozen BK567.out 4
              go_wp2
              go_meet
              case rel => exact ⟨_, (false), (by first | rfl | (simp; done) | (simp [*]; done) | grind), H', ⟨by have := HJ4.out; first | omega | exact Nat.le_refl _⟩, ⟨by (with_reducible repeat (first | refine blk_drewN ?_ _ | refine blk_drew ?_ | refine blk_alloc ?_ _)); exact BK566.out⟩, ⟨by (with_reducible repeat (first | refine blk_drewN ?_ _ | refine blk_drew ?_ | refine blk_alloc ?_ _)); exact BK567.out⟩, ⟨by (with_reducible repeat (first | refine blk_drewN ?_ _ | refine blk_drew ?_ | refine blk_alloc ?_ _)); exact BK568.out⟩, ⟨by repeat (first | (with_reducible first | exact HB.out | apply below_alloc | apply pw_below_drewN | apply below_drew1 | refine below_set ?_ GE566.out | refine below_set ?_ GE567.out | refine below_set ?_ GE568.out) | exact HB.out)⟩⟩
          · rw [if_neg c49] at H
            have c49b0 : (a0_0 == a1_0) = false := beq_eq_false_iff_ne.mpr c49
            have c49b1 : (a0_0 != a1_0) = true := bne_iff_ne.mpr c49
            (first | rw [c49b0] | (simp only [i64_w, i32_w]; rw [c49b0]) | rw [c49b1] | skip)
            have H' := Aside0.mk H
            clear H
            have hnb61 := NB566_567.out
            have hnc61 := NB567_566.out
            have hnb62 := NB566_568.out
            have hnc62 := NB568_566.out
            have hcz63_0 : w48.cell? ⟨gb566, 0, none⟩ = some (.int .i64 a0_0) := (blk_cell BK566.out 0).trans rfl
            have hcz63_1 : w48.cell? ⟨gb566, 1, none⟩ = some (.int .i64 a0_1) := (blk_cell BK566.out 1).trans rfl
            have hcz63_2 : w48.cell? ⟨gb566, 2, none⟩ = some (.int .i64 a0_2) := (blk_cell BK566.out 2).trans rfl
            have hcz63_3 : w48.cell? ⟨gb566, 3, none⟩ = some (.string a0_3) := (blk_cell BK566.out 3).trans rfl
            have hcz63_4 : w48.cell? ⟨gb566, 4, none⟩ = some (.slice A0_4 l0_4.length c0_4) := (blk_cell BK566.out 4).trans rfl
            have hfz63_0 := blk_frozen BK566.out 0
            have hfz63_1 := blk_frozen BK566.out 1
            have hfz63_2 := blk_frozen BK566.out 2
            have hfz63_3 := blk_frozen BK566.out 3
            have hfz63_4 := blk_frozen BK566.out 4
            have hnb64 := NB567_568.out
            have hnc64 := NB568_567.out
            have hcz65_0 : w48.cell? ⟨gb567, 0, none⟩ = some (.int .i64 a1_0) := (blk_cell BK567.out 0).trans rfl
            have hcz65_1 : w48.cell? ⟨gb567, 1, none⟩ = some (.int .i64 a1_1) := (blk_cell BK567.out 1).trans rfl
            have hcz65_2 : w48.cell? ⟨gb567, 2, none⟩ = some (.int .i64 a1_2) := (blk_cell BK567.out 2).trans rfl
            have hcz65_3 : w48.cell? ⟨gb567, 3, none⟩ = some (.string a1_3) := (blk_cell BK567.out 3).trans rfl
            have hcz65_4 : w48.cell? ⟨gb567, 4, none⟩ = some (.slice A1_4 l1_4.length c1_4) := (blk_cell BK567.out 4).trans rfl
            have hfz65_0 := blk_frozen BK567.out 0
            have hfz65_1 := blk_frozen BK567.out 1
            have hfz65_2 := blk_frozen BK567.out 2
            have hfz65_3 := blk_frozen BK567.out 3
            have hfz65_4 := blk_frozen BK567.out 4
            go_wp2
            go_meet
            case rel => exact ⟨_, (false), (by first | rfl | (simp; done) | (simp [*]; done) | grind), H', ⟨by have := HJ4.out; first | omega | exact Nat.le_refl _⟩, ⟨by (with_reducible repeat (first | refine blk_drewN ?_ _ | refine blk_drew ?_ | refine blk_alloc ?_ _)); exact BK566.out⟩, ⟨by (with_reducible repeat (first | refine blk_drewN ?_ _ | refine blk_drew ?_ | refine blk_alloc ?_ _)); exact BK567.out⟩, ⟨by (with_reducible repeat (first | refine blk_drewN ?_ _ | refine blk_drew ?_ | refine blk_alloc ?_ _)); exact BK568.out⟩, ⟨by repeat (first | (with_reducible first | exact HB.out | apply below_alloc | apply pw_below_drewN | apply below_drew1 | refine below_set ?_ GE566.out | refine below_set ?_ GE567.out | refine below_set ?_ GE568.out) | exact HB.out)⟩⟩
        case rest =>
          clear HC39
          try clear c1
          try clear c2
          try clear p2
          try clear c3
          try clear c4
          try clear c5
          try clear c6
          try clear c9
          try clear c11
          try clear c12
          try clear c13
          try clear c17
          try clear c18
          try clear c19
          try clear c22
          try clear c26
          try clear c27
          try clear c28
          try clear c30
          try clear c35
          try clear c36
          try clear c40
          try clear c41
          try clear c43
          try clear c49
          try clear c49b0
          try clear c49b1
          try clear c50
          try clear c50b0
          try clear c50b1
          try clear c51
          try clear c52
          try clear c54
          try clear c56
          try clear c57
          try clear c59
          try clear c61
          try clear c62
          try clear c64
          try clear hcz14_0
          try clear hcz14_1
          try clear hcz14_2
          try clear hcz14_3
          try clear hcz14_4
          try clear hcz20_0
          try clear hcz20_1
          try clear hcz20_2
          try clear hcz20_3
          try clear hcz20_4
          try clear hcz23_0
          try clear hcz23_1
          try clear hcz23_2
          try clear hcz23_3
          try clear hcz23_4
          try clear hcz28_0
          try clear hcz28_1
          try clear hcz28_2
          try clear hcz28_3
          try clear hcz28_4
          try clear hcz31_0
          try clear hcz31_1
          try clear hcz31_2
          try clear hcz31_3
          try clear hcz31_4
          try clear hcz33_0
          try clear hcz33_1
          try clear hcz33_2
          try clear hcz33_3
          try clear hcz33_4
          try clear hcz42_0
          try clear hcz42_1
          try clear hcz42_2
          try clear hcz42_3
          try clear hcz42_4
          try clear hcz44_0
          try clear hcz44_1
          try clear hcz44_2
          try clear hcz44_3
          try clear hcz44_4
          try clear hcz46_0
          try clear hcz46_1
          try clear hcz46_2
          try clear hcz46_3
          try clear hcz46_4
          try clear hcz47_0
          try clear hcz47_1
          try clear hcz47_2
          try clear hcz47_3
          try clear hcz47_4
          try clear hcz53_0
          try clear hcz53_1
          try clear hcz53_2
          try clear hcz53_3
          try clear hcz53_4
          try clear hcz55_0
          try clear hcz55_1
          try clear hcz55_2
          try clear hcz55_3
          try clear hcz55_4
          try clear hcz58_0
          try clear hcz58_1
          try clear hcz58_2
          try clear hcz58_3
          try clear hcz58_4
          try clear hcz60_0
          try clear hcz60_1
          try clear hcz60_2
          try clear hcz60_3
          try clear hcz60_4
          try clear hcz63_0
          try clear hcz63_1
          try clear hcz63_2
          try clear hcz63_3
          try clear hcz63_4
          try clear hcz65_0
          try clear hcz65_1
          try clear hcz65_2
          try clear hcz65_3
          try clear hcz65_4
          try clear hfz14_0
          try clear hfz14_1
          try clear hfz14_2
          try clear hfz14_3
          try clear hfz14_4
          try clear hfz20_0
          try clear hfz20_1
          try clear hfz20_2
          try clear hfz20_3
          try clear hfz20_4
          try clear hfz23_0
          try clear hfz23_1
          try clear hfz23_2
          try clear hfz23_3
          try clear hfz23_4
          try clear hfz28_0
          try clear hfz28_1
          try clear hfz28_2
          try clear hfz28_3
          try clear hfz28_4
          try clear hfz31_0
          try clear hfz31_1
          try clear hfz31_2
          try clear hfz31_3
          try clear hfz31_4
          try clear hfz33_0
          try clear hfz33_1
          try clear hfz33_2
          try clear hfz33_3
          try clear hfz33_4
          try clear hfz42_0
          try clear hfz42_1
          try clear hfz42_2
          try clear hfz42_3
          try clear hfz42_4
          try clear hfz44_0
          try clear hfz44_1
          try clear hfz44_2
          try clear hfz44_3
          try clear hfz44_4
          try clear hfz46_0
          try clear hfz46_1
          try clear hfz46_2
          try clear hfz46_3
          try clear hfz46_4
          try clear hfz47_0
          try clear hfz47_1
          try clear hfz47_2
          try clear hfz47_3
          try clear hfz47_4
          try clear hfz53_0
          try clear hfz53_1
          try clear hfz53_2
          try clear hfz53_3
          try clear hfz53_4
          try clear hfz55_0
          try clear hfz55_1
          try clear hfz55_2
          try clear hfz55_3
          try clear hfz55_4
          try clear hfz58_0
          try clear hfz58_1
          try clear hfz58_2
          try clear hfz58_3
          try clear hfz58_4
          try clear hfz60_0
          try clear hfz60_1
          try clear hfz60_2
          try clear hfz60_3
          try clear hfz60_4
          try clear hfz63_0
          try clear hfz63_1
          try clear hfz63_2
          try clear hfz63_3
          try clear hfz63_4
          try clear hfz65_0
          try clear hfz65_1
          try clear hfz65_2
          try clear hfz65_3
          try clear hfz65_4
          try clear p2
          obtain ⟨kq, x10_38, rfl, HA, HJ38, BK566, BK567, BK568, HB⟩ := hcut
          cases kq with
          | zero => exact absurd HA.out (by simp [augurylaw05_EventOrder.j1])
          | succ kj38 =>
            have H := HA.out
            clear HA
            simp only [augurylaw05_EventOrder.j1] at H
            by_cases c66 : t569 = true
            · subst c66
              have H1 : ((event_Less.f kj38 a0_0 a0_1 a0_2 a0_3 l0_4 a0_0 a0_1 a0_2 a0_3 l0_4).bind fun t575 => (if t575 = true then (none) else (if t573 = true then ((event_Less.f kj38 a1_0 a1_1 a1_2 a1_3 l1_4 a0_0 a0_1 a0_2 a0_3 l0_4).bind fun t576 => (if t576 = true then (none) else (if t574 = true then ((event_Less.f kj38 a0_0 a0_1 a0_2 a0_3 l0_4 a2_0 a2_1 a2_2 a2_3 l2_4).bind fun t577 => (if t577 = true then (if (true == (!x10_38)) = true then (some true) else (none)) else (none))) else (if (true == (!x10_38)) = true then (some true) else (none))))) else ((event_Less.f kj38 a1_0 a1_1 a1_2 a1_3 l1_4 a0_0 a0_1 a0_2 a0_3 l0_4).bind fun t578 => (if (t578 == (!x10_38)) = true then (some true) else (none)))))) = some r := by rw [if_pos rfl] at H; exact H
              clear H
              have H := H1
              clear H1
              replace H := Option.bind_eq_some_iff.mp H
              obtain ⟨t575, A670, H⟩ := H
              replace H : (if t575 = true then (none) else (if t573 = true then ((event_Less.f kj38 a1_0 a1_1 a1_2 a1_3 l1_4 a0_0 a0_1 a0_2 a0_3 l0_4).bind fun t576 => (if t576 = true then (none) else (if t574 = true then ((event_Less.f kj38 a0_0 a0_1 a0_2 a0_3 l0_4 a2_0 a2_1 a2_2 a2_3 l2_4).bind fun t577 => (if t577 = true then (if (true == (!x10_38)) = true then (some true) else (none)) else (none))) else (if (true == (!x10_38)) = true then (some true) else (none))))) else ((event_Less.f kj38 a1_0 a1_1 a1_2 a1_3 l1_4 a0_0 a0_1 a0_2 a0_3 l0_4).bind fun t578 => (if (t578 == (!x10_38)) = true then (some true) else (none))))) = some r := H
              have A67 := Aside0.mk A670
              clear A670
              by_cases c68 : t575 = true
              · subst c68
                have H1 : (none) = some r := by rw [if_pos rfl] at H; exact H
                clear H
                have H := H1
                clear H1
                exact absurd H (by simp)
              · replace c68 := Bool.eq_false_iff.mpr c68
                subst c68
                have H1 : (if t573 = true then ((event_Less.f kj38 a1_0 a1_1 a1_2 a1_3 l1_4 a0_0 a0_1 a0_2 a0_3 l0_4).bind fun t576 => (if t576 = true then (none) else (if t574 = true then ((event_Less.f kj38 a0_0 a0_1 a0_2 a0_3 l0_4 a2_0 a2_1 a2_2 a2_3 l2_4).bind fun t577 => (if t577 = true then (if (true == (!x10_38)) = true then (some true) else (none)) else (none))) else (if (true == (!x10_38)) = true then (some true) else (none))))) else ((event_Less.f kj38 a1_0 a1_1 a1_2 a1_3 l1_4 a0_0 a0_1 a0_2 a0_3 l0_4).bind fun t578 => (if (t578 == (!x10_38)) = true then (some true) else (none)))) = some r := by rw [if_neg (show ¬ (false = true) by decide)] at H; exact H
                clear H
                have H := H1
                clear H1
                by_cases c69 : t573 = true
                · subst c69
                  have H1 : ((event_Less.f kj38 a1_0 a1_1 a1_2 a1_3 l1_4 a0_0 a0_1 a0_2 a0_3 l0_4).bind fun t576 => (if t576 = true then (none) else (if t574 = true then ((event_Less.f kj38 a0_0 a0_1 a0_2 a0_3 l0_4 a2_0 a2_1 a2_2 a2_3 l2_4).bind fun t577 => (if t577 = true then (if (true == (!x10_38)) = true then (some true) else (none)) else (none))) else (if (true == (!x10_38)) = true then (some true) else (none))))) = some r := by rw [if_pos rfl] at H; exact H
                  clear H
                  have H := H1
                  clear H1
                  replace H := Option.bind_eq_some_iff.mp H
                  obtain ⟨t576, A700, H⟩ := H
                  replace H : (if t576 = true then (none) else (if t574 = true then ((event_Less.f kj38 a0_0 a0_1 a0_2 a0_3 l0_4 a2_0 a2_1 a2_2 a2_3 l2_4).bind fun t577 => (if t577 = true then (if (true == (!x10_38)) = true then (some true) else (none)) else (none))) else (if (true == (!x10_38)) = true then (some true) else (none)))) = some r := H
                  have A70 := Aside0.mk A700
                  clear A700
                  by_cases c71 : t576 = true
                  · subst c71
                    have H1 : (none) = some r := by rw [if_pos rfl] at H; exact H
                    clear H
                    have H := H1
                    clear H1
                    exact absurd H (by simp)
                  · replace c71 := Bool.eq_false_iff.mpr c71
                    subst c71
                    have H1 : (if t574 = true then ((event_Less.f kj38 a0_0 a0_1 a0_2 a0_3 l0_4 a2_0 a2_1 a2_2 a2_3 l2_4).bind fun t577 => (if t577 = true then (if (true == (!x10_38)) = true then (some true) else (none)) else (none))) else (if (true == (!x10_38)) = true then (some true) else (none))) = some r := by rw [if_neg (show ¬ (false = true) by decide)] at H; exact H
                    clear H
                    have H := H1
                    clear H1
                    by_cases c72 : t574 = true
                    · subst c72
                      have H1 : ((event_Less.f kj38 a0_0 a0_1 a0_2 a0_3 l0_4 a2_0 a2_1 a2_2 a2_3 l2_4).bind fun t577 => (if t577 = true then (if (true == (!x10_38)) = true then (some true) else (none)) else (none))) = some r := by rw [if_pos rfl] at H; exact H
                      clear H
                      have H := H1
                      clear H1
                      replace H := Option.bind_eq_some_iff.mp H
                      obtain ⟨t577, A730, H⟩ := H
                      replace H : (if t577 = true then (if (true == (!x10_38)) = true then (some true) else (none)) else (none)) = some r := H
                      have A73 := Aside0.mk A730
                      clear A730
                      by_cases c74 : t577 = true
                      · subst c74
                        have H1 : (if (true == (!x10_38)) = true then (some true) else (none)) = some r := by rw [if_pos rfl] at H; exact H
                        clear H
                        have H := H1
                        clear H1
                        by_cases c75 : (true == (!x10_38)) = true
                        · rw [if_pos c75] at H
                          have c75b0 : (true == (!x10_38)) = true := c75
                          (try (have c75b1 : decide (true = (!x10_38)) = true := by simpa using c75))
                          (try (have c75b2 : (true == (!x10_38)) = true := by simpa using c75))
                          clear c75
                          obtain rfl := Option.some.inj H
                          have hnb76 := NB566_567.out
                          have hnc76 := NB567_566.out
                          have hnb77 := NB566_568.out
                          have hnc77 := NB568_566.out
                          have hcz78_0 : wc.cell? ⟨gb566, 0, none⟩ = some (.int .i64 a0_0) := (blk_cell BK566.out 0).trans rfl
                          have hcz78_1 : wc.cell? ⟨gb566, 1, none⟩ = some (.int .i64 a0_1) := (blk_cell BK566.out 1).trans rfl
                          have hcz78_2 : wc.cell? ⟨gb566, 2, none⟩ = some (.int .i64 a0_2) := (blk_cell BK566.out 2).trans rfl
                          have hcz78_3 : wc.cell? ⟨gb566, 3, none⟩ = some (.string a0_3) := (blk_cell BK566.out 3).trans rfl
                          have hcz78_4 : wc.cell? ⟨gb566, 4, none⟩ = some (.slice A0_4 l0_4.length c0_4) := (blk_cell BK566.out 4).trans rfl
                          have hfz78_0 := blk_frozen BK566.out 0
                          have hfz78_1 := blk_frozen BK566.out 1
                          have hfz78_2 := blk_frozen BK566.out 2
                          have hfz78_3 := blk_frozen BK566.out 3
                          have hfz78_4 := blk_frozen BK566.out 4
                          go_wp2_with (first | (go_at_call 28; (with_reducible refine (event_Less.calls kj38 a0_0 a0_1 a0_2 a0_3 _ _ l0_4 a0_0 a0_1 a0_2 a0_3 _ _ l0_4 false _ ?side1 ?side2 ?side3 ?side4 A67.out).mono ?_); (case side1 => repeat (first | exact (Kd.C_below HR0_4.out HB.out) | (with_reducible refine Kd.C_alloc ?_ _) | (with_reducible refine Kd.C_drewN ?_ _) | (with_reducible refine Kd.C_drew ?_))); (case side2 => exact HC0_4.out); (case side3 => repeat (first | exact (Kd.C_below HR0_4.out HB.out) | (with_reducible refine Kd.C_alloc ?_ _) | (with_reducible refine Kd.C_drewN ?_ _) | (with_reducible refine Kd.C_drew ?_))); (case side4 => exact HC0_4.out); rintro e w79 ⟨rfl, hb⟩; have n0_ := Aside0.mk (blk_below (g := gb566) (o := .cells #[.int .i64 a0_0, .int .i64 a0_1, .int .i64 a0_2, .string a0_3, .slice A0_4 l0_4.length c0_4] 25 (0, 0)) (by (with_reducible repeat (first | refine blk_drewN ?_ _ | refine blk_drew ?_ | refine blk_alloc ?_ _)); exact BK566.out) hb); have n1_ := Aside0.mk (blk_below (g := gb567) (o := .cells #[.int .i64 a1_0, .int .i64 a1_1, .int .i64 a1_2, .string a1_3, .slice A1_4 l1_4.length c1_4] 25 (0, 0)) (by (with_reducible repeat (first | refine blk_drewN ?_ _ | refine blk_drew ?_ | refine blk_alloc ?_ _)); exact BK567.out) hb); have n2_ := Aside0.mk (blk_below (g := gb568) (o := .cells #[.int .i64 a2_0, .int .i64 a2_1, .int .i64 a2_2, .string a2_3, .slice A2_4 l2_4.length c2_4] 25 (0, 0)) (by (with_reducible repeat (first | refine blk_drewN ?_ _ | refine blk_drew ?_ | refine blk_alloc ?_ _)); exact BK568.out) hb); have n3_ := Aside0.mk (below_step (by repeat (first | (with_reducible first | exact HB.out | apply below_alloc | apply pw_below_drewN | apply below_drew1 | refine below_set ?_ GE566.out | refine below_set ?_ GE567.out | refine below_set ?_ GE568.out) | exact HB.out)) hb); clear BK566; clear BK567; clear BK568; clear HB; have BK566 := n0_; have BK567 := n1_; have BK568 := n2_; have HB := n3_; clear n0_ n1_ n2_ n3_; (try clear hb); (try clear hb2); (try clear hk); (try clear hi); have hnb80 := NB567_568.out; have hnc80 := NB568_567.out; have hcz81_0 : w79.cell? ⟨gb567, 0, none⟩ = some (.int .i64 a1_0) := (blk_cell BK567.out 0).trans rfl; have hcz81_1 : w79.cell? ⟨gb567, 1, none⟩ = some (.int .i64 a1_1) := (blk_cell BK567.out 1).trans rfl; have hcz81_2 : w79.cell? ⟨gb567, 2, none⟩ = some (.int .i64 a1_2) := (blk_cell BK567.out 2).trans rfl; have hcz81_3 : w79.cell? ⟨gb567, 3, none⟩ = some (.string a1_3) := (blk_cell BK567.out 3).trans rfl; have hcz81_4 : w79.cell? ⟨gb567, 4, none⟩ = some (.slice A1_4 l1_4.length c1_4) := (blk_cell BK567.out 4).trans rfl; have hfz81_0 := blk_frozen BK567.out 0; have hfz81_1 := blk_frozen BK567.out 1; have hfz81_2 := blk_frozen BK567.out 2; have hfz81_3 := blk_frozen BK567.out 3; have hfz81_4 := blk_frozen BK567.out 4; have hcz82_0 : w79.cell? ⟨gb566, 0, none⟩ = some (.int .i64 a0_0) := (blk_cell BK566.out 0).trans rfl; have hcz82_1 : w79.cell? ⟨gb566, 1, none⟩ = some (.int .i64 a0_1) := (blk_cell BK566.out 1).trans rfl; have hcz82_2 : w79.cell? ⟨gb566, 2, none⟩ = some (.int .i64 a0_2) := (blk_cell BK566.out 2).trans rfl; have hcz82_3 : w79.cell? ⟨gb566, 3, none⟩ = some (.string a0_3) := (blk_cell BK566.out 3).trans rfl; have hcz82_4 : w79.cell? ⟨gb566, 4, none⟩ = some (.slice A0_4 l0_4.length c0_4) := (blk_cell BK566.out 4).trans rfl; have hfz82_0 := blk_frozen BK566.out 0; have hfz82_1 := blk_frozen BK566.out 1; have hfz82_2 := blk_frozen BK566.out 2; have hfz82_3 := blk_frozen BK566.out 3; have hfz82_4 := blk_frozen BK566.out 4) | (go_at_call 28; (with_reducible refine (event_Less.calls kj38 a1_0 a1_1 a1_2 a1_3 _ _ l1_4 a0_0 a0_1 a0_2 a0_3 _ _ l0_4 false _ ?side1 ?side2 ?side3 ?side4 A70.out).mono ?_); (case side1 => repeat (first | exact (Kd.C_below HR1_4.out HB.out) | (with_reducible refine Kd.C_alloc ?_ _) | (with_reducible refine Kd.C_drewN ?_ _) | (with_reducible refine Kd.C_drew ?_))); (case side2 => exact HC1_4.out); (case side3 => repeat (first | exact (Kd.C_below HR0_4.out HB.out) | (with_reducible refine Kd.C_alloc ?_ _) | (with_reducible refine Kd.C_drewN ?_ _) | (with_reducible refine Kd.C_drew ?_))); (case side4 => exact HC0_4.out); rintro e w83 ⟨rfl, hb⟩; have n0_ := Aside0.mk (blk_below (g := gb566) (o := .cells #[.int .i64 a0_0, .int .i64 a0_1, .int .i64 a0_2, .string a0_3, .slice A0_4 l0_4.length c0_4] 25 (0, 0)) (by (with_reducible repeat (first | refine blk_drewN ?_ _ | refine blk_drew ?_ | refine blk_alloc ?_ _)); exact BK566.out) hb); have n1_ := Aside0.mk (blk_below (g := gb567) (o := .cells #[.int .i64 a1_0, .int .i64 a1_1, .int .i64 a1_2, .string a1_3, .slice A1_4 l1_4.length c1_4] 25 (0, 0)) (by (with_reducible repeat (first | refine blk_drewN ?_ _ | refine blk_drew ?_ | refine blk_alloc ?_ _)); exact BK567.out) hb); have n2_ := Aside0.mk (blk_below (g := gb568) (o := .cells #[.int .i64 a2_0, .int .i64 a2_1, .int .i64 a2_2, .string a2_3, .slice A2_4 l2_4.length c2_4] 25 (0, 0)) (by (with_reducible repeat (first | refine blk_drewN ?_ _ | refine blk_drew ?_ | refine blk_alloc ?_ _)); exact BK568.out) hb); have n3_ := Aside0.mk (below_step (by repeat (first | (with_reducible first | exact HB.out | apply below_alloc | apply pw_below_drewN | apply below_drew1 | refine below_set ?_ GE566.out | refine below_set ?_ GE567.out | refine below_set ?_ GE568.out) | exact HB.out)) hb); clear BK566; clear BK567; clear BK568; clear HB; have BK566 := n0_; have BK567 := n1_; have BK568 := n2_; have HB := n3_; clear n0_ n1_ n2_ n3_; (try clear hb); (try clear hb2); (try clear hk); (try clear hi); have hcz84_0 : w83.cell? ⟨gb566, 0, none⟩ = some (.int .i64 a0_0) := (blk_cell BK566.out 0).trans rfl; have hcz84_1 : w83.cell? ⟨gb566, 1, none⟩ = some (.int .i64 a0_1) := (blk_cell BK566.out 1).trans rfl; have hcz84_2 : w83.cell? ⟨gb566, 2, none⟩ = some (.int .i64 a0_2) := (blk_cell BK566.out 2).trans rfl; have hcz84_3 : w83.cell? ⟨gb566, 3, none⟩ = some (.string a0_3) := (blk_cell BK566.out 3).trans rfl; have hcz84_4 : w83.cell? ⟨gb566, 4, none⟩ = some (.slice A0_4 l0_4.length c0_4) := (blk_cell BK566.out 4).trans rfl; have hfz84_0 := blk_frozen BK566.out 0; have hfz84_1 := blk_frozen BK566.out 1; have hfz84_2 := blk_frozen BK566.out 2; have hfz84_3 := blk_frozen BK566.out 3; have hfz84_4 := blk_frozen BK566.out 4; have hcz85_0 : w83.cell? ⟨gb568, 0, none⟩ = some (.int .i64 a2_0) := (blk_cell BK568.out 0).trans rfl; have hcz85_1 : w83.cell? ⟨gb568, 1, none⟩ = some (.int .i64 a2_1) := (blk_cell BK568.out 1).trans rfl; have hcz85_2 : w83.cell? ⟨gb568, 2, none⟩ = some (.int .i64 a2_2) := (blk_cell BK568.out 2).trans rfl; have hcz85_3 : w83.cell? ⟨gb568, 3, none⟩ = some (.string a2_3) := (blk_cell BK568.out 3).trans rfl; have hcz85_4 : w83.cell? ⟨gb568, 4, none⟩ = some (.slice A2_4 l2_4.length c2_4) := (blk_cell BK568.out 4).trans rfl; have hfz85_0 := blk_frozen BK568.out 0; have hfz85_1 := blk_frozen BK568.out 1; have hfz85_2 := blk_frozen BK568.out 2; have hfz85_3 := blk_frozen BK568.out 3; have hfz85_4 := blk_frozen BK568.out 4) | (go_at_call 28; (with_reducible refine (event_Less.calls kj38 a0_0 a0_1 a0_2 a0_3 _ _ l0_4 a2_0 a2_1 a2_2 a2_3 _ _ l2_4 true _ ?side1 ?side2 ?side3 ?side4 A73.out).mono ?_); (case side1 => repeat (first | exact (Kd.C_below HR0_4.out HB.out) | (with_reducible refine Kd.C_alloc ?_ _) | (with_reducible refine Kd.C_drewN ?_ _) | (with_reducible refine Kd.C_drew ?_))); (case side2 => exact HC0_4.out); (case side3 => repeat (first | exact (Kd.C_below HR2_4.out HB.out) | (with_reducible refine Kd.C_alloc ?_ _) | (with_reducible refine Kd.C_drewN ?_ _) | (with_reducible refine Kd.C_drew ?_))); (case side4 => exact HC2_4.out); rintro e w86 ⟨rfl, hb⟩; have n0_ := Aside0.mk (blk_below (g := gb566) (o := .cells #[.int .i64 a0_0, .int .i64 a0_1, .int .i64 a0_2, .string a0_3, .slice A0_4 l0_4.length c0_4] 25 (0, 0)) (by (with_reducible repeat (first | refine blk_drewN ?_ _ | refine blk_drew ?_ | refine blk_alloc ?_ _)); exact BK566.out) hb); have n1_ := Aside0.mk (blk_below (g := gb567) (o := .cells #[.int .i64 a1_0, .int .i64 a1_1, .int .i64 a1_2, .string a1_3, .slice A1_4 l1_4.length c1_4] 25 (0, 0)) (by (with_reducible repeat (first | refine blk_drewN ?_ _ | refine blk_drew ?_ | refine blk_alloc ?_ _)); exact BK567.out) hb); have n2_ := Aside0.mk (blk_below (g := gb568) (o := .cells #[.int .i64 a2_0, .int .i64 a2_1, .int .i64 a2_2, .string a2_3, .slice A2_4 l2_4.length c2_4] 25 (0, 0)) (by (with_reducible repeat (first | refine blk_drewN ?_ _ | refine blk_drew ?_ | refine blk_alloc ?_ _)); exact BK568.out) hb); have n3_ := Aside0.mk (below_step (by repeat (first | (with_reducible first | exact HB.out | apply below_alloc | apply pw_below_drewN | apply below_drew1 | refine below_set ?_ GE566.out | refine below_set ?_ GE567.out | refine below_set ?_ GE568.out) | exact HB.out)) hb); clear BK566; clear BK567; clear BK568; clear HB; have BK566 := n0_; have BK567 := n1_; have BK568 := n2_; have HB := n3_; clear n0_ n1_ n2_ n3_; (try clear hb); (try clear hb2); (try clear hk); (try clear hi)))
                          go_ret
                          exact ⟨by first | rfl | (simp [errW_none, errW_some] <;> rfl) | (simp [*, errW_none, errW_some] <;> rfl), by repeat (first | (with_reducible first | exact HB.out | apply below_alloc | apply pw_below_drewN | apply below_drew1 | refine below_set ?_ GE566.out | refine below_set ?_ GE567.out | refine below_set ?_ GE568.out) | exact HB.out)⟩
                        · rw [if_neg c75] at H
                          exact absurd H (by simp)
                      · replace c74 := Bool.eq_false_iff.mpr c74
                        subst c74
                        have H1 : (none) = some r := by rw [if_neg (show ¬ (false = true) by decide)] at H; exact H
                        clear H
                        have H := H1
                        clear H1
                        exact absurd H (by simp)
                    · replace c72 := Bool.eq_false_iff.mpr c72
                      subst c72
                      have H1 : (if (true == (!x10_38)) = true then (some true) else (none)) = some r := by rw [if_neg (show ¬ (false = true) by decide)] at H; exact H
                      clear H
                      have H := H1
                      clear H1
                      by_cases c87 : (true == (!x10_38)) = true
                      · rw [if_pos c87] at H
                        have c87b0 : (true == (!x10_38)) = true := c87
                        (try (have c87b1 : decide (true = (!x10_38)) = true := by simpa using c87))
                        (try (have c87b2 : (true == (!x10_38)) = true := by simpa using c87))
                        clear c87
                        obtain rfl := Option.some.inj H
                        have hnb88 := NB566_567.out
                        have hnc88 := NB567_566.out
                        have hnb89 := NB566_568.out
                        have hnc89 := NB568_566.out
                        have hcz90_0 : wc.cell? ⟨gb566, 0, none⟩ = some (.int .i64 a0_0) := (blk_cell BK566.out 0).trans rfl
                        have hcz90_1 : wc.cell? ⟨gb566, 1, none⟩ = some (.int .i64 a0_1) := (blk_cell BK566.out 1).trans rfl
                        have hcz90_2 : wc.cell? ⟨gb566, 2, none⟩ = some (.int .i64 a0_2) := (blk_cell BK566.out 2).trans rfl
                        have hcz90_3 : wc.cell? ⟨gb566, 3, none⟩ = some (.string a0_3) := (blk_cell BK566.out 3).trans rfl
                        have hcz90_4 : wc.cell? ⟨gb566, 4, none⟩ = some (.slice A0_4 l0_4.length c0_4) := (blk_cell BK566.out 4).trans rfl
                        have hfz90_0 := blk_frozen BK566.out 0
                        have hfz90_1 := blk_frozen BK566.out 1
                        have hfz90_2 := blk_frozen BK566.out 2
                        have hfz90_3 := blk_frozen BK566.out 3
                        have hfz90_4 := blk_frozen BK566.out 4
                        go_wp2_with (first | (go_at_call 28; (with_reducible refine (event_Less.calls kj38 a0_0 a0_1 a0_2 a0_3 _ _ l0_4 a0_0 a0_1 a0_2 a0_3 _ _ l0_4 false _ ?side1 ?side2 ?side3 ?side4 A67.out).mono ?_); (case side1 => repeat (first | exact (Kd.C_below HR0_4.out HB.out) | (with_reducible refine Kd.C_alloc ?_ _) | (with_reducible refine Kd.C_drewN ?_ _) | (with_reducible refine Kd.C_drew ?_))); (case side2 => exact HC0_4.out); (case side3 => repeat (first | exact (Kd.C_below HR0_4.out HB.out) | (with_reducible refine Kd.C_alloc ?_ _) | (with_reducible refine Kd.C_drewN ?_ _) | (with_reducible refine Kd.C_drew ?_))); (case side4 => exact HC0_4.out); rintro e w91 ⟨rfl, hb⟩; have n0_ := Aside0.mk (blk_below (g := gb566) (o := .cells #[.int .i64 a0_0, .int .i64 a0_1, .int .i64 a0_2, .string a0_3, .slice A0_4 l0_4.length c0_4] 25 (0, 0)) (by (with_reducible repeat (first | refine blk_drewN ?_ _ | refine blk_drew ?_ | refine blk_alloc ?_ _)); exact BK566.out) hb); have n1_ := Aside0.mk (blk_below (g := gb567) (o := .cells #[.int .i64 a1_0, .int .i64 a1_1, .int .i64 a1_2, .string a1_3, .slice A1_4 l1_4.length c1_4] 25 (0, 0)) (by (with_reducible repeat (first | refine blk_drewN ?_ _ | refine blk_drew ?_ | refine blk_alloc ?_ _)); exact BK567.out) hb); have n2_ := Aside0.mk (blk_below (g := gb568) (o := .cells #[.int .i64 a2_0, .int .i64 a2_1, .int .i64 a2_2, .string a2_3, .slice A2_4 l2_4.length c2_4] 25 (0, 0)) (by (with_reducible repeat (first | refine blk_drewN ?_ _ | refine blk_drew ?_ | refine blk_alloc ?_ _)); exact BK568.out) hb); have n3_ := Aside0.mk (below_step (by repeat (first | (with_reducible first | exact HB.out | apply below_alloc | apply pw_below_drewN | apply below_drew1 | refine below_set ?_ GE566.out | refine below_set ?_ GE567.out | refine below_set ?_ GE568.out) | exact HB.out)) hb); clear BK566; clear BK567; clear BK568; clear HB; have BK566 := n0_; have BK567 := n1_; have BK568 := n2_; have HB := n3_; clear n0_ n1_ n2_ n3_; (try clear hb); (try clear hb2); (try clear hk); (try clear hi); have hnb92 := NB567_568.out; have hnc92 := NB568_567.out; have hcz93_0 : w91.cell? ⟨gb567, 0, none⟩ = some (.int .i64 a1_0) := (blk_cell BK567.out 0).trans rfl; have hcz93_1 : w91.cell? ⟨gb567, 1, none⟩ = some (.int .i64 a1_1) := (blk_cell BK567.out 1).trans rfl; have hcz93_2 : w91.cell? ⟨gb567, 2, none⟩ = some (.int .i64 a1_2) := (blk_cell BK567.out 2).trans rfl; have hcz93_3 : w91.cell? ⟨gb567, 3, none⟩ = some (.string a1_3) := (blk_cell BK567.out 3).trans rfl; have hcz93_4 : w91.cell? ⟨gb567, 4, none⟩ = some (.slice A1_4 l1_4.length c1_4) := (blk_cell BK567.out 4).trans rfl; have hfz93_0 := blk_frozen BK567.out 0; have hfz93_1 := blk_frozen BK567.out 1; have hfz93_2 := blk_frozen BK567.out 2; have hfz93_3 := blk_frozen BK567.out 3; have hfz93_4 := blk_frozen BK567.out 4; have hcz94_0 : w91.cell? ⟨gb566, 0, none⟩ = some (.int .i64 a0_0) := (blk_cell BK566.out 0).trans rfl; have hcz94_1 : w91.cell? ⟨gb566, 1, none⟩ = some (.int .i64 a0_1) := (blk_cell BK566.out 1).trans rfl; have hcz94_2 : w91.cell? ⟨gb566, 2, none⟩ = some (.int .i64 a0_2) := (blk_cell BK566.out 2).trans rfl; have hcz94_3 : w91.cell? ⟨gb566, 3, none⟩ = some (.string a0_3) := (blk_cell BK566.out 3).trans rfl; have hcz94_4 : w91.cell? ⟨gb566, 4, none⟩ = some (.slice A0_4 l0_4.length c0_4) := (blk_cell BK566.out 4).trans rfl; have hfz94_0 := blk_frozen BK566.out 0; have hfz94_1 := blk_frozen BK566.out 1; have hfz94_2 := blk_frozen BK566.out 2; have hfz94_3 := blk_frozen BK566.out 3; have hfz94_4 := blk_frozen BK566.out 4) | (go_at_call 28; (with_reducible refine (event_Less.calls kj38 a1_0 a1_1 a1_2 a1_3 _ _ l1_4 a0_0 a0_1 a0_2 a0_3 _ _ l0_4 false _ ?side1 ?side2 ?side3 ?side4 A70.out).mono ?_); (case side1 => repeat (first | exact (Kd.C_below HR1_4.out HB.out) | (with_reducible refine Kd.C_alloc ?_ _) | (with_reducible refine Kd.C_drewN ?_ _) | (with_reducible refine Kd.C_drew ?_))); (case side2 => exact HC1_4.out); (case side3 => repeat (first | exact (Kd.C_below HR0_4.out HB.out) | (with_reducible refine Kd.C_alloc ?_ _) | (with_reducible refine Kd.C_drewN ?_ _) | (with_reducible refine Kd.C_drew ?_))); (case side4 => exact HC0_4.out); rintro e w95 ⟨rfl, hb⟩; have n0_ := Aside0.mk (blk_below (g := gb566) (o := .cells #[.int .i64 a0_0, .int .i64 a0_1, .int .i64 a0_2, .string a0_3, .slice A0_4 l0_4.length c0_4] 25 (0, 0)) (by (with_reducible repeat (first | refine blk_drewN ?_ _ | refine blk_drew ?_ | refine blk_alloc ?_ _)); exact BK566.out) hb); have n1_ := Aside0.mk (blk_below (g := gb567) (o := .cells #[.int .i64 a1_0, .int .i64 a1_1, .int .i64 a1_2, .string a1_3, .slice A1_4 l1_4.length c1_4] 25 (0, 0)) (by (with_reducible repeat (first | refine blk_drewN ?_ _ | refine blk_drew ?_ | refine blk_alloc ?_ _)); exact BK567.out) hb); have n2_ := Aside0.mk (blk_below (g := gb568) (o := .cells #[.int .i64 a2_0, .int .i64 a2_1, .int .i64 a2_2, .string a2_3, .slice A2_4 l2_4.length c2_4] 25 (0, 0)) (by (with_reducible repeat (first | refine blk_drewN ?_ _ | refine blk_drew ?_ | refine blk_alloc ?_ _)); exact BK568.out) hb); have n3_ := Aside0.mk (below_step (by repeat (first | (with_reducible first | exact HB.out | apply below_alloc | apply pw_below_drewN | apply below_drew1 | refine below_set ?_ GE566.out | refine below_set ?_ GE567.out | refine below_set ?_ GE568.out) | exact HB.out)) hb); clear BK566; clear BK567; clear BK568; clear HB; have BK566 := n0_; have BK567 := n1_; have BK568 := n2_; have HB := n3_; clear n0_ n1_ n2_ n3_; (try clear hb); (try clear hb2); (try clear hk); (try clear hi)))
                        go_ret
                        exact ⟨by first | rfl | (simp [errW_none, errW_some] <;> rfl) | (simp [*, errW_none, errW_some] <;> rfl), by repeat (first | (with_reducible first | exact HB.out | apply below_alloc | apply pw_below_drewN | apply below_drew1 | refine below_set ?_ GE566.out | refine below_set ?_ GE567.out | refine below_set ?_ GE568.out) | exact HB.out)⟩
                      · rw [if_neg c87] at H
                        exact absurd H (by simp)
                · replace c69 := Bool.eq_false_iff.mpr c69
                  subst c69
                  have H1 : ((event_Less.f kj38 a1_0 a1_1 a1_2 a1_3 l1_4 a0_0 a0_1 a0_2 a0_3 l0_4).bind fun t578 => (if (t578 == (!x10_38)) = true then (some true) else (none))) = some r := by rw [if_neg (show ¬ (false = true) by decide)] at H; exact H
                  clear H
                  have H := H1
                  clear H1
                  replace H := Option.bind_eq_some_iff.mp H
                  obtain ⟨t578, A960, H⟩ := H
                  replace H : (if (t578 == (!x10_38)) = true then (some true) else (none)) = some r := H
                  have A96 := Aside0.mk A960
                  clear A960
                  by_cases c97 : (t578 == (!x10_38)) = true
                  · rw [if_pos c97] at H
                    have c97b0 : (t578 == (!x10_38)) = true := c97
                    (try (have c97b1 : decide (t578 = (!x10_38)) = true := by simpa using c97))
                    (try (have c97b2 : (t578 == (!x10_38)) = true := by simpa using c97))
                    clear c97
                    obtain rfl := Option.some.inj H
                    have hnb98 := NB566_567.out
                    have hnc98 := NB567_566.out
                    have hnb99 := NB566_568.out
                    have hnc99 := NB568_566.out
                    have hcz100_0 : wc.cell? ⟨gb566, 0, none⟩ = some (.int .i64 a0_0) := (blk_cell BK566.out 0).trans rfl
                    have hcz100_1 : wc.cell? ⟨gb566, 1, none⟩ = some (.int .i64 a0_1) := (blk_cell BK566.out 1).trans rfl
                    have hcz100_2 : wc.cell? ⟨gb566, 2, none⟩ = some (.int .i64 a0_2) := (blk_cell BK566.out 2).trans rfl
                    have hcz100_3 : wc.cell? ⟨gb566, 3, none⟩ = some (.string a0_3) := (blk_cell BK566.out 3).trans rfl
                    have hcz100_4 : wc.cell? ⟨gb566, 4, none⟩ = some (.slice A0_4 l0_4.length c0_4) := (blk_cell BK566.out 4).trans rfl
                    have hfz100_0 := blk_frozen BK566.out 0
                    have hfz100_1 := blk_frozen BK566.out 1
                    have hfz100_2 := blk_frozen BK566.out 2
                    have hfz100_3 := blk_frozen BK566.out 3
                    have hfz100_4 := blk_frozen BK566.out 4
                    go_wp2_with (first | (go_at_call 28; (with_reducible refine (event_Less.calls kj38 a0_0 a0_1 a0_2 a0_3 _ _ l0_4 a0_0 a0_1 a0_2 a0_3 _ _ l0_4 false _ ?side1 ?side2 ?side3 ?side4 A67.out).mono ?_); (case side1 => repeat (first | exact (Kd.C_below HR0_4.out HB.out) | (with_reducible refine Kd.C_alloc ?_ _) | (with_reducible refine Kd.C_drewN ?_ _) | (with_reducible refine Kd.C_drew ?_))); (case side2 => exact HC0_4.out); (case side3 => repeat (first | exact (Kd.C_below HR0_4.out HB.out) | (with_reducible refine Kd.C_alloc ?_ _) | (with_reducible refine Kd.C_drewN ?_ _) | (with_reducible refine Kd.C_drew ?_))); (case side4 => exact HC0_4.out); rintro e w101 ⟨rfl, hb⟩; have n0_ := Aside0.mk (blk_below (g := gb566) (o := .cells #[.int .i64 a0_0, .int .i64 a0_1, .int .i64 a0_2, .string a0_3, .slice A0_4 l0_4.length c0_4] 25 (0, 0)) (by (with_reducible repeat (first | refine blk_drewN ?_ _ | refine blk_drew ?_ | refine blk_alloc ?_ _)); exact BK566.out) hb); have n1_ := Aside0.mk (blk_below (g := gb567) (o := .cells #[.int .i64 a1_0, .int .i64 a1_1, .int .i64 a1_2, .string a1_3, .slice A1_4 l1_4.length c1_4] 25 (0, 0)) (by (with_reducible repeat (first | refine blk_drewN ?_ _ | refine blk_drew ?_ | refine blk_alloc ?_ _)); exact BK567.out) hb); have n2_ := Aside0.mk (blk_below (g := gb568) (o := .cells #[.int .i64 a2_0, .int .i64 a2_1, .int .i64 a2_2, .string a2_3, .slice A2_4 l2_4.length c2_4] 25 (0, 0)) (by (with_reducible repeat (first | refine blk_drewN ?_ _ | refine blk_drew ?_ | refine blk_alloc ?_ _)); exact BK568.out) hb); have n3_ := Aside0.mk (below_step (by repeat (first | (with_reducible first | exact HB.out | apply below_alloc | apply pw_below_drewN | apply below_drew1 | refine below_set ?_ GE566.out | refine below_set ?_ GE567.out | refine below_set ?_ GE568.out) | exact HB.out)) hb); clear BK566; clear BK567; clear BK568; clear HB; have BK566 := n0_; have BK567 := n1_; have BK568 := n2_; have HB := n3_; clear n0_ n1_ n2_ n3_; (try clear hb); (try clear hb2); (try clear hk); (try clear hi); have hnb102 := NB567_568.out; have hnc102 := NB568_567.out; have hcz103_0 : w101.cell? ⟨gb567, 0, none⟩ = some (.int .i64 a1_0) := (blk_cell BK567.out 0).trans rfl; have hcz103_1 : w101.cell? ⟨gb567, 1, none⟩ = some (.int .i64 a1_1) := (blk_cell BK567.out 1).trans rfl; have hcz103_2 : w101.cell? ⟨gb567, 2, none⟩ = some (.int .i64 a1_2) := (blk_cell BK567.out 2).trans rfl; have hcz103_3 : w101.cell? ⟨gb567, 3, none⟩ = some (.string a1_3) := (blk_cell BK567.out 3).trans rfl; have hcz103_4 : w101.cell? ⟨gb567, 4, none⟩ = some (.slice A1_4 l1_4.length c1_4) := (blk_cell BK567.out 4).trans rfl; have hfz103_0 := blk_frozen BK567.out 0; have hfz103_1 := blk_frozen BK567.out 1; have hfz103_2 := blk_frozen BK567.out 2; have hfz103_3 := blk_frozen BK567.out 3; have hfz103_4 := blk_frozen BK567.out 4; have hcz104_0 : w101.cell? ⟨gb566, 0, none⟩ = some (.int .i64 a0_0) := (blk_cell BK566.out 0).trans rfl; have hcz104_1 : w101.cell? ⟨gb566, 1, none⟩ = some (.int .i64 a0_1) := (blk_cell BK566.out 1).trans rfl; have hcz104_2 : w101.cell? ⟨gb566, 2, none⟩ = some (.int .i64 a0_2) := (blk_cell BK566.out 2).trans rfl; have hcz104_3 : w101.cell? ⟨gb566, 3, none⟩ = some (.string a0_3) := (blk_cell BK566.out 3).trans rfl; have hcz104_4 : w101.cell? ⟨gb566, 4, none⟩ = some (.slice A0_4 l0_4.length c0_4) := (blk_cell BK566.out 4).trans rfl; have hfz104_0 := blk_frozen BK566.out 0; have hfz104_1 := blk_frozen BK566.out 1; have hfz104_2 := blk_frozen BK566.out 2; have hfz104_3 := blk_frozen BK566.out 3; have hfz104_4 := blk_frozen BK566.out 4) | (go_at_call 28; (with_reducible refine (event_Less.calls kj38 a1_0 a1_1 a1_2 a1_3 _ _ l1_4 a0_0 a0_1 a0_2 a0_3 _ _ l0_4 t578 _ ?side1 ?side2 ?side3 ?side4 A96.out).mono ?_); (case side1 => repeat (first | exact (Kd.C_below HR1_4.out HB.out) | (with_reducible refine Kd.C_alloc ?_ _) | (with_reducible refine Kd.C_drewN ?_ _) | (with_reducible refine Kd.C_drew ?_))); (case side2 => exact HC1_4.out); (case side3 => repeat (first | exact (Kd.C_below HR0_4.out HB.out) | (with_reducible refine Kd.C_alloc ?_ _) | (with_reducible refine Kd.C_drewN ?_ _) | (with_reducible refine Kd.C_drew ?_))); (case side4 => exact HC0_4.out); rintro e w105 ⟨rfl, hb⟩; have n0_ := Aside0.mk (blk_below (g := gb566) (o := .cells #[.int .i64 a0_0, .int .i64 a0_1, .int .i64 a0_2, .string a0_3, .slice A0_4 l0_4.length c0_4] 25 (0, 0)) (by (with_reducible repeat (first | refine blk_drewN ?_ _ | refine blk_drew ?_ | refine blk_alloc ?_ _)); exact BK566.out) hb); have n1_ := Aside0.mk (blk_below (g := gb567) (o := .cells #[.int .i64 a1_0, .int .i64 a1_1, .int .i64 a1_2, .string a1_3, .slice A1_4 l1_4.length c1_4] 25 (0, 0)) (by (with_reducible repeat (first | refine blk_drewN ?_ _ | refine blk_drew ?_ | refine blk_alloc ?_ _)); exact BK567.out) hb); have n2_ := Aside0.mk (blk_below (g := gb568) (o := .cells #[.int .i64 a2_0, .int .i64 a2_1, .int .i64 a2_2, .string a2_3, .slice A2_4 l2_4.length c2_4] 25 (0, 0)) (by (with_reducible repeat (first | refine blk_drewN ?_ _ | refine blk_drew ?_ | refine blk_alloc ?_ _)); exact BK568.out) hb); have n3_ := Aside0.mk (below_step (by repeat (first | (with_reducible first | exact HB.out | apply below_alloc | apply pw_below_drewN | apply below_drew1 | refine below_set ?_ GE566.out | refine below_set ?_ GE567.out | refine below_set ?_ GE568.out) | exact HB.out)) hb); clear BK566; clear BK567; clear BK568; clear HB; have BK566 := n0_; have BK567 := n1_; have BK568 := n2_; have HB := n3_; clear n0_ n1_ n2_ n3_; (try clear hb); (try clear hb2); (try clear hk); (try clear hi)))
                    go_ret
                    exact ⟨by first | rfl | (simp [errW_none, errW_some] <;> rfl) | (simp [*, errW_none, errW_some] <;> rfl), by repeat (first | (with_reducible first | exact HB.out | apply below_alloc | apply pw_below_drewN | apply below_drew1 | refine below_set ?_ GE566.out | refine below_set ?_ GE567.out | refine below_set ?_ GE568.out) | exact HB.out)⟩
                  · rw [if_neg c97] at H
                    exact absurd H (by simp)
            · replace c66 := Bool.eq_false_iff.mpr c66
              subst c66
              have H1 : (none) = some r := by rw [if_neg (show ¬ (false = true) by decide)] at H; exact H
              clear H
              have H := H1
              clear H1
              exact absurd H (by simp)

/-- THE ONE PURE STATEMENT of augurylaw05_EventOrder: yours. -/
def augurylaw05_EventOrder.Pure : Prop := ∀ (x0 : S25) (x1 : S25) (x2 : S25), ok25 x0 → ok25 x1 → ok25 x2 → ∃ k, augurylaw05_EventOrder.f k x0.f0 x0.f1 x0.f2 x0.f3 x0.f4 x1.f0 x1.f1 x1.f2 x1.f3 x1.f4 x2.f0 x2.f1 x2.f2 x2.f3 x2.f4 = some true

end Go.Proofs.Ytbnjhmcbkocdjaa.PAll
