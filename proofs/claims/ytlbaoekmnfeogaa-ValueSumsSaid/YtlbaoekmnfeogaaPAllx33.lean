/- Written by this session's own program (wip/xprint): functions of the Go program as Lean functions, and proofs that the Go code computes them. -/
import Derived.Test.YtlbaoekmnfeogaaPAllx0
import Derived.Test.YtlbaoekmnfeogaaPAllx1
import Derived.Test.YtlbaoekmnfeogaaPAllx5
import Derived.Test.YtlbaoekmnfeogaaPAllx6
import Derived.Test.YtlbaoekmnfeogaaPAllx16
import Derived.Test.YtlbaoekmnfeogaaPAllx18
namespace Go.Proofs.Ytlbaoekmnfeogaa.PAll
open Go.RowKit Go.Proofs.YtlbaoekmnfeogaaW.PrintWords Go.Proofs.YtlbaoekmnfeogaaW.PrintLast Go.Proofs.YtlbaoekmnfeogaaW.PrintMore
attribute [local go_sem] max2_int min2_int max_two min_two max_three min_three max_four min_four   -- for this text's walks alone
set_option linter.unusedVariables false
set_option linter.unusedSimpArgs false

attribute [local go_sem high] eqA23
/-! ### augurylaw04_ValueSums: function 7 -/
def augurylaw04_ValueSums.j0 : Nat → Int → Int → Bool → Int → Bool → Int → Int → ByteArray → Option (Bool)
  | 0, _, _, _, _, _, _, _, _ => none
  | k + 1, x0, x1, x5, x7, x40, x440000, x440001, x440002 => if x40 = true then (none) else (if x7 = 0 then ((augurylaw04_num.f x1).bind fun bt451 => ((value_Sub.f k x440000 x440001 x440002 bt451.1 bt451.2.1 bt451.2.2).bind fun bt454 => ((augurylaw04_num.f x0).bind fun bt459 => ((value_Sub.f k x440000 x440001 x440002 bt459.1 bt459.2.1 bt459.2.2).bind fun bt462 => ((value_Sub.f k x440000 x440001 x440002 x440000 x440001 x440002).bind fun bt467 => (if x5 = true then (if bt454.2.2.2 = 0 then ((augurylaw04_num.f x0).bind fun bt472 => (if (bt454.1 == bt472.1 && (bt454.2.1 == bt472.2.1 && (bt454.2.2.1.toList == bt472.2.2.toList))) = true then (if bt462.2.2.2 = 0 then ((augurylaw04_num.f x1).bind fun bt475 => (if (bt462.1 == bt475.1 && (bt462.2.1 == bt475.2.1 && (bt462.2.2.1.toList == bt475.2.2.toList))) = true then (if bt467.2.2.2 = 0 then ((augurylaw04_num.f 0).bind fun bt478 => (if (bt467.1 == bt478.1 && (bt467.2.1 == bt478.2.1 && (bt467.2.2.1.toList == bt478.2.2.toList))) = true then (if x440001 = (wrap64 (x0 + x1)) then (some true) else (none)) else (none))) else (none)) else (none))) else (none)) else (none))) else (none)) else (none))))))) else (if x5 = true then (if (x440000 == 0 && (x440001 == 0 && (x440002.toList == ([] : List UInt8)))) = true then (some true) else (none)) else (none)))
def augurylaw04_ValueSums.f (k : Nat) (a0 : Int) (a1 : Int) : Option (Bool) := (augurylaw04_head.f k).bind fun t428 => ((augurylaw04_num.f a0).bind fun bt429 => ((augurylaw04_num.f a1).bind fun bt432 => ((value_Add.f k bt429.1 bt429.2.1 bt429.2.2 bt432.1 bt432.2.1 bt432.2.2).bind fun bt435 => ((augurylaw04_num.f a1).bind fun bt440 => ((augurylaw04_num.f a0).bind fun bt443 => ((value_Add.f k bt440.1 bt440.2.1 bt440.2.2 bt443.1 bt443.2.1 bt443.2.2).bind fun bt446 => (if (!(bt435.1 == bt446.1) || (!(bt435.2.1 == bt446.2.1) || (!(bt435.2.2.1.toList == bt446.2.2.1.toList)))) = true then (augurylaw04_ValueSums.j0 k a0 a1 t428 bt435.2.2.2 true bt435.1 bt435.2.1 bt435.2.2.1) else (augurylaw04_ValueSums.j0 k a0 a1 t428 bt435.2.2.2 (bt435.2.2.2 != bt446.2.2.2) bt435.1 bt435.2.1 bt435.2.2.1))))))))
theorem augurylaw04_ValueSums.mono_l : ∀ k, (∀ y0 y1 y2 y3 y4 y5 y6 y7, LeO (augurylaw04_ValueSums.j0 k y0 y1 y2 y3 y4 y5 y6 y7) (augurylaw04_ValueSums.j0 (k + 1) y0 y1 y2 y3 y4 y5 y6 y7))
  | 0 => fun _ _ _ _ _ _ _ _ r h => by simp [augurylaw04_ValueSums.j0] at h
  | k + 1 => by
    have ih0 := augurylaw04_ValueSums.mono_l k
    · intro y0 y1 y2 y3 y4 y5 y6 y7
      unfold augurylaw04_ValueSums.j0
      repeat' first
      | (with_reducible exact ih0 _ _ _ _ _ _ _ _)
      | (with_reducible exact augurylaw04_head.mono _)
      | (with_reducible exact value_Add.mono _ _ _ _ _ _ _)
      | (with_reducible exact value_Sub.mono _ _ _ _ _ _ _)
      | (with_reducible exact LeO.refl _)
      | (with_reducible exact LeO.none _)
      | (with_reducible refine LeO.ite ?_ ?_)
      | (with_reducible refine LeO.bind ?_ (fun _ => ?_))
      | exact ih0 _ _ _ _ _ _ _ _
      | exact augurylaw04_head.mono _
      | exact value_Add.mono _ _ _ _ _ _ _
      | exact value_Sub.mono _ _ _ _ _ _ _
      | exact LeO.none _
      | refine LeO.ite ?_ ?_
      | refine LeO.bind ?_ (fun _ => ?_)
theorem augurylaw04_ValueSums.mono : ∀ a0 a1 k, LeO (augurylaw04_ValueSums.f k a0 a1) (augurylaw04_ValueSums.f (k + 1) a0 a1) := by
  intro a0 a1 k
  have ih0 := augurylaw04_ValueSums.mono_l k
  unfold augurylaw04_ValueSums.f
  repeat' first
      | (with_reducible exact ih0 _ _ _ _ _ _ _ _)
      | (with_reducible exact augurylaw04_head.mono _)
      | (with_reducible exact value_Add.mono _ _ _ _ _ _ _)
      | (with_reducible exact value_Sub.mono _ _ _ _ _ _ _)
      | (with_reducible exact LeO.refl _)
      | (with_reducible exact LeO.none _)
      | (with_reducible refine LeO.ite ?_ ?_)
      | (with_reducible refine LeO.bind ?_ (fun _ => ?_))
      | exact ih0 _ _ _ _ _ _ _ _
      | exact augurylaw04_head.mono _
      | exact value_Add.mono _ _ _ _ _ _ _
      | exact value_Sub.mono _ _ _ _ _ _ _
      | exact LeO.none _
      | refine LeO.ite ?_ ?_
      | refine LeO.bind ?_ (fun _ => ?_)
def augurylaw04_ValueSums.T8 : Bool × List (List Nat × List Nat) := (true, [([], []), ([], []), ([1], [1]), ([0, 2, 2], [0, 2]), ([3], [3]), ([4], [4]), ([4], [4]), ([], []), ([7, 5, 3, 0, 1, 2, 3, 4, 5, 7], [5, 7]), ([6, 8, 0, 1, 2, 3, 4, 5, 6, 7, 8], [6])])
def augurylaw04_ValueSums.B8 : List Nat := [0, 0, 2, 7, 15, 31, 31, 0, 191, 511]
theorem augurylaw04_ValueSums.tab8 : rtab .any (opsOf Try.f7 8) = augurylaw04_ValueSums.T8 := by kernel_rfl
theorem augurylaw04_ValueSums.bits8 : waitsOk augurylaw04_ValueSums.T8.2 augurylaw04_ValueSums.B8 = true := by kernel_rfl
def augurylaw04_ValueSums.T9 : Bool × List (List Nat × List Nat) := (true, [([], []), ([], []), ([1], [1]), ([0, 2, 2], [0, 2]), ([3], [3]), ([4], [4]), ([4], [4]), ([], []), ([7, 5, 3, 0, 1, 2, 3, 4, 5, 7], [5, 7]), ([6, 8, 0, 1, 2, 3, 4, 5, 6, 7, 8], [6])])
def augurylaw04_ValueSums.B9 : List Nat := [0, 0, 2, 7, 15, 31, 31, 0, 191, 511]
theorem augurylaw04_ValueSums.tab9 : rtab .any (opsOf Try.f7 9) = augurylaw04_ValueSums.T9 := by kernel_rfl
theorem augurylaw04_ValueSums.bits9 : waitsOk augurylaw04_ValueSums.T9.2 augurylaw04_ValueSums.B9 = true := by kernel_rfl
def augurylaw04_ValueSums.T11 : Bool × List (List Nat × List Nat) := (true, [([], []), ([0], [0]), ([1], [1]), ([2, 1], [1, 2]), ([1, 3], [1, 3]), ([4, 1], [4]), ([5], [5]), ([5], [5]), ([7, 5, 5], [5, 7]), ([6, 8, 5], [5, 6, 8]), ([5, 9], [5, 9]), ([10, 8], [10]), ([11], [11]), ([12, 11], [11, 12]), ([11, 13], [11, 13]), ([14, 11], [14]), ([15], [15]), ([15], [15]), ([17, 15, 15], [15, 17]), ([16, 18, 15], [15, 16, 18]), ([15, 19], [15, 19]), ([20, 18], [20]), ([21], [21]), ([22, 21], [21, 22]), ([21, 23], [21, 23]), ([24, 21], [24]), ([25], [25]), ([25, 25], [25]), ([26, 27, 25], [25, 26, 27]), ([25, 28], [25, 28]), ([29, 27], [29]), ([30], [30]), ([31, 30], [30, 31]), ([30], [30]), ([30], [30]), ([33, 34, 30], [30, 33, 34]), ([32, 35, 30], [30, 32, 35]), ([30, 36], [30, 36]), ([37, 30, 0, 1, 2, 3, 4, 5, 6, 7, 8, 9, 10, 11, 12, 13, 14, 15, 16, 17, 18, 19, 20, 21, 22, 23, 24, 25, 26, 27, 28, 29, 30, 31, 32, 33, 34, 35, 36, 37], [37])])
def augurylaw04_ValueSums.B11 : List Nat := [0, 1, 3, 7, 15, 31, 63, 63, 191, 511, 1023, 2047, 4095, 8191, 16383, 32767, 65535, 65535, 196607, 524287, 1048575, 2097151, 4194303, 8388607, 16777215, 33554431, 67108863, 67108863, 268435455, 536870911, 1073741823, 2147483647, 4294967295, 2147483647, 2147483647, 27917287423, 68719476735, 137438953471, 274877906943]
theorem augurylaw04_ValueSums.tab11 : rtab .any (opsOf Try.f7 11) = augurylaw04_ValueSums.T11 := by kernel_rfl
theorem augurylaw04_ValueSums.bits11 : waitsOk augurylaw04_ValueSums.T11.2 augurylaw04_ValueSums.B11 = true := by kernel_rfl
set_option maxHeartbeats 8000000 in
set_option maxRecDepth 100000 in
theorem augurylaw04_ValueSums.calls (k : Nat) (a0 : Int) (a1 : Int) (r : Bool) (w : World) (h : augurylaw04_ValueSums.f k a0 a1 = some r) :
    Calls Try.prog 7 #[.int .i64 a0, .int .i64 a1] w fun e w' => e = .returned (.bool r) ∧ Below w.heap.size w w' := by
  have hu23 := Try.underlying23
  have HB := Aside0.mk (Below.refl w.heap.size w)
  have H : ((augurylaw04_head.f k).bind fun t428 => ((augurylaw04_num.f a0).bind fun bt429 => ((augurylaw04_num.f a1).bind fun bt432 => ((value_Add.f k bt429.1 bt429.2.1 bt429.2.2 bt432.1 bt432.2.1 bt432.2.2).bind fun bt435 => ((augurylaw04_num.f a1).bind fun bt440 => ((augurylaw04_num.f a0).bind fun bt443 => ((value_Add.f k bt440.1 bt440.2.1 bt440.2.2 bt443.1 bt443.2.1 bt443.2.2).bind fun bt446 => (if (!(bt435.1 == bt446.1) || (!(bt435.2.1 == bt446.2.1) || (!(bt435.2.2.1.toList == bt446.2.2.1.toList)))) = true then (augurylaw04_ValueSums.j0 k a0 a1 t428 bt435.2.2.2 true bt435.1 bt435.2.1 bt435.2.2.1) else (augurylaw04_ValueSums.j0 k a0 a1 t428 bt435.2.2.2 (bt435.2.2.2 != bt446.2.2.2) bt435.1 bt435.2.1 bt435.2.2.1))))))))) = some r := h
  clear h
  replace H := Option.bind_eq_some_iff.mp H
  obtain ⟨t428, A30, H⟩ := H
  replace H : ((augurylaw04_num.f a0).bind fun bt429 => ((augurylaw04_num.f a1).bind fun bt432 => ((value_Add.f k bt429.1 bt429.2.1 bt429.2.2 bt432.1 bt432.2.1 bt432.2.2).bind fun bt435 => ((augurylaw04_num.f a1).bind fun bt440 => ((augurylaw04_num.f a0).bind fun bt443 => ((value_Add.f k bt440.1 bt440.2.1 bt440.2.2 bt443.1 bt443.2.1 bt443.2.2).bind fun bt446 => (if (!(bt435.1 == bt446.1) || (!(bt435.2.1 == bt446.2.1) || (!(bt435.2.2.1.toList == bt446.2.2.1.toList)))) = true then (augurylaw04_ValueSums.j0 k a0 a1 t428 bt435.2.2.2 true bt435.1 bt435.2.1 bt435.2.2.1) else (augurylaw04_ValueSums.j0 k a0 a1 t428 bt435.2.2.2 (bt435.2.2.2 != bt446.2.2.2) bt435.1 bt435.2.1 bt435.2.2.1)))))))) = some r := H
  have A3 := Aside0.mk A30
  clear A30
  replace H := Option.bind_eq_some_iff.mp H
  obtain ⟨⟨t429, t430, t431⟩, A40, H⟩ := H
  replace H : ((augurylaw04_num.f a1).bind fun bt432 => ((value_Add.f k t429 t430 t431 bt432.1 bt432.2.1 bt432.2.2).bind fun bt435 => ((augurylaw04_num.f a1).bind fun bt440 => ((augurylaw04_num.f a0).bind fun bt443 => ((value_Add.f k bt440.1 bt440.2.1 bt440.2.2 bt443.1 bt443.2.1 bt443.2.2).bind fun bt446 => (if (!(bt435.1 == bt446.1) || (!(bt435.2.1 == bt446.2.1) || (!(bt435.2.2.1.toList == bt446.2.2.1.toList)))) = true then (augurylaw04_ValueSums.j0 k a0 a1 t428 bt435.2.2.2 true bt435.1 bt435.2.1 bt435.2.2.1) else (augurylaw04_ValueSums.j0 k a0 a1 t428 bt435.2.2.2 (bt435.2.2.2 != bt446.2.2.2) bt435.1 bt435.2.1 bt435.2.2.1))))))) = some r := H
  have A4 := Aside0.mk A40
  clear A40
  replace H := Option.bind_eq_some_iff.mp H
  obtain ⟨⟨t432, t433, t434⟩, A50, H⟩ := H
  replace H : ((value_Add.f k t429 t430 t431 t432 t433 t434).bind fun bt435 => ((augurylaw04_num.f a1).bind fun bt440 => ((augurylaw04_num.f a0).bind fun bt443 => ((value_Add.f k bt440.1 bt440.2.1 bt440.2.2 bt443.1 bt443.2.1 bt443.2.2).bind fun bt446 => (if (!(bt435.1 == bt446.1) || (!(bt435.2.1 == bt446.2.1) || (!(bt435.2.2.1.toList == bt446.2.2.1.toList)))) = true then (augurylaw04_ValueSums.j0 k a0 a1 t428 bt435.2.2.2 true bt435.1 bt435.2.1 bt435.2.2.1) else (augurylaw04_ValueSums.j0 k a0 a1 t428 bt435.2.2.2 (bt435.2.2.2 != bt446.2.2.2) bt435.1 bt435.2.1 bt435.2.2.1)))))) = some r := H
  have A5 := Aside0.mk A50
  clear A50
  replace H := Option.bind_eq_some_iff.mp H
  obtain ⟨⟨t435, t436, t437, t438⟩, A60, H⟩ := H
  replace H : ((augurylaw04_num.f a1).bind fun bt440 => ((augurylaw04_num.f a0).bind fun bt443 => ((value_Add.f k bt440.1 bt440.2.1 bt440.2.2 bt443.1 bt443.2.1 bt443.2.2).bind fun bt446 => (if (!(t435 == bt446.1) || (!(t436 == bt446.2.1) || (!(t437.toList == bt446.2.2.1.toList)))) = true then (augurylaw04_ValueSums.j0 k a0 a1 t428 t438 true t435 t436 t437) else (augurylaw04_ValueSums.j0 k a0 a1 t428 t438 (t438 != bt446.2.2.2) t435 t436 t437))))) = some r := H
  have A6 := Aside0.mk A60
  clear A60
  replace H := Option.bind_eq_some_iff.mp H
  obtain ⟨⟨t440, t441, t442⟩, A70, H⟩ := H
  replace H : ((augurylaw04_num.f a0).bind fun bt443 => ((value_Add.f k t440 t441 t442 bt443.1 bt443.2.1 bt443.2.2).bind fun bt446 => (if (!(t435 == bt446.1) || (!(t436 == bt446.2.1) || (!(t437.toList == bt446.2.2.1.toList)))) = true then (augurylaw04_ValueSums.j0 k a0 a1 t428 t438 true t435 t436 t437) else (augurylaw04_ValueSums.j0 k a0 a1 t428 t438 (t438 != bt446.2.2.2) t435 t436 t437)))) = some r := H
  have A7 := Aside0.mk A70
  clear A70
  replace H := Option.bind_eq_some_iff.mp H
  obtain ⟨⟨t443, t444, t445⟩, A80, H⟩ := H
  replace H : ((value_Add.f k t440 t441 t442 t443 t444 t445).bind fun bt446 => (if (!(t435 == bt446.1) || (!(t436 == bt446.2.1) || (!(t437.toList == bt446.2.2.1.toList)))) = true then (augurylaw04_ValueSums.j0 k a0 a1 t428 t438 true t435 t436 t437) else (augurylaw04_ValueSums.j0 k a0 a1 t428 t438 (t438 != bt446.2.2.2) t435 t436 t437))) = some r := H
  have A8 := Aside0.mk A80
  clear A80
  replace H := Option.bind_eq_some_iff.mp H
  obtain ⟨⟨t446, t447, t448, t449⟩, A90, H⟩ := H
  replace H : (if (!(t435 == t446) || (!(t436 == t447) || (!(t437.toList == t448.toList)))) = true then (augurylaw04_ValueSums.j0 k a0 a1 t428 t438 true t435 t436 t437) else (augurylaw04_ValueSums.j0 k a0 a1 t428 t438 (t438 != t449) t435 t436 t437)) = some r := H
  have A9 := Aside0.mk A90
  clear A90
  have HC10 := Aside0.mk H
  clear H
  go_enter Try.func7, Try.ntmps7
  go_upto_region 4 with (first | ((with_reducible refine gate_callee (f := 9) rfl ?_); refine goesL_ (some 16) rfl rfl Try.func9 (by kernel_rfl) rfl #[] rfl (by (try simp only [List.map_toArray, List.map_cons, List.map_nil]); first | done | rfl | (simp only [List.length_drop, List.length_take]; rfl)) ?_; (with_reducible refine (augurylaw04_head.calls k  t428 _ A3.out).mono ?_); rintro e w11 ⟨rfl, hb⟩; refine ⟨_, rfl, ?_⟩; have n0_ := Aside0.mk (below_step (by repeat (first | (with_reducible first | exact HB.out | apply below_alloc | apply pw_below_drewN | apply below_drew1) | exact HB.out)) hb); clear HB; have HB := n0_; clear n0_; (try clear hb); (try clear hb2); (try clear hk); (try clear hi)) | ((with_reducible refine gate_callee (f := 22) rfl ?_); refine goesL_ (some 19) rfl rfl Try.func22 (by kernel_rfl) rfl #[.int .i64 a0] rfl (by (try simp only [List.map_toArray, List.map_cons, List.map_nil]); first | done | rfl | (simp only [List.length_drop, List.length_take]; rfl)) ?_; (with_reducible refine (augurylaw04_num.calls a0 t429 t430 t431 _ A4.out).mono ?_); rintro e w12 ⟨rfl, hb⟩; refine ⟨_, rfl, ?_⟩; have n0_ := Aside0.mk (below_step (by repeat (first | (with_reducible first | exact HB.out | apply below_alloc | apply pw_below_drewN | apply below_drew1) | exact HB.out)) hb); clear HB; have HB := n0_; clear n0_; (try clear hb); (try clear hb2); (try clear hk); (try clear hi)) | ((with_reducible refine gate_callee (f := 22) rfl ?_); refine goesL_ (some 21) rfl rfl Try.func22 (by kernel_rfl) rfl #[.int .i64 a1] rfl (by (try simp only [List.map_toArray, List.map_cons, List.map_nil]); first | done | rfl | (simp only [List.length_drop, List.length_take]; rfl)) ?_; (with_reducible refine (augurylaw04_num.calls a1 t432 t433 t434 _ A5.out).mono ?_); rintro e w13 ⟨rfl, hb⟩; refine ⟨_, rfl, ?_⟩; have n0_ := Aside0.mk (below_step (by repeat (first | (with_reducible first | exact HB.out | apply below_alloc | apply pw_below_drewN | apply below_drew1) | exact HB.out)) hb); clear HB; have HB := n0_; clear n0_; (try clear hb); (try clear hb2); (try clear hk); (try clear hi)) | ((with_reducible refine gate_callee (f := 10) rfl ?_); refine goesL_ (some 22) rfl rfl Try.func10 (by kernel_rfl) rfl #[.agg #[.int .i64 t429, .int .i64 t430, .string t431], .agg #[.int .i64 t432, .int .i64 t433, .string t434]] rfl (by (try simp only [List.map_toArray, List.map_cons, List.map_nil]); first | done | rfl | (simp only [List.length_drop, List.length_take]; rfl)) ?_; (with_reducible refine (value_Add.calls k t429 t430 t431 t432 t433 t434 t435 t436 t437 t438 _ A6.out).mono ?_); rintro e w14 ⟨rfl, hb⟩; refine ⟨_, rfl, ?_⟩; have n0_ := Aside0.mk (below_step (by repeat (first | (with_reducible first | exact HB.out | apply below_alloc | apply pw_below_drewN | apply below_drew1) | exact HB.out)) hb); clear HB; have HB := n0_; clear n0_; (try clear hb); (try clear hb2); (try clear hk); (try clear hi)) | ((with_reducible refine gate_dst (N := 6) rfl ?_); refine box_event ?hg (N := 6) ?hd (cs := #[.int .i64 0, .int .i64 0, .string (⟨#[]⟩ : ByteArray)]) (t := 23) ?hr ?_; (case hd => rfl); (case hg => rfl); (case hr => first | (go_simp; done) | (go_simp; rfl)); intro gb439 hg w15 hbox hb; have n0_ := Aside0.mk (below_step (by repeat (first | (with_reducible first | exact HB.out | apply below_alloc | apply pw_below_drewN | apply below_drew1) | exact HB.out)) hb); have n1_ := Aside0.mk (hbox); have n2_ := Aside0.mk ((by rw [hg]; exact (below_size (by repeat (first | (with_reducible first | exact HB.out | apply below_alloc | apply pw_below_drewN | apply below_drew1) | exact HB.out))) : w.heap.size ≤ gb439)); have n3_ := Aside0.mk ((by rw [hg]; exact (below_size (by repeat (first | (with_reducible first | exact HB.out | apply below_alloc | apply pw_below_drewN | apply below_drew1) | exact HB.out))) : w.heap.size ≤ gb439)); clear HB; have HB := n0_; have BK439 := n1_; have GW439 := n2_; have GE439 := n3_; clear n0_ n1_ n2_ n3_; clear hb hbox hg; have hcz16_0 : w15.cell? ⟨gb439, 0, none⟩ = some (.int .i64 0) := (blk_cell BK439.out 0).trans rfl; have hcz16_1 : w15.cell? ⟨gb439, 1, none⟩ = some (.int .i64 0) := (blk_cell BK439.out 1).trans rfl; have hcz16_2 : w15.cell? ⟨gb439, 2, none⟩ = some (.string (⟨#[]⟩ : ByteArray)) := (blk_cell BK439.out 2).trans rfl; have hfz16_0 := blk_frozen BK439.out 0; have hfz16_1 := blk_frozen BK439.out 1; have hfz16_2 := blk_frozen BK439.out 2) | ((with_reducible refine gate_callee (f := 22) rfl ?_); refine goesL_ (some 27) rfl rfl Try.func22 (by kernel_rfl) rfl #[.int .i64 a1] rfl (by (try simp only [List.map_toArray, List.map_cons, List.map_nil]); first | done | rfl | (simp only [List.length_drop, List.length_take]; rfl)) ?_; (with_reducible refine (augurylaw04_num.calls a1 t440 t441 t442 _ A7.out).mono ?_); rintro e w17 ⟨rfl, hb⟩; refine ⟨_, rfl, ?_⟩; have n0_ := Aside0.mk (blk_below (g := gb439) (o := .cells #[.int .i64 t435, .int .i64 t436, .string t437] 23 (0, 0)) (by (with_reducible repeat (first | refine blk_drewN ?_ _ | refine blk_drew ?_ | refine blk_alloc ?_ _)); refine blk_put (cs := #[.int .i64 t435, .int .i64 t436, .string (⟨#[]⟩ : ByteArray)]) ?_ 2 _ rfl; (with_reducible repeat (first | refine blk_drewN ?_ _ | refine blk_drew ?_ | refine blk_alloc ?_ _)); refine blk_put (cs := #[.int .i64 t435, .int .i64 0, .string (⟨#[]⟩ : ByteArray)]) ?_ 1 _ rfl; (with_reducible repeat (first | refine blk_drewN ?_ _ | refine blk_drew ?_ | refine blk_alloc ?_ _)); refine blk_put (cs := #[.int .i64 0, .int .i64 0, .string (⟨#[]⟩ : ByteArray)]) ?_ 0 _ rfl; (with_reducible repeat (first | refine blk_drewN ?_ _ | refine blk_drew ?_ | refine blk_alloc ?_ _)); exact BK439.out) hb); have n1_ := Aside0.mk (below_step (by repeat (first | (with_reducible first | exact HB.out | apply below_alloc | apply pw_below_drewN | apply below_drew1 | refine below_set ?_ GE439.out) | exact HB.out)) hb); clear BK439; clear HB; have BK439 := n0_; have HB := n1_; clear n0_ n1_; (try clear hb); (try clear hb2); (try clear hk); (try clear hi)) | ((with_reducible refine gate_callee (f := 22) rfl ?_); refine goesL_ (some 29) rfl rfl Try.func22 (by kernel_rfl) rfl #[.int .i64 a0] rfl (by (try simp only [List.map_toArray, List.map_cons, List.map_nil]); first | done | rfl | (simp only [List.length_drop, List.length_take]; rfl)) ?_; (with_reducible refine (augurylaw04_num.calls a0 t443 t444 t445 _ A8.out).mono ?_); rintro e w18 ⟨rfl, hb⟩; refine ⟨_, rfl, ?_⟩; have n0_ := Aside0.mk (blk_below (g := gb439) (o := .cells #[.int .i64 t435, .int .i64 t436, .string t437] 23 (0, 0)) (by (with_reducible repeat (first | refine blk_drewN ?_ _ | refine blk_drew ?_ | refine blk_alloc ?_ _)); exact BK439.out) hb); have n1_ := Aside0.mk (below_step (by repeat (first | (with_reducible first | exact HB.out | apply below_alloc | apply pw_below_drewN | apply below_drew1 | refine below_set ?_ GE439.out) | exact HB.out)) hb); clear BK439; clear HB; have BK439 := n0_; have HB := n1_; clear n0_ n1_; (try clear hb); (try clear hb2); (try clear hk); (try clear hi)) | ((with_reducible refine gate_callee (f := 10) rfl ?_); refine goesL_ (some 30) rfl rfl Try.func10 (by kernel_rfl) rfl #[.agg #[.int .i64 t440, .int .i64 t441, .string t442], .agg #[.int .i64 t443, .int .i64 t444, .string t445]] rfl (by (try simp only [List.map_toArray, List.map_cons, List.map_nil]); first | done | rfl | (simp only [List.length_drop, List.length_take]; rfl)) ?_; (with_reducible refine (value_Add.calls k t440 t441 t442 t443 t444 t445 t446 t447 t448 t449 _ A9.out).mono ?_); rintro e w19 ⟨rfl, hb⟩; refine ⟨_, rfl, ?_⟩; have n0_ := Aside0.mk (blk_below (g := gb439) (o := .cells #[.int .i64 t435, .int .i64 t436, .string t437] 23 (0, 0)) (by (with_reducible repeat (first | refine blk_drewN ?_ _ | refine blk_drew ?_ | refine blk_alloc ?_ _)); exact BK439.out) hb); have n1_ := Aside0.mk (below_step (by repeat (first | (with_reducible first | exact HB.out | apply below_alloc | apply pw_below_drewN | apply below_drew1 | refine below_set ?_ GE439.out) | exact HB.out)) hb); clear BK439; clear HB; have BK439 := n0_; have HB := n1_; clear n0_ n1_; (try clear hb); (try clear hb2); (try clear hk); (try clear hi)) | ((with_reducible refine gate_dst (N := 8) rfl ?_); refine box_event ?hg (N := 8) ?hd (cs := #[.int .i64 0, .int .i64 0, .string (⟨#[]⟩ : ByteArray)]) (t := 23) ?hr ?_; (case hd => rfl); (case hg => rfl); (case hr => first | (go_simp; done) | (go_simp; rfl)); intro gb450 hg w20 hbox hb; have n0_ := Aside0.mk (blk_below (g := gb439) (o := .cells #[.int .i64 t435, .int .i64 t436, .string t437] 23 (0, 0)) (by (with_reducible repeat (first | refine blk_drewN ?_ _ | refine blk_drew ?_ | refine blk_alloc ?_ _)); exact BK439.out) hb); have n1_ := Aside0.mk (below_step (by repeat (first | (with_reducible first | exact HB.out | apply below_alloc | apply pw_below_drewN | apply below_drew1 | refine below_set ?_ GE439.out) | exact HB.out)) hb); have n2_ := Aside0.mk (hbox); have n3_ := Aside0.mk ((by rw [hg]; exact (below_size (by repeat (first | (with_reducible first | exact HB.out | apply below_alloc | apply pw_below_drewN | apply below_drew1 | refine below_set ?_ GE439.out) | exact HB.out))) : w.heap.size ≤ gb450)); have n4_ := Aside0.mk ((by rw [hg]; exact (below_size (by repeat (first | (with_reducible first | exact HB.out | apply below_alloc | apply pw_below_drewN | apply below_drew1 | refine below_set ?_ GE439.out) | exact HB.out))) : w.heap.size ≤ gb450)); have n5_ := Aside0.mk ((by rw [hg]; exact Nat.ne_of_lt (blk_lt (g := gb439) (o := .cells #[.int .i64 t435, .int .i64 t436, .string t437] 23 (0, 0)) (by (with_reducible repeat (first | refine blk_drewN ?_ _ | refine blk_drew ?_ | refine blk_alloc ?_ _)); exact BK439.out)) : gb439 ≠ gb450)); have n6_ := Aside0.mk ((by rw [hg]; exact Nat.ne_of_gt (blk_lt (g := gb439) (o := .cells #[.int .i64 t435, .int .i64 t436, .string t437] 23 (0, 0)) (by (with_reducible repeat (first | refine blk_drewN ?_ _ | refine blk_drew ?_ | refine blk_alloc ?_ _)); exact BK439.out)) : gb450 ≠ gb439)); clear BK439; clear HB; have BK439 := n0_; have HB := n1_; have BK450 := n2_; have GW450 := n3_; have GE450 := n4_; have NB439_450 := n5_; have NB450_439 := n6_; clear n0_ n1_ n2_ n3_ n4_ n5_ n6_; clear hb hbox hg; have hnb21 := NB450_439.out; have hnc21 := NB439_450.out; have hcz22_0 : w20.cell? ⟨gb450, 0, none⟩ = some (.int .i64 0) := (blk_cell BK450.out 0).trans rfl; have hcz22_1 : w20.cell? ⟨gb450, 1, none⟩ = some (.int .i64 0) := (blk_cell BK450.out 1).trans rfl; have hcz22_2 : w20.cell? ⟨gb450, 2, none⟩ = some (.string (⟨#[]⟩ : ByteArray)) := (blk_cell BK450.out 2).trans rfl; have hfz22_0 := blk_frozen BK450.out 0; have hfz22_1 := blk_frozen BK450.out 1; have hfz22_2 := blk_frozen BK450.out 2))
  (try simp only [Act.put, List.setIfInBounds_toArray, List.set_cons_zero, List.set_cons_succ])
  go_cut [40] (fun v40 wc => ∃ (kq : Nat) (x40_9 : Bool), v40 = .bool x40_9 ∧ Aside0 (augurylaw04_ValueSums.j0 kq a0 a1 t428 t438 x40_9 t435 t436 t437 = some r) ∧ Aside0 (kq ≤ k) ∧ Aside0 (wc.heap[gb439]? = some (.cells #[.int .i64 t435, .int .i64 t436, .string t437] 23 (0, 0))) ∧ Aside0 (wc.heap[gb450]? = some (.cells #[.int .i64 t446, .int .i64 t447, .string t448] 23 (0, 0))) ∧ Aside0 (Below w.heap.size w wc))
  case first =>
    have H := HC10.out
    clear HC10
    by_cases c23 : (!(t435 == t446) || (!(t436 == t447) || (!(t437.toList == t448.toList)))) = true
    · rw [if_pos c23] at H
      have c23b0 : (!(t435 == t446) || (!(t436 == t447) || (!(t437.toList == t448.toList)))) = true := c23
      clear c23
      (first | rw [c23b0] | (simp only [i64_w, i32_w]; rw [c23b0]) | skip)
      have H' := Aside0.mk H
      clear H
      have hnb24 := NB439_450.out
      have hnc24 := NB450_439.out
      have hcz25_0 : w20.cell? ⟨gb439, 0, none⟩ = some (.int .i64 t435) := (blk_cell BK439.out 0).trans rfl
      have hcz25_1 : w20.cell? ⟨gb439, 1, none⟩ = some (.int .i64 t436) := (blk_cell BK439.out 1).trans rfl
      have hcz25_2 : w20.cell? ⟨gb439, 2, none⟩ = some (.string t437) := (blk_cell BK439.out 2).trans rfl
      have hfz25_0 := blk_frozen BK439.out 0
      have hfz25_1 := blk_frozen BK439.out 1
      have hfz25_2 := blk_frozen BK439.out 2
      have hcz26_0 : w20.cell? ⟨gb450, 0, none⟩ = some (.int .i64 0) := (blk_cell BK450.out 0).trans rfl
      have hcz26_1 : w20.cell? ⟨gb450, 1, none⟩ = some (.int .i64 0) := (blk_cell BK450.out 1).trans rfl
      have hcz26_2 : w20.cell? ⟨gb450, 2, none⟩ = some (.string (⟨#[]⟩ : ByteArray)) := (blk_cell BK450.out 2).trans rfl
      have hfz26_0 := blk_frozen BK450.out 0
      have hfz26_1 := blk_frozen BK450.out 1
      have hfz26_2 := blk_frozen BK450.out 2
      go_wp2
      go_meet
      case rel => exact ⟨_, (true), (by first | rfl | (simp; done) | (simp [*]; done)), H', ⟨by first | omega | exact Nat.le_refl _⟩, ⟨by (with_reducible repeat (first | refine blk_drewN ?_ _ | refine blk_drew ?_ | refine blk_alloc ?_ _)); refine blk_far ?_ NB439_450.out _; (with_reducible repeat (first | refine blk_drewN ?_ _ | refine blk_drew ?_ | refine blk_alloc ?_ _)); refine blk_far ?_ NB439_450.out _; (with_reducible repeat (first | refine blk_drewN ?_ _ | refine blk_drew ?_ | refine blk_alloc ?_ _)); refine blk_far ?_ NB439_450.out _; (with_reducible repeat (first | refine blk_drewN ?_ _ | refine blk_drew ?_ | refine blk_alloc ?_ _)); exact BK439.out⟩, ⟨by (with_reducible repeat (first | refine blk_drewN ?_ _ | refine blk_drew ?_ | refine blk_alloc ?_ _)); refine blk_put (cs := #[.int .i64 t446, .int .i64 t447, .string (⟨#[]⟩ : ByteArray)]) ?_ 2 _ rfl; (with_reducible repeat (first | refine blk_drewN ?_ _ | refine blk_drew ?_ | refine blk_alloc ?_ _)); refine blk_put (cs := #[.int .i64 t446, .int .i64 0, .string (⟨#[]⟩ : ByteArray)]) ?_ 1 _ rfl; (with_reducible repeat (first | refine blk_drewN ?_ _ | refine blk_drew ?_ | refine blk_alloc ?_ _)); refine blk_put (cs := #[.int .i64 0, .int .i64 0, .string (⟨#[]⟩ : ByteArray)]) ?_ 0 _ rfl; (with_reducible repeat (first | refine blk_drewN ?_ _ | refine blk_drew ?_ | refine blk_alloc ?_ _)); exact BK450.out⟩, ⟨by repeat (first | (with_reducible first | exact HB.out | apply below_alloc | apply pw_below_drewN | apply below_drew1 | refine below_set ?_ GE439.out | refine below_set ?_ GE450.out) | exact HB.out)⟩⟩
    · rw [if_neg c23] at H
      have c23b0 : (!(t435 == t446) || (!(t436 == t447) || (!(t437.toList == t448.toList)))) = false := by simpa using c23
      clear c23
      (first | rw [c23b0] | (simp only [i64_w, i32_w]; rw [c23b0]) | skip)
      have H' := Aside0.mk H
      clear H
      have hnb27 := NB439_450.out
      have hnc27 := NB450_439.out
      have hcz28_0 : w20.cell? ⟨gb439, 0, none⟩ = some (.int .i64 t435) := (blk_cell BK439.out 0).trans rfl
      have hcz28_1 : w20.cell? ⟨gb439, 1, none⟩ = some (.int .i64 t436) := (blk_cell BK439.out 1).trans rfl
      have hcz28_2 : w20.cell? ⟨gb439, 2, none⟩ = some (.string t437) := (blk_cell BK439.out 2).trans rfl
      have hfz28_0 := blk_frozen BK439.out 0
      have hfz28_1 := blk_frozen BK439.out 1
      have hfz28_2 := blk_frozen BK439.out 2
      have hcz29_0 : w20.cell? ⟨gb450, 0, none⟩ = some (.int .i64 0) := (blk_cell BK450.out 0).trans rfl
      have hcz29_1 : w20.cell? ⟨gb450, 1, none⟩ = some (.int .i64 0) := (blk_cell BK450.out 1).trans rfl
      have hcz29_2 : w20.cell? ⟨gb450, 2, none⟩ = some (.string (⟨#[]⟩ : ByteArray)) := (blk_cell BK450.out 2).trans rfl
      have hfz29_0 := blk_frozen BK450.out 0
      have hfz29_1 := blk_frozen BK450.out 1
      have hfz29_2 := blk_frozen BK450.out 2
      go_wp2
      go_meet
      case rel => exact ⟨_, ((t438 != t449)), (by first | rfl | (simp; done) | (simp [*]; done)), H', ⟨by first | omega | exact Nat.le_refl _⟩, ⟨by (with_reducible repeat (first | refine blk_drewN ?_ _ | refine blk_drew ?_ | refine blk_alloc ?_ _)); refine blk_far ?_ NB439_450.out _; (with_reducible repeat (first | refine blk_drewN ?_ _ | refine blk_drew ?_ | refine blk_alloc ?_ _)); refine blk_far ?_ NB439_450.out _; (with_reducible repeat (first | refine blk_drewN ?_ _ | refine blk_drew ?_ | refine blk_alloc ?_ _)); refine blk_far ?_ NB439_450.out _; (with_reducible repeat (first | refine blk_drewN ?_ _ | refine blk_drew ?_ | refine blk_alloc ?_ _)); exact BK439.out⟩, ⟨by (with_reducible repeat (first | refine blk_drewN ?_ _ | refine blk_drew ?_ | refine blk_alloc ?_ _)); refine blk_put (cs := #[.int .i64 t446, .int .i64 t447, .string (⟨#[]⟩ : ByteArray)]) ?_ 2 _ rfl; (with_reducible repeat (first | refine blk_drewN ?_ _ | refine blk_drew ?_ | refine blk_alloc ?_ _)); refine blk_put (cs := #[.int .i64 t446, .int .i64 0, .string (⟨#[]⟩ : ByteArray)]) ?_ 1 _ rfl; (with_reducible repeat (first | refine blk_drewN ?_ _ | refine blk_drew ?_ | refine blk_alloc ?_ _)); refine blk_put (cs := #[.int .i64 0, .int .i64 0, .string (⟨#[]⟩ : ByteArray)]) ?_ 0 _ rfl; (with_reducible repeat (first | refine blk_drewN ?_ _ | refine blk_drew ?_ | refine blk_alloc ?_ _)); exact BK450.out⟩, ⟨by repeat (first | (with_reducible first | exact HB.out | apply below_alloc | apply pw_below_drewN | apply below_drew1 | refine below_set ?_ GE439.out | refine below_set ?_ GE450.out) | exact HB.out)⟩⟩
  case rest =>
    clear HC10
    try clear c1
    try clear c2
    try clear p2
    try clear c7
    try clear c9
    try clear c10
    try clear c21
    try clear c22
    try clear c23
    try clear c23b0
    try clear c24
    try clear c27
    try clear hcz16_0
    try clear hcz16_1
    try clear hcz16_2
    try clear hcz22_0
    try clear hcz22_1
    try clear hcz22_2
    try clear hcz25_0
    try clear hcz25_1
    try clear hcz25_2
    try clear hcz26_0
    try clear hcz26_1
    try clear hcz26_2
    try clear hcz28_0
    try clear hcz28_1
    try clear hcz28_2
    try clear hcz29_0
    try clear hcz29_1
    try clear hcz29_2
    try clear hfz16_0
    try clear hfz16_1
    try clear hfz16_2
    try clear hfz22_0
    try clear hfz22_1
    try clear hfz22_2
    try clear hfz25_0
    try clear hfz25_1
    try clear hfz25_2
    try clear hfz26_0
    try clear hfz26_1
    try clear hfz26_2
    try clear hfz28_0
    try clear hfz28_1
    try clear hfz28_2
    try clear hfz29_0
    try clear hfz29_1
    try clear hfz29_2
    obtain ⟨kq, x40_9, rfl, HA, HJ9, BK439, BK450, HB⟩ := hcut
    cases kq with
    | zero => exact absurd HA.out (by simp [augurylaw04_ValueSums.j0])
    | succ kj9 =>
      have H := HA.out
      clear HA
      simp only [augurylaw04_ValueSums.j0] at H
      by_cases c30 : x40_9 = true
      · subst c30
        have H1 : (none) = some r := by rw [if_pos rfl] at H; exact H
        clear H
        have H := H1
        clear H1
        exact absurd H (by simp)
      · replace c30 := Bool.eq_false_iff.mpr c30
        subst c30
        have H1 : (if t438 = 0 then ((augurylaw04_num.f a1).bind fun bt451 => ((value_Sub.f kj9 t435 t436 t437 bt451.1 bt451.2.1 bt451.2.2).bind fun bt454 => ((augurylaw04_num.f a0).bind fun bt459 => ((value_Sub.f kj9 t435 t436 t437 bt459.1 bt459.2.1 bt459.2.2).bind fun bt462 => ((value_Sub.f kj9 t435 t436 t437 t435 t436 t437).bind fun bt467 => (if t428 = true then (if bt454.2.2.2 = 0 then ((augurylaw04_num.f a0).bind fun bt472 => (if (bt454.1 == bt472.1 && (bt454.2.1 == bt472.2.1 && (bt454.2.2.1.toList == bt472.2.2.toList))) = true then (if bt462.2.2.2 = 0 then ((augurylaw04_num.f a1).bind fun bt475 => (if (bt462.1 == bt475.1 && (bt462.2.1 == bt475.2.1 && (bt462.2.2.1.toList == bt475.2.2.toList))) = true then (if bt467.2.2.2 = 0 then ((augurylaw04_num.f 0).bind fun bt478 => (if (bt467.1 == bt478.1 && (bt467.2.1 == bt478.2.1 && (bt467.2.2.1.toList == bt478.2.2.toList))) = true then (if t436 = (wrap64 (a0 + a1)) then (some true) else (none)) else (none))) else (none)) else (none))) else (none)) else (none))) else (none)) else (none))))))) else (if t428 = true then (if (t435 == 0 && (t436 == 0 && (t437.toList == ([] : List UInt8)))) = true then (some true) else (none)) else (none))) = some r := by rw [if_neg (show ¬ (false = true) by decide)] at H; exact H
        clear H
        have H := H1
        clear H1
        by_cases c31 : t438 = 0
        · rw [if_pos c31] at H
          have c31b0 : (t438 == 0) = true := beq_iff_eq.mpr c31
          have c31b1 : (t438 != 0) = false := bne_eq_false_iff_eq.mpr c31
          clear c31
          replace H := Option.bind_eq_some_iff.mp H
          obtain ⟨⟨t451, t452, t453⟩, A320, H⟩ := H
          replace H : ((value_Sub.f kj9 t435 t436 t437 t451 t452 t453).bind fun bt454 => ((augurylaw04_num.f a0).bind fun bt459 => ((value_Sub.f kj9 t435 t436 t437 bt459.1 bt459.2.1 bt459.2.2).bind fun bt462 => ((value_Sub.f kj9 t435 t436 t437 t435 t436 t437).bind fun bt467 => (if t428 = true then (if bt454.2.2.2 = 0 then ((augurylaw04_num.f a0).bind fun bt472 => (if (bt454.1 == bt472.1 && (bt454.2.1 == bt472.2.1 && (bt454.2.2.1.toList == bt472.2.2.toList))) = true then (if bt462.2.2.2 = 0 then ((augurylaw04_num.f a1).bind fun bt475 => (if (bt462.1 == bt475.1 && (bt462.2.1 == bt475.2.1 && (bt462.2.2.1.toList == bt475.2.2.toList))) = true then (if bt467.2.2.2 = 0 then ((augurylaw04_num.f 0).bind fun bt478 => (if (bt467.1 == bt478.1 && (bt467.2.1 == bt478.2.1 && (bt467.2.2.1.toList == bt478.2.2.toList))) = true then (if t436 = (wrap64 (a0 + a1)) then (some true) else (none)) else (none))) else (none)) else (none))) else (none)) else (none))) else (none)) else (none)))))) = some r := H
          have A32 := Aside0.mk A320
          clear A320
          replace H := Option.bind_eq_some_iff.mp H
          obtain ⟨⟨t454, t455, t456, t457⟩, A330, H⟩ := H
          replace H : ((augurylaw04_num.f a0).bind fun bt459 => ((value_Sub.f kj9 t435 t436 t437 bt459.1 bt459.2.1 bt459.2.2).bind fun bt462 => ((value_Sub.f kj9 t435 t436 t437 t435 t436 t437).bind fun bt467 => (if t428 = true then (if t457 = 0 then ((augurylaw04_num.f a0).bind fun bt472 => (if (t454 == bt472.1 && (t455 == bt472.2.1 && (t456.toList == bt472.2.2.toList))) = true then (if bt462.2.2.2 = 0 then ((augurylaw04_num.f a1).bind fun bt475 => (if (bt462.1 == bt475.1 && (bt462.2.1 == bt475.2.1 && (bt462.2.2.1.toList == bt475.2.2.toList))) = true then (if bt467.2.2.2 = 0 then ((augurylaw04_num.f 0).bind fun bt478 => (if (bt467.1 == bt478.1 && (bt467.2.1 == bt478.2.1 && (bt467.2.2.1.toList == bt478.2.2.toList))) = true then (if t436 = (wrap64 (a0 + a1)) then (some true) else (none)) else (none))) else (none)) else (none))) else (none)) else (none))) else (none)) else (none))))) = some r := H
          have A33 := Aside0.mk A330
          clear A330
          replace H := Option.bind_eq_some_iff.mp H
          obtain ⟨⟨t459, t460, t461⟩, A340, H⟩ := H
          replace H : ((value_Sub.f kj9 t435 t436 t437 t459 t460 t461).bind fun bt462 => ((value_Sub.f kj9 t435 t436 t437 t435 t436 t437).bind fun bt467 => (if t428 = true then (if t457 = 0 then ((augurylaw04_num.f a0).bind fun bt472 => (if (t454 == bt472.1 && (t455 == bt472.2.1 && (t456.toList == bt472.2.2.toList))) = true then (if bt462.2.2.2 = 0 then ((augurylaw04_num.f a1).bind fun bt475 => (if (bt462.1 == bt475.1 && (bt462.2.1 == bt475.2.1 && (bt462.2.2.1.toList == bt475.2.2.toList))) = true then (if bt467.2.2.2 = 0 then ((augurylaw04_num.f 0).bind fun bt478 => (if (bt467.1 == bt478.1 && (bt467.2.1 == bt478.2.1 && (bt467.2.2.1.toList == bt478.2.2.toList))) = true then (if t436 = (wrap64 (a0 + a1)) then (some true) else (none)) else (none))) else (none)) else (none))) else (none)) else (none))) else (none)) else (none)))) = some r := H
          have A34 := Aside0.mk A340
          clear A340
          replace H := Option.bind_eq_some_iff.mp H
          obtain ⟨⟨t462, t463, t464, t465⟩, A350, H⟩ := H
          replace H : ((value_Sub.f kj9 t435 t436 t437 t435 t436 t437).bind fun bt467 => (if t428 = true then (if t457 = 0 then ((augurylaw04_num.f a0).bind fun bt472 => (if (t454 == bt472.1 && (t455 == bt472.2.1 && (t456.toList == bt472.2.2.toList))) = true then (if t465 = 0 then ((augurylaw04_num.f a1).bind fun bt475 => (if (t462 == bt475.1 && (t463 == bt475.2.1 && (t464.toList == bt475.2.2.toList))) = true then (if bt467.2.2.2 = 0 then ((augurylaw04_num.f 0).bind fun bt478 => (if (bt467.1 == bt478.1 && (bt467.2.1 == bt478.2.1 && (bt467.2.2.1.toList == bt478.2.2.toList))) = true then (if t436 = (wrap64 (a0 + a1)) then (some true) else (none)) else (none))) else (none)) else (none))) else (none)) else (none))) else (none)) else (none))) = some r := H
          have A35 := Aside0.mk A350
          clear A350
          replace H := Option.bind_eq_some_iff.mp H
          obtain ⟨⟨t467, t468, t469, t470⟩, A360, H⟩ := H
          replace H : (if t428 = true then (if t457 = 0 then ((augurylaw04_num.f a0).bind fun bt472 => (if (t454 == bt472.1 && (t455 == bt472.2.1 && (t456.toList == bt472.2.2.toList))) = true then (if t465 = 0 then ((augurylaw04_num.f a1).bind fun bt475 => (if (t462 == bt475.1 && (t463 == bt475.2.1 && (t464.toList == bt475.2.2.toList))) = true then (if t470 = 0 then ((augurylaw04_num.f 0).bind fun bt478 => (if (t467 == bt478.1 && (t468 == bt478.2.1 && (t469.toList == bt478.2.2.toList))) = true then (if t436 = (wrap64 (a0 + a1)) then (some true) else (none)) else (none))) else (none)) else (none))) else (none)) else (none))) else (none)) else (none)) = some r := H
          have A36 := Aside0.mk A360
          clear A360
          by_cases c37 : t428 = true
          · subst c37
            have H1 : (if t457 = 0 then ((augurylaw04_num.f a0).bind fun bt472 => (if (t454 == bt472.1 && (t455 == bt472.2.1 && (t456.toList == bt472.2.2.toList))) = true then (if t465 = 0 then ((augurylaw04_num.f a1).bind fun bt475 => (if (t462 == bt475.1 && (t463 == bt475.2.1 && (t464.toList == bt475.2.2.toList))) = true then (if t470 = 0 then ((augurylaw04_num.f 0).bind fun bt478 => (if (t467 == bt478.1 && (t468 == bt478.2.1 && (t469.toList == bt478.2.2.toList))) = true then (if t436 = (wrap64 (a0 + a1)) then (some true) else (none)) else (none))) else (none)) else (none))) else (none)) else (none))) else (none)) = some r := by rw [if_pos rfl] at H; exact H
            clear H
            have H := H1
            clear H1
            by_cases c38 : t457 = 0
            · rw [if_pos c38] at H
              have c38b0 : (t457 == 0) = true := beq_iff_eq.mpr c38
              have c38b1 : (t457 != 0) = false := bne_eq_false_iff_eq.mpr c38
              clear c38
              replace H := Option.bind_eq_some_iff.mp H
              obtain ⟨⟨t472, t473, t474⟩, A390, H⟩ := H
              replace H : (if (t454 == t472 && (t455 == t473 && (t456.toList == t474.toList))) = true then (if t465 = 0 then ((augurylaw04_num.f a1).bind fun bt475 => (if (t462 == bt475.1 && (t463 == bt475.2.1 && (t464.toList == bt475.2.2.toList))) = true then (if t470 = 0 then ((augurylaw04_num.f 0).bind fun bt478 => (if (t467 == bt478.1 && (t468 == bt478.2.1 && (t469.toList == bt478.2.2.toList))) = true then (if t436 = (wrap64 (a0 + a1)) then (some true) else (none)) else (none))) else (none)) else (none))) else (none)) else (none)) = some r := H
              have A39 := Aside0.mk A390
              clear A390
              by_cases c40 : (t454 == t472 && (t455 == t473 && (t456.toList == t474.toList))) = true
              · rw [if_pos c40] at H
                have c40b0 : (t454 == t472 && (t455 == t473 && (t456.toList == t474.toList))) = true := c40
                (try (have c40b1 : decide (t454 = t472 && (t455 == t473 && (t456.toList == t474.toList))) = true := by simpa using c40))
                (try (have c40b2 : (t454 == t472 && (t455 == t473 && (t456.toList == t474.toList))) = true := by simpa using c40))
                clear c40
                by_cases c41 : t465 = 0
                · rw [if_pos c41] at H
                  have c41b0 : (t465 == 0) = true := beq_iff_eq.mpr c41
                  have c41b1 : (t465 != 0) = false := bne_eq_false_iff_eq.mpr c41
                  clear c41
                  replace H := Option.bind_eq_some_iff.mp H
                  obtain ⟨⟨t475, t476, t477⟩, A420, H⟩ := H
                  replace H : (if (t462 == t475 && (t463 == t476 && (t464.toList == t477.toList))) = true then (if t470 = 0 then ((augurylaw04_num.f 0).bind fun bt478 => (if (t467 == bt478.1 && (t468 == bt478.2.1 && (t469.toList == bt478.2.2.toList))) = true then (if t436 = (wrap64 (a0 + a1)) then (some true) else (none)) else (none))) else (none)) else (none)) = some r := H
                  have A42 := Aside0.mk A420
                  clear A420
                  by_cases c43 : (t462 == t475 && (t463 == t476 && (t464.toList == t477.toList))) = true
                  · rw [if_pos c43] at H
                    have c43b0 : (t462 == t475 && (t463 == t476 && (t464.toList == t477.toList))) = true := c43
                    (try (have c43b1 : decide (t462 = t475 && (t463 == t476 && (t464.toList == t477.toList))) = true := by simpa using c43))
                    (try (have c43b2 : (t462 == t475 && (t463 == t476 && (t464.toList == t477.toList))) = true := by simpa using c43))
                    clear c43
                    by_cases c44 : t470 = 0
                    · rw [if_pos c44] at H
                      have c44b0 : (t470 == 0) = true := beq_iff_eq.mpr c44
                      have c44b1 : (t470 != 0) = false := bne_eq_false_iff_eq.mpr c44
                      clear c44
                      replace H := Option.bind_eq_some_iff.mp H
                      obtain ⟨⟨t478, t479, t480⟩, A450, H⟩ := H
                      replace H : (if (t467 == t478 && (t468 == t479 && (t469.toList == t480.toList))) = true then (if t436 = (wrap64 (a0 + a1)) then (some true) else (none)) else (none)) = some r := H
                      have A45 := Aside0.mk A450
                      clear A450
                      by_cases c46 : (t467 == t478 && (t468 == t479 && (t469.toList == t480.toList))) = true
                      · rw [if_pos c46] at H
                        have c46b0 : (t467 == t478 && (t468 == t479 && (t469.toList == t480.toList))) = true := c46
                        (try (have c46b1 : decide (t467 = t478 && (t468 == t479 && (t469.toList == t480.toList))) = true := by simpa using c46))
                        (try (have c46b2 : (t467 == t478 && (t468 == t479 && (t469.toList == t480.toList))) = true := by simpa using c46))
                        clear c46
                        by_cases c47 : t436 = (wrap64 (a0 + a1))
                        · rw [if_pos c47] at H
                          have c47b0 : (t436 == (wrap64 (a0 + a1))) = true := beq_iff_eq.mpr c47
                          have c47b1 : (t436 != (wrap64 (a0 + a1))) = false := bne_eq_false_iff_eq.mpr c47
                          clear c47
                          obtain rfl := Option.some.inj H
                          try go_wp2
                          have n0_ := Aside0.mk (blk_drew BK439.out)
                          have n1_ := Aside0.mk (blk_drew BK450.out)
                          have n2_ := Aside0.mk (below_drew1 HB.out)
                          clear BK439
                          clear BK450
                          clear HB
                          have BK439 := n0_
                          have BK450 := n1_
                          have HB := n2_
                          clear n0_ n1_ n2_
                          refine start_ (n := 10) (S := fun w' => w'.cell? ⟨gb439, 0, none⟩ = some (.int .i64 t435) ∧ w'.cell? ⟨gb439, 1, none⟩ = some (.int .i64 t436) ∧ w'.cell? ⟨gb439, 2, none⟩ = some (.string t437)) (ds := []) #[false, false, false, false, false, false, false, false, false, false] (by kernel_rfl) rfl rfl ⟨(blk_cell BK439.out 0).trans rfl, (blk_cell BK439.out 1).trans rfl, (blk_cell BK439.out 2).trans rfl⟩ (fun hHeld => ?_); refine with_tabW augurylaw04_ValueSums.tab8 augurylaw04_ValueSums.bits8 (fun HT_ HW_ => ?_)
                          generalize wc.drew = w48 at BK439 BK450 HB hHeld ⊢
                          refine pure_ (i := 1) (N := some 51) (v := ?_) (a' := ?_) #[false, true, false, false, false, false, false, false, false, false] rfl rfl (any_of HT_.out (by kernel_rfl)) (fun _ _ _ h => h) (Or.inl ⟨by rfl, ?_⟩) ?_ ?_
                          rotate_left
                          · intro w'
                            go_simp
                            with_reducible rfl
                          rotate_left
                          · simp only [Act.put, List.setIfInBounds_toArray, List.set_cons_zero, List.set_cons_succ, i64_w, i32_w]
                            rfl
                          refine take_ (i := 0) (N := some 50) (v := ?_) (a' := ?_) #[true, true, false, false, false, false, false, false, false, false] rfl rfl (take_ofW HT_.out HW_.out (by kernel_rfl)) (fun _ _ _ h => h) (Or.inl ⟨by rfl, ?_⟩) hHeld ?_ ?_
                          rotate_left
                          · rintro w' ⟨s0, s1, s2⟩
                            go_simp
                            with_reducible rfl
                          rotate_left
                          · simp only [Act.put, List.setIfInBounds_toArray, List.set_cons_zero, List.set_cons_succ, i64_w, i32_w]
                            rfl
                          refine join_ (σ := Nat) 2 #[true, true, true, true, true, true, true, true, false, false] (fun s_ => [(52, .agg #[.int .i64 t451, .int .i64 t452, .string t453]), (53, .tuple #[.agg #[.int .i64 t454, .int .i64 t455, .string t456], .int .i64 t457]), (10, .pointer (some ⟨s_, 0, none⟩)), (49, .tuple #[.agg #[.int .i64 t454, .int .i64 t455, .string t456], .int .i64 t457]), (54, .agg #[.int .i64 t454, .int .i64 t455, .string t456]), (55, .int .i64 t457)]) (fun s_ w' => (w'.cell? ⟨gb439, 0, none⟩ = some (.int .i64 t435) ∧ w'.cell? ⟨gb439, 1, none⟩ = some (.int .i64 t436) ∧ w'.cell? ⟨gb439, 2, none⟩ = some (.string t437)) ∧ (w'.heap[gb439]? = some (.cells #[.int .i64 t435, .int .i64 t436, .string t437] 23 (0, 0))) ∧ (w'.heap[gb450]? = some (.cells #[.int .i64 t446, .int .i64 t447, .string t448] 23 (0, 0))) ∧ (w'.heap[s_]? = some (.cells #[.int .i64 0, .int .i64 0, .string (⟨#[]⟩ : ByteArray)] 23 (0, 0))) ∧ (w.heap.size ≤ s_) ∧ (w.heap.size ≤ s_) ∧ (gb439 ≠ s_) ∧ (s_ ≠ gb439) ∧ (gb450 ≠ s_) ∧ (s_ ≠ gb450) ∧ (Below w.heap.size w w')) ?_ ?_
                          rotate_left
                          · intro hCont
                            refine two_ (i := 2) (j := 7) (Ni := some 52) (Nj := some 10) #[true, true, true, false, false, false, false, false, false, false] #[true, true, false, false, false, false, false, true, false, false] rfl rfl rfl rfl (two_of HT_.out (by kernel_rfl)) (by decide) (by decide) (fun K hK => ?_) (fun K hK => ?_)
                            · skip
                              refine goes_ Try.func22 (by kernel_rfl) rfl #[.int .i64 a1] (by rfl) rfl rfl (by (try simp only [List.map_toArray, List.map_cons, List.map_nil]); first | done | rfl | (simp only [List.length_drop, List.length_take]; rfl)) ?_
                              with_reducible refine (augurylaw04_num.calls a1 t451 t452 t453 _ A32.out).mono ?_
                              rintro e w49 ⟨rfl, hb⟩
                              refine ⟨_, rfl, ?_⟩
                              have n0_ := Aside0.mk (blk_below (g := gb439) (o := .cells #[.int .i64 t435, .int .i64 t436, .string t437] 23 (0, 0)) (by (with_reducible repeat (first | refine blk_drewN ?_ _ | refine blk_drew ?_ | refine blk_alloc ?_ _)); exact BK439.out) hb)
                              have n1_ := Aside0.mk (blk_below (g := gb450) (o := .cells #[.int .i64 t446, .int .i64 t447, .string t448] 23 (0, 0)) (by (with_reducible repeat (first | refine blk_drewN ?_ _ | refine blk_drew ?_ | refine blk_alloc ?_ _)); exact BK450.out) hb)
                              have n2_ := Aside0.mk (below_step (by repeat (first | (with_reducible first | exact HB.out | apply below_alloc | apply pw_below_drewN | apply below_drew1 | refine below_set ?_ GE439.out | refine below_set ?_ GE450.out) | exact HB.out)) hb)
                              clear BK439
                              clear BK450
                              clear HB
                              have BK439 := n0_
                              have BK450 := n1_
                              have HB := n2_
                              clear n0_ n1_ n2_
                              (try clear hb)
                              (try clear hb2)
                              (try clear hk)
                              (try clear hi)
                              refine hK.out _ _ ⟨(blk_cell BK439.out 0).trans rfl, (blk_cell BK439.out 1).trans rfl, (blk_cell BK439.out 2).trans rfl⟩ (fun hHeld => ?_)
                              clear hK K
                              refine norm_ (a' := ?_) ?_ ?_
                              rotate_left
                              · show Act.put _ (some 52) _ = _
                                simp only [Act.put, List.setIfInBounds_toArray, List.set_cons_zero, List.set_cons_succ, i64_w, i32_w]
                                rfl
                              refine two_ (i := 3) (j := 7) (Ni := some 53) (Nj := some 10) #[true, true, true, true, false, false, false, false, false, false] #[true, true, true, false, false, false, false, true, false, false] rfl rfl rfl rfl (two_of HT_.out (by kernel_rfl)) (by decide) (by decide) (fun K hK => ?_) (fun K hK => ?_)
                              · skip
                                refine goes_ Try.func12 (by kernel_rfl) rfl #[.agg #[.int .i64 t435, .int .i64 t436, .string t437], .agg #[.int .i64 t451, .int .i64 t452, .string t453]] (by rfl) rfl rfl (by (try simp only [List.map_toArray, List.map_cons, List.map_nil]); first | done | rfl | (simp only [List.length_drop, List.length_take]; rfl)) ?_
                                with_reducible refine (value_Sub.calls kj9 t435 t436 t437 t451 t452 t453 t454 t455 t456 t457 _ A33.out).mono ?_
                                rintro e w50 ⟨rfl, hb⟩
                                refine ⟨_, rfl, ?_⟩
                                have n0_ := Aside0.mk (blk_below (g := gb439) (o := .cells #[.int .i64 t435, .int .i64 t436, .string t437] 23 (0, 0)) (by (with_reducible repeat (first | refine blk_drewN ?_ _ | refine blk_drew ?_ | refine blk_alloc ?_ _)); exact BK439.out) hb)
                                have n1_ := Aside0.mk (blk_below (g := gb450) (o := .cells #[.int .i64 t446, .int .i64 t447, .string t448] 23 (0, 0)) (by (with_reducible repeat (first | refine blk_drewN ?_ _ | refine blk_drew ?_ | refine blk_alloc ?_ _)); exact BK450.out) hb)
                                have n2_ := Aside0.mk (below_step (by repeat (first | (with_reducible first | exact HB.out | apply below_alloc | apply pw_below_drewN | apply below_drew1 | refine below_set ?_ GE439.out | refine below_set ?_ GE450.out) | exact HB.out)) hb)
                                clear BK439
                                clear BK450
                                clear HB
                                have BK439 := n0_
                                have BK450 := n1_
                                have HB := n2_
                                clear n0_ n1_ n2_
                                (try clear hb)
                                (try clear hb2)
                                (try clear hk)
                                (try clear hi)
                                refine hK.out _ _ ⟨(blk_cell BK439.out 0).trans rfl, (blk_cell BK439.out 1).trans rfl, (blk_cell BK439.out 2).trans rfl⟩ (fun hHeld => ?_)
                                clear hK K
                                refine norm_ (a' := ?_) ?_ ?_
                                rotate_left
                                · show Act.put _ (some 53) _ = _
                                  simp only [Act.put, List.setIfInBounds_toArray, List.set_cons_zero, List.set_cons_succ, i64_w, i32_w]
                                  rfl
                                refine pure_ (i := 4) (N := some 49) (v := ?_) (a' := ?_) #[true, true, true, true, true, false, false, false, false, false] rfl rfl (any_of HT_.out (by kernel_rfl)) (fun _ _ _ h => h) (Or.inl ⟨by rfl, ?_⟩) ?_ ?_
                                rotate_left
                                · intro w'
                                  go_simp
                                  with_reducible rfl
                                rotate_left
                                · simp only [Act.put, List.setIfInBounds_toArray, List.set_cons_zero, List.set_cons_succ, i64_w, i32_w]
                                  rfl
                                refine pure_ (i := 5) (N := some 54) (v := ?_) (a' := ?_) #[true, true, true, true, true, true, false, false, false, false] rfl rfl (any_of HT_.out (by kernel_rfl)) (fun _ _ _ h => h) (Or.inl ⟨by rfl, ?_⟩) ?_ ?_
                                rotate_left
                                · intro w'
                                  go_simp
                                  with_reducible rfl
                                rotate_left
                                · simp only [Act.put, List.setIfInBounds_toArray, List.set_cons_zero, List.set_cons_succ, i64_w, i32_w]
                                  rfl
                                refine pure_ (i := 6) (N := some 55) (v := ?_) (a' := ?_) #[true, true, true, true, true, true, true, false, false, false] rfl rfl (any_of HT_.out (by kernel_rfl)) (fun _ _ _ h => h) (Or.inl ⟨by rfl, ?_⟩) ?_ ?_
                                rotate_left
                                · intro w'
                                  go_simp
                                  with_reducible rfl
                                rotate_left
                                · simp only [Act.put, List.setIfInBounds_toArray, List.set_cons_zero, List.set_cons_succ, i64_w, i32_w]
                                  rfl
                                refine one_ (i := 7) (N := some 10) #[true, true, true, true, true, true, true, true, false, false] rfl rfl (one_of HT_.out (by kernel_rfl)) (by decide) (fun K hK => ?_)
                                refine box_step ?hg (N := 10) ?hd (cs := #[.int .i64 0, .int .i64 0, .string (⟨#[]⟩ : ByteArray)]) (t := 23) ?hr ?_; (case hd => rfl); (case hg => rfl); (case hr => first | (go_simp; done) | (go_simp; rfl))
                                intro gb458 hg w51 hbox hb
                                have n0_ := Aside0.mk (blk_below (g := gb439) (o := .cells #[.int .i64 t435, .int .i64 t436, .string t437] 23 (0, 0)) (by (with_reducible repeat (first | refine blk_drewN ?_ _ | refine blk_drew ?_ | refine blk_alloc ?_ _)); exact BK439.out) hb)
                                have n1_ := Aside0.mk (blk_below (g := gb450) (o := .cells #[.int .i64 t446, .int .i64 t447, .string t448] 23 (0, 0)) (by (with_reducible repeat (first | refine blk_drewN ?_ _ | refine blk_drew ?_ | refine blk_alloc ?_ _)); exact BK450.out) hb)
                                have n2_ := Aside0.mk (below_step (by repeat (first | (with_reducible first | exact HB.out | apply below_alloc | apply pw_below_drewN | apply below_drew1 | refine below_set ?_ GE439.out | refine below_set ?_ GE450.out) | exact HB.out)) hb)
                                have n3_ := Aside0.mk (hbox)
                                have n4_ := Aside0.mk ((by rw [hg]; exact (below_size (by repeat (first | (with_reducible first | exact HB.out | apply below_alloc | apply pw_below_drewN | apply below_drew1 | refine below_set ?_ GE439.out | refine below_set ?_ GE450.out) | exact HB.out))) : w.heap.size ≤ gb458))
                                have n5_ := Aside0.mk ((by rw [hg]; exact (below_size (by repeat (first | (with_reducible first | exact HB.out | apply below_alloc | apply pw_below_drewN | apply below_drew1 | refine below_set ?_ GE439.out | refine below_set ?_ GE450.out) | exact HB.out))) : w.heap.size ≤ gb458))
                                have n6_ := Aside0.mk ((by rw [hg]; exact Nat.ne_of_lt (blk_lt (g := gb439) (o := .cells #[.int .i64 t435, .int .i64 t436, .string t437] 23 (0, 0)) (by (with_reducible repeat (first | refine blk_drewN ?_ _ | refine blk_drew ?_ | refine blk_alloc ?_ _)); exact BK439.out)) : gb439 ≠ gb458))
                                have n7_ := Aside0.mk ((by rw [hg]; exact Nat.ne_of_gt (blk_lt (g := gb439) (o := .cells #[.int .i64 t435, .int .i64 t436, .string t437] 23 (0, 0)) (by (with_reducible repeat (first | refine blk_drewN ?_ _ | refine blk_drew ?_ | refine blk_alloc ?_ _)); exact BK439.out)) : gb458 ≠ gb439))
                                have n8_ := Aside0.mk ((by rw [hg]; exact Nat.ne_of_lt (blk_lt (g := gb450) (o := .cells #[.int .i64 t446, .int .i64 t447, .string t448] 23 (0, 0)) (by (with_reducible repeat (first | refine blk_drewN ?_ _ | refine blk_drew ?_ | refine blk_alloc ?_ _)); exact BK450.out)) : gb450 ≠ gb458))
                                have n9_ := Aside0.mk ((by rw [hg]; exact Nat.ne_of_gt (blk_lt (g := gb450) (o := .cells #[.int .i64 t446, .int .i64 t447, .string t448] 23 (0, 0)) (by (with_reducible repeat (first | refine blk_drewN ?_ _ | refine blk_drew ?_ | refine blk_alloc ?_ _)); exact BK450.out)) : gb458 ≠ gb450))
                                clear BK439
                                clear BK450
                                clear HB
                                have BK439 := n0_
                                have BK450 := n1_
                                have HB := n2_
                                have BK458 := n3_
                                have GW458 := n4_
                                have GE458 := n5_
                                have NB439_458 := n6_
                                have NB458_439 := n7_
                                have NB450_458 := n8_
                                have NB458_450 := n9_
                                clear n0_ n1_ n2_ n3_ n4_ n5_ n6_ n7_ n8_ n9_
                                clear hb hbox hg
                                refine hK.out _ _ ⟨(blk_cell BK439.out 0).trans rfl, (blk_cell BK439.out 1).trans rfl, (blk_cell BK439.out 2).trans rfl⟩ (fun hHeld => ?_)
                                clear hK K
                                refine norm_ (a' := ?_) ?_ ?_
                                rotate_left
                                · show Act.put _ (some 10) _ = _
                                  simp only [Act.put, List.setIfInBounds_toArray, List.set_cons_zero, List.set_cons_succ, i64_w, i32_w]
                                  rfl
                                exact norm_ (by simp only [putAll, Act.put, List.setIfInBounds_toArray, List.set_cons_zero, List.set_cons_succ]) (hCont (gb458) _ ⟨hHeld, (by (with_reducible repeat (first | refine blk_drewN ?_ _ | refine blk_drew ?_ | refine blk_alloc ?_ _)); exact BK439.out), (by (with_reducible repeat (first | refine blk_drewN ?_ _ | refine blk_drew ?_ | refine blk_alloc ?_ _)); exact BK450.out), (by (with_reducible repeat (first | refine blk_drewN ?_ _ | refine blk_drew ?_ | refine blk_alloc ?_ _)); exact BK458.out), GW458.out, GE458.out, NB439_458.out, NB458_439.out, NB450_458.out, NB458_450.out, (by repeat (first | (with_reducible first | exact HB.out | apply below_alloc | apply pw_below_drewN | apply below_drew1 | refine below_set ?_ GE439.out | refine below_set ?_ GE450.out | refine below_set ?_ GE458.out) | exact HB.out))⟩)
                              · skip
                                refine box_step ?hg (N := 10) ?hd (cs := #[.int .i64 0, .int .i64 0, .string (⟨#[]⟩ : ByteArray)]) (t := 23) ?hr ?_; (case hd => rfl); (case hg => rfl); (case hr => first | (go_simp; done) | (go_simp; rfl))
                                intro gb458 hg w50 hbox hb
                                have n0_ := Aside0.mk (blk_below (g := gb439) (o := .cells #[.int .i64 t435, .int .i64 t436, .string t437] 23 (0, 0)) (by (with_reducible repeat (first | refine blk_drewN ?_ _ | refine blk_drew ?_ | refine blk_alloc ?_ _)); exact BK439.out) hb)
                                have n1_ := Aside0.mk (blk_below (g := gb450) (o := .cells #[.int .i64 t446, .int .i64 t447, .string t448] 23 (0, 0)) (by (with_reducible repeat (first | refine blk_drewN ?_ _ | refine blk_drew ?_ | refine blk_alloc ?_ _)); exact BK450.out) hb)
                                have n2_ := Aside0.mk (below_step (by repeat (first | (with_reducible first | exact HB.out | apply below_alloc | apply pw_below_drewN | apply below_drew1 | refine below_set ?_ GE439.out | refine below_set ?_ GE450.out) | exact HB.out)) hb)
                                have n3_ := Aside0.mk (hbox)
                                have n4_ := Aside0.mk ((by rw [hg]; exact (below_size (by repeat (first | (with_reducible first | exact HB.out | apply below_alloc | apply pw_below_drewN | apply below_drew1 | refine below_set ?_ GE439.out | refine below_set ?_ GE450.out) | exact HB.out))) : w.heap.size ≤ gb458))
                                have n5_ := Aside0.mk ((by rw [hg]; exact (below_size (by repeat (first | (with_reducible first | exact HB.out | apply below_alloc | apply pw_below_drewN | apply below_drew1 | refine below_set ?_ GE439.out | refine below_set ?_ GE450.out) | exact HB.out))) : w.heap.size ≤ gb458))
                                have n6_ := Aside0.mk ((by rw [hg]; exact Nat.ne_of_lt (blk_lt (g := gb439) (o := .cells #[.int .i64 t435, .int .i64 t436, .string t437] 23 (0, 0)) (by (with_reducible repeat (first | refine blk_drewN ?_ _ | refine blk_drew ?_ | refine blk_alloc ?_ _)); exact BK439.out)) : gb439 ≠ gb458))
                                have n7_ := Aside0.mk ((by rw [hg]; exact Nat.ne_of_gt (blk_lt (g := gb439) (o := .cells #[.int .i64 t435, .int .i64 t436, .string t437] 23 (0, 0)) (by (with_reducible repeat (first | refine blk_drewN ?_ _ | refine blk_drew ?_ | refine blk_alloc ?_ _)); exact BK439.out)) : gb458 ≠ gb439))
                                have n8_ := Aside0.mk ((by rw [hg]; exact Nat.ne_of_lt (blk_lt (g := gb450) (o := .cells #[.int .i64 t446, .int .i64 t447, .string t448] 23 (0, 0)) (by (with_reducible repeat (first | refine blk_drewN ?_ _ | refine blk_drew ?_ | refine blk_alloc ?_ _)); exact BK450.out)) : gb450 ≠ gb458))
                                have n9_ := Aside0.mk ((by rw [hg]; exact Nat.ne_of_gt (blk_lt (g := gb450) (o := .cells #[.int .i64 t446, .int .i64 t447, .string t448] 23 (0, 0)) (by (with_reducible repeat (first | refine blk_drewN ?_ _ | refine blk_drew ?_ | refine blk_alloc ?_ _)); exact BK450.out)) : gb458 ≠ gb450))
                                clear BK439
                                clear BK450
                                clear HB
                                have BK439 := n0_
                                have BK450 := n1_
                                have HB := n2_
                                have BK458 := n3_
                                have GW458 := n4_
                                have GE458 := n5_
                                have NB439_458 := n6_
                                have NB458_439 := n7_
                                have NB450_458 := n8_
                                have NB458_450 := n9_
                                clear n0_ n1_ n2_ n3_ n4_ n5_ n6_ n7_ n8_ n9_
                                clear hb hbox hg
                                refine hK.out _ _ ⟨(blk_cell BK439.out 0).trans rfl, (blk_cell BK439.out 1).trans rfl, (blk_cell BK439.out 2).trans rfl⟩ (fun hHeld => ?_)
                                clear hK K
                                refine norm_ (a' := ?_) ?_ ?_
                                rotate_left
                                · show Act.put _ (some 10) _ = _
                                  simp only [Act.put, List.setIfInBounds_toArray, List.set_cons_zero, List.set_cons_succ, i64_w, i32_w]
                                  rfl
                                refine one_ (i := 3) (N := some 53) #[true, true, true, true, false, false, false, true, false, false] rfl rfl (one_of HT_.out (by kernel_rfl)) (by decide) (fun K hK => ?_)
                                refine goes_ Try.func12 (by kernel_rfl) rfl #[.agg #[.int .i64 t435, .int .i64 t436, .string t437], .agg #[.int .i64 t451, .int .i64 t452, .string t453]] (by rfl) rfl rfl (by (try simp only [List.map_toArray, List.map_cons, List.map_nil]); first | done | rfl | (simp only [List.length_drop, List.length_take]; rfl)) ?_
                                with_reducible refine (value_Sub.calls kj9 t435 t436 t437 t451 t452 t453 t454 t455 t456 t457 _ A33.out).mono ?_
                                rintro e w51 ⟨rfl, hb⟩
                                refine ⟨_, rfl, ?_⟩
                                have n0_ := Aside0.mk (blk_below (g := gb439) (o := .cells #[.int .i64 t435, .int .i64 t436, .string t437] 23 (0, 0)) (by (with_reducible repeat (first | refine blk_drewN ?_ _ | refine blk_drew ?_ | refine blk_alloc ?_ _)); exact BK439.out) hb)
                                have n1_ := Aside0.mk (blk_below (g := gb450) (o := .cells #[.int .i64 t446, .int .i64 t447, .string t448] 23 (0, 0)) (by (with_reducible repeat (first | refine blk_drewN ?_ _ | refine blk_drew ?_ | refine blk_alloc ?_ _)); exact BK450.out) hb)
                                have n2_ := Aside0.mk (blk_below (g := gb458) (o := .cells #[.int .i64 0, .int .i64 0, .string (⟨#[]⟩ : ByteArray)] 23 (0, 0)) (by (with_reducible repeat (first | refine blk_drewN ?_ _ | refine blk_drew ?_ | refine blk_alloc ?_ _)); exact BK458.out) hb)
                                have n3_ := Aside0.mk (below_step (by repeat (first | (with_reducible first | exact HB.out | apply below_alloc | apply pw_below_drewN | apply below_drew1 | refine below_set ?_ GE439.out | refine below_set ?_ GE450.out | refine below_set ?_ GE458.out) | exact HB.out)) hb)
                                clear BK439
                                clear BK450
                                clear BK458
                                clear HB
                                have BK439 := n0_
                                have BK450 := n1_
                                have BK458 := n2_
                                have HB := n3_
                                clear n0_ n1_ n2_ n3_
                                (try clear hb)
                                (try clear hb2)
                                (try clear hk)
                                (try clear hi)
                                refine hK.out _ _ ⟨(blk_cell BK439.out 0).trans rfl, (blk_cell BK439.out 1).trans rfl, (blk_cell BK439.out 2).trans rfl⟩ (fun hHeld => ?_)
                                clear hK K
                                refine norm_ (a' := ?_) ?_ ?_
                                rotate_left
                                · show Act.put _ (some 53) _ = _
                                  simp only [Act.put, List.setIfInBounds_toArray, List.set_cons_zero, List.set_cons_succ, i64_w, i32_w]
                                  rfl
                                refine pure_ (i := 4) (N := some 49) (v := ?_) (a' := ?_) #[true, true, true, true, true, false, false, true, false, false] rfl rfl (any_of HT_.out (by kernel_rfl)) (fun _ _ _ h => h) (Or.inl ⟨by rfl, ?_⟩) ?_ ?_
                                rotate_left
                                · intro w'
                                  go_simp
                                  with_reducible rfl
                                rotate_left
                                · simp only [Act.put, List.setIfInBounds_toArray, List.set_cons_zero, List.set_cons_succ, i64_w, i32_w]
                                  rfl
                                refine pure_ (i := 5) (N := some 54) (v := ?_) (a' := ?_) #[true, true, true, true, true, true, false, true, false, false] rfl rfl (any_of HT_.out (by kernel_rfl)) (fun _ _ _ h => h) (Or.inl ⟨by rfl, ?_⟩) ?_ ?_
                                rotate_left
                                · intro w'
                                  go_simp
                                  with_reducible rfl
                                rotate_left
                                · simp only [Act.put, List.setIfInBounds_toArray, List.set_cons_zero, List.set_cons_succ, i64_w, i32_w]
                                  rfl
                                refine pure_ (i := 6) (N := some 55) (v := ?_) (a' := ?_) #[true, true, true, true, true, true, true, true, false, false] rfl rfl (any_of HT_.out (by kernel_rfl)) (fun _ _ _ h => h) (Or.inl ⟨by rfl, ?_⟩) ?_ ?_
                                rotate_left
                                · intro w'
                                  go_simp
                                  with_reducible rfl
                                rotate_left
                                · simp only [Act.put, List.setIfInBounds_toArray, List.set_cons_zero, List.set_cons_succ, i64_w, i32_w]
                                  rfl
                                exact norm_ (by simp only [putAll, Act.put, List.setIfInBounds_toArray, List.set_cons_zero, List.set_cons_succ]) (hCont (gb458) _ ⟨hHeld, (by (with_reducible repeat (first | refine blk_drewN ?_ _ | refine blk_drew ?_ | refine blk_alloc ?_ _)); exact BK439.out), (by (with_reducible repeat (first | refine blk_drewN ?_ _ | refine blk_drew ?_ | refine blk_alloc ?_ _)); exact BK450.out), (by (with_reducible repeat (first | refine blk_drewN ?_ _ | refine blk_drew ?_ | refine blk_alloc ?_ _)); exact BK458.out), GW458.out, GE458.out, NB439_458.out, NB458_439.out, NB450_458.out, NB458_450.out, (by repeat (first | (with_reducible first | exact HB.out | apply below_alloc | apply pw_below_drewN | apply below_drew1 | refine below_set ?_ GE439.out | refine below_set ?_ GE450.out | refine below_set ?_ GE458.out) | exact HB.out))⟩)
                            · skip
                              refine box_step ?hg (N := 10) ?hd (cs := #[.int .i64 0, .int .i64 0, .string (⟨#[]⟩ : ByteArray)]) (t := 23) ?hr ?_; (case hd => rfl); (case hg => rfl); (case hr => first | (go_simp; done) | (go_simp; rfl))
                              intro gb458 hg w49 hbox hb
                              have n0_ := Aside0.mk (blk_below (g := gb439) (o := .cells #[.int .i64 t435, .int .i64 t436, .string t437] 23 (0, 0)) (by (with_reducible repeat (first | refine blk_drewN ?_ _ | refine blk_drew ?_ | refine blk_alloc ?_ _)); exact BK439.out) hb)
                              have n1_ := Aside0.mk (blk_below (g := gb450) (o := .cells #[.int .i64 t446, .int .i64 t447, .string t448] 23 (0, 0)) (by (with_reducible repeat (first | refine blk_drewN ?_ _ | refine blk_drew ?_ | refine blk_alloc ?_ _)); exact BK450.out) hb)
                              have n2_ := Aside0.mk (below_step (by repeat (first | (with_reducible first | exact HB.out | apply below_alloc | apply pw_below_drewN | apply below_drew1 | refine below_set ?_ GE439.out | refine below_set ?_ GE450.out) | exact HB.out)) hb)
                              have n3_ := Aside0.mk (hbox)
                              have n4_ := Aside0.mk ((by rw [hg]; exact (below_size (by repeat (first | (with_reducible first | exact HB.out | apply below_alloc | apply pw_below_drewN | apply below_drew1 | refine below_set ?_ GE439.out | refine below_set ?_ GE450.out) | exact HB.out))) : w.heap.size ≤ gb458))
                              have n5_ := Aside0.mk ((by rw [hg]; exact (below_size (by repeat (first | (with_reducible first | exact HB.out | apply below_alloc | apply pw_below_drewN | apply below_drew1 | refine below_set ?_ GE439.out | refine below_set ?_ GE450.out) | exact HB.out))) : w.heap.size ≤ gb458))
                              have n6_ := Aside0.mk ((by rw [hg]; exact Nat.ne_of_lt (blk_lt (g := gb439) (o := .cells #[.int .i64 t435, .int .i64 t436, .string t437] 23 (0, 0)) (by (with_reducible repeat (first | refine blk_drewN ?_ _ | refine blk_drew ?_ | refine blk_alloc ?_ _)); exact BK439.out)) : gb439 ≠ gb458))
                              have n7_ := Aside0.mk ((by rw [hg]; exact Nat.ne_of_gt (blk_lt (g := gb439) (o := .cells #[.int .i64 t435, .int .i64 t436, .string t437] 23 (0, 0)) (by (with_reducible repeat (first | refine blk_drewN ?_ _ | refine blk_drew ?_ | refine blk_alloc ?_ _)); exact BK439.out)) : gb458 ≠ gb439))
                              have n8_ := Aside0.mk ((by rw [hg]; exact Nat.ne_of_lt (blk_lt (g := gb450) (o := .cells #[.int .i64 t446, .int .i64 t447, .string t448] 23 (0, 0)) (by (with_reducible repeat (first | refine blk_drewN ?_ _ | refine blk_drew ?_ | refine blk_alloc ?_ _)); exact BK450.out)) : gb450 ≠ gb458))
                              have n9_ := Aside0.mk ((by rw [hg]; exact Nat.ne_of_gt (blk_lt (g := gb450) (o := .cells #[.int .i64 t446, .int .i64 t447, .string t448] 23 (0, 0)) (by (with_reducible repeat (first | refine blk_drewN ?_ _ | refine blk_drew ?_ | refine blk_alloc ?_ _)); exact BK450.out)) : gb458 ≠ gb450))
                              clear BK439
                              clear BK450
                              clear HB
                              have BK439 := n0_
                              have BK450 := n1_
                              have HB := n2_
                              have BK458 := n3_
                              have GW458 := n4_
                              have GE458 := n5_
                              have NB439_458 := n6_
                              have NB458_439 := n7_
                              have NB450_458 := n8_
                              have NB458_450 := n9_
                              clear n0_ n1_ n2_ n3_ n4_ n5_ n6_ n7_ n8_ n9_
                              clear hb hbox hg
                              refine hK.out _ _ ⟨(blk_cell BK439.out 0).trans rfl, (blk_cell BK439.out 1).trans rfl, (blk_cell BK439.out 2).trans rfl⟩ (fun hHeld => ?_)
                              clear hK K
                              refine norm_ (a' := ?_) ?_ ?_
                              rotate_left
                              · show Act.put _ (some 10) _ = _
                                simp only [Act.put, List.setIfInBounds_toArray, List.set_cons_zero, List.set_cons_succ, i64_w, i32_w]
                                rfl
                              refine one_ (i := 2) (N := some 52) #[true, true, true, false, false, false, false, true, false, false] rfl rfl (one_of HT_.out (by kernel_rfl)) (by decide) (fun K hK => ?_)
                              refine goes_ Try.func22 (by kernel_rfl) rfl #[.int .i64 a1] (by rfl) rfl rfl (by (try simp only [List.map_toArray, List.map_cons, List.map_nil]); first | done | rfl | (simp only [List.length_drop, List.length_take]; rfl)) ?_
                              with_reducible refine (augurylaw04_num.calls a1 t451 t452 t453 _ A32.out).mono ?_
                              rintro e w50 ⟨rfl, hb⟩
                              refine ⟨_, rfl, ?_⟩
                              have n0_ := Aside0.mk (blk_below (g := gb439) (o := .cells #[.int .i64 t435, .int .i64 t436, .string t437] 23 (0, 0)) (by (with_reducible repeat (first | refine blk_drewN ?_ _ | refine blk_drew ?_ | refine blk_alloc ?_ _)); exact BK439.out) hb)
                              have n1_ := Aside0.mk (blk_below (g := gb450) (o := .cells #[.int .i64 t446, .int .i64 t447, .string t448] 23 (0, 0)) (by (with_reducible repeat (first | refine blk_drewN ?_ _ | refine blk_drew ?_ | refine blk_alloc ?_ _)); exact BK450.out) hb)
                              have n2_ := Aside0.mk (blk_below (g := gb458) (o := .cells #[.int .i64 0, .int .i64 0, .string (⟨#[]⟩ : ByteArray)] 23 (0, 0)) (by (with_reducible repeat (first | refine blk_drewN ?_ _ | refine blk_drew ?_ | refine blk_alloc ?_ _)); exact BK458.out) hb)
                              have n3_ := Aside0.mk (below_step (by repeat (first | (with_reducible first | exact HB.out | apply below_alloc | apply pw_below_drewN | apply below_drew1 | refine below_set ?_ GE439.out | refine below_set ?_ GE450.out | refine below_set ?_ GE458.out) | exact HB.out)) hb)
                              clear BK439
                              clear BK450
                              clear BK458
                              clear HB
                              have BK439 := n0_
                              have BK450 := n1_
                              have BK458 := n2_
                              have HB := n3_
                              clear n0_ n1_ n2_ n3_
                              (try clear hb)
                              (try clear hb2)
                              (try clear hk)
                              (try clear hi)
                              refine hK.out _ _ ⟨(blk_cell BK439.out 0).trans rfl, (blk_cell BK439.out 1).trans rfl, (blk_cell BK439.out 2).trans rfl⟩ (fun hHeld => ?_)
                              clear hK K
                              refine norm_ (a' := ?_) ?_ ?_
                              rotate_left
                              · show Act.put _ (some 52) _ = _
                                simp only [Act.put, List.setIfInBounds_toArray, List.set_cons_zero, List.set_cons_succ, i64_w, i32_w]
                                rfl
                              refine one_ (i := 3) (N := some 53) #[true, true, true, true, false, false, false, true, false, false] rfl rfl (one_of HT_.out (by kernel_rfl)) (by decide) (fun K hK => ?_)
                              refine goes_ Try.func12 (by kernel_rfl) rfl #[.agg #[.int .i64 t435, .int .i64 t436, .string t437], .agg #[.int .i64 t451, .int .i64 t452, .string t453]] (by rfl) rfl rfl (by (try simp only [List.map_toArray, List.map_cons, List.map_nil]); first | done | rfl | (simp only [List.length_drop, List.length_take]; rfl)) ?_
                              with_reducible refine (value_Sub.calls kj9 t435 t436 t437 t451 t452 t453 t454 t455 t456 t457 _ A33.out).mono ?_
                              rintro e w51 ⟨rfl, hb⟩
                              refine ⟨_, rfl, ?_⟩
                              have n0_ := Aside0.mk (blk_below (g := gb439) (o := .cells #[.int .i64 t435, .int .i64 t436, .string t437] 23 (0, 0)) (by (with_reducible repeat (first | refine blk_drewN ?_ _ | refine blk_drew ?_ | refine blk_alloc ?_ _)); exact BK439.out) hb)
                              have n1_ := Aside0.mk (blk_below (g := gb450) (o := .cells #[.int .i64 t446, .int .i64 t447, .string t448] 23 (0, 0)) (by (with_reducible repeat (first | refine blk_drewN ?_ _ | refine blk_drew ?_ | refine blk_alloc ?_ _)); exact BK450.out) hb)
                              have n2_ := Aside0.mk (blk_below (g := gb458) (o := .cells #[.int .i64 0, .int .i64 0, .string (⟨#[]⟩ : ByteArray)] 23 (0, 0)) (by (with_reducible repeat (first | refine blk_drewN ?_ _ | refine blk_drew ?_ | refine blk_alloc ?_ _)); exact BK458.out) hb)
                              have n3_ := Aside0.mk (below_step (by repeat (first | (with_reducible first | exact HB.out | apply below_alloc | apply pw_below_drewN | apply below_drew1 | refine below_set ?_ GE439.out | refine below_set ?_ GE450.out | refine below_set ?_ GE458.out) | exact HB.out)) hb)
                              clear BK439
                              clear BK450
                              clear BK458
                              clear HB
                              have BK439 := n0_
                              have BK450 := n1_
                              have BK458 := n2_
                              have HB := n3_
                              clear n0_ n1_ n2_ n3_
                              (try clear hb)
                              (try clear hb2)
                              (try clear hk)
                              (try clear hi)
                              refine hK.out _ _ ⟨(blk_cell BK439.out 0).trans rfl, (blk_cell BK439.out 1).trans rfl, (blk_cell BK439.out 2).trans rfl⟩ (fun hHeld => ?_)
                              clear hK K
                              refine norm_ (a' := ?_) ?_ ?_
                              rotate_left
                              · show Act.put _ (some 53) _ = _
                                simp only [Act.put, List.setIfInBounds_toArray, List.set_cons_zero, List.set_cons_succ, i64_w, i32_w]
                                rfl
                              refine pure_ (i := 4) (N := some 49) (v := ?_) (a' := ?_) #[true, true, true, true, true, false, false, true, false, false] rfl rfl (any_of HT_.out (by kernel_rfl)) (fun _ _ _ h => h) (Or.inl ⟨by rfl, ?_⟩) ?_ ?_
                              rotate_left
                              · intro w'
                                go_simp
                                with_reducible rfl
                              rotate_left
                              · simp only [Act.put, List.setIfInBounds_toArray, List.set_cons_zero, List.set_cons_succ, i64_w, i32_w]
                                rfl
                              refine pure_ (i := 5) (N := some 54) (v := ?_) (a' := ?_) #[true, true, true, true, true, true, false, true, false, false] rfl rfl (any_of HT_.out (by kernel_rfl)) (fun _ _ _ h => h) (Or.inl ⟨by rfl, ?_⟩) ?_ ?_
                              rotate_left
                              · intro w'
                                go_simp
                                with_reducible rfl
                              rotate_left
                              · simp only [Act.put, List.setIfInBounds_toArray, List.set_cons_zero, List.set_cons_succ, i64_w, i32_w]
                                rfl
                              refine pure_ (i := 6) (N := some 55) (v := ?_) (a' := ?_) #[true, true, true, true, true, true, true, true, false, false] rfl rfl (any_of HT_.out (by kernel_rfl)) (fun _ _ _ h => h) (Or.inl ⟨by rfl, ?_⟩) ?_ ?_
                              rotate_left
                              · intro w'
                                go_simp
                                with_reducible rfl
                              rotate_left
                              · simp only [Act.put, List.setIfInBounds_toArray, List.set_cons_zero, List.set_cons_succ, i64_w, i32_w]
                                rfl
                              exact norm_ (by simp only [putAll, Act.put, List.setIfInBounds_toArray, List.set_cons_zero, List.set_cons_succ]) (hCont (gb458) _ ⟨hHeld, (by (with_reducible repeat (first | refine blk_drewN ?_ _ | refine blk_drew ?_ | refine blk_alloc ?_ _)); exact BK439.out), (by (with_reducible repeat (first | refine blk_drewN ?_ _ | refine blk_drew ?_ | refine blk_alloc ?_ _)); exact BK450.out), (by (with_reducible repeat (first | refine blk_drewN ?_ _ | refine blk_drew ?_ | refine blk_alloc ?_ _)); exact BK458.out), GW458.out, GE458.out, NB439_458.out, NB458_439.out, NB450_458.out, NB458_450.out, (by repeat (first | (with_reducible first | exact HB.out | apply below_alloc | apply pw_below_drewN | apply below_drew1 | refine below_set ?_ GE439.out | refine below_set ?_ GE450.out | refine below_set ?_ GE458.out) | exact HB.out))⟩)
                          rintro gb458 w52 ⟨hS_, h0_, h1_, h2_, h3_, h4_, h5_, h6_, h7_, h8_, h9_⟩
                          have n0_ : Aside0 (w52.heap[gb439]? = some (.cells #[.int .i64 t435, .int .i64 t436, .string t437] 23 (0, 0))) := ⟨h0_⟩
                          have n1_ : Aside0 (w52.heap[gb450]? = some (.cells #[.int .i64 t446, .int .i64 t447, .string t448] 23 (0, 0))) := ⟨h1_⟩
                          have n2_ : Aside0 (w52.heap[gb458]? = some (.cells #[.int .i64 0, .int .i64 0, .string (⟨#[]⟩ : ByteArray)] 23 (0, 0))) := ⟨h2_⟩
                          have n3_ : Aside0 (w.heap.size ≤ gb458) := ⟨h3_⟩
                          have n4_ : Aside0 (w.heap.size ≤ gb458) := ⟨h4_⟩
                          have n5_ : Aside0 (gb439 ≠ gb458) := ⟨h5_⟩
                          have n6_ : Aside0 (gb458 ≠ gb439) := ⟨h6_⟩
                          have n7_ : Aside0 (gb450 ≠ gb458) := ⟨h7_⟩
                          have n8_ : Aside0 (gb458 ≠ gb450) := ⟨h8_⟩
                          have n9_ : Aside0 (Below w.heap.size w w52) := ⟨h9_⟩
                          clear BK439
                          clear BK450
                          clear HB
                          clear h0_ h1_ h2_ h3_ h4_ h5_ h6_ h7_ h8_ h9_
                          have BK439 := n0_
                          have BK450 := n1_
                          have BK458 := n2_
                          have GW458 := n3_
                          have GE458 := n4_
                          have NB439_458 := n5_
                          have NB458_439 := n6_
                          have NB450_458 := n7_
                          have NB458_450 := n8_
                          have HB := n9_
                          clear n0_ n1_ n2_ n3_ n4_ n5_ n6_ n7_ n8_ n9_
                          have hHeld : w52.cell? ⟨gb439, 0, none⟩ = some (.int .i64 t435) ∧ w52.cell? ⟨gb439, 1, none⟩ = some (.int .i64 t436) ∧ w52.cell? ⟨gb439, 2, none⟩ = some (.string t437) := hS_
                          refine norm_ (a' := ?_) ?_ ?_
                          rotate_left
                          · simp only [putAll, Act.put, List.setIfInBounds_toArray, List.set_cons_zero, List.set_cons_succ]
                            rfl
                          refine one_ (i := 8) (N := none) #[true, true, true, true, true, true, true, true, true, false] rfl rfl (one_of HT_.out (by kernel_rfl)) (by decide) (fun K hK => ?_)
                          have hs53 : w52.cell? ⟨gb458, 0, none⟩ = some (.int .i64 0) := (blk_cell BK458.out 0).trans rfl
                          have hfs53 := blk_frozen BK458.out 0
                          have hns53_0 := NB439_458.out
                          have hns53_1 := NB450_458.out
                          have hms53_0 := NB458_439.out
                          have hms53_1 := NB458_450.out
                          have hs54 : w52.cell? ⟨gb458, 1, none⟩ = some (.int .i64 0) := (blk_cell BK458.out 1).trans rfl
                          have hfs54 := blk_frozen BK458.out 1
                          have hns54_0 := NB439_458.out
                          have hns54_1 := NB450_458.out
                          have hms54_0 := NB458_439.out
                          have hms54_1 := NB458_450.out
                          have hs55 : w52.cell? ⟨gb458, 2, none⟩ = some (.string (⟨#[]⟩ : ByteArray)) := (blk_cell BK458.out 2).trans rfl
                          have hfs55 := blk_frozen BK458.out 2
                          have hns55_0 := NB439_458.out
                          have hns55_1 := NB450_458.out
                          have hms55_0 := NB458_439.out
                          have hms55_1 := NB458_450.out
                          refine skip_ (w1 := ?_) (by rfl) rfl ?_ ?_
                          rotate_left
                          · go_simp
                            rfl
                          refine hK.out _ _ ⟨((cell_far (p := ⟨gb458, _, none⟩) NB439_458.out _).trans (((cell_far (p := ⟨gb458, _, none⟩) NB439_458.out _).trans (((cell_far (p := ⟨gb458, _, none⟩) NB439_458.out _).trans (hHeld.1)))))), ((cell_far (p := ⟨gb458, _, none⟩) NB439_458.out _).trans (((cell_far (p := ⟨gb458, _, none⟩) NB439_458.out _).trans (((cell_far (p := ⟨gb458, _, none⟩) NB439_458.out _).trans (hHeld.2.1)))))), ((cell_far (p := ⟨gb458, _, none⟩) NB439_458.out _).trans (((cell_far (p := ⟨gb458, _, none⟩) NB439_458.out _).trans (((cell_far (p := ⟨gb458, _, none⟩) NB439_458.out _).trans (hHeld.2.2))))))⟩ (fun hHeld => ?_)
                          clear hK K
                          refine pure_ (i := 9) (N := some 11) (v := ?_) (a' := ?_) #[true, true, true, true, true, true, true, true, true, true] rfl rfl (any_of HT_.out (by kernel_rfl)) (fun _ _ _ h => h) (Or.inl ⟨by rfl, ?_⟩) ?_ ?_
                          rotate_left
                          · intro w'
                            go_simp
                            with_reducible rfl
                          rotate_left
                          · simp only [Act.put, List.setIfInBounds_toArray, List.set_cons_zero, List.set_cons_succ, i64_w, i32_w]
                            rfl
                          refine done_ (done_of HT_.out (by kernel_rfl)) ?_
                          try go_wp2
                          have n0_ : Aside0 ((((w52.setCell ⟨gb458, 0, none⟩ (.int .i64 t454)).setCell ⟨gb458, 1, none⟩ (.int .i64 t455)).setCell ⟨gb458, 2, none⟩ (.string t456)).heap[gb439]? = some (.cells #[.int .i64 t435, .int .i64 t436, .string t437] 23 (0, 0))) := ⟨by (with_reducible repeat (first | refine blk_drewN ?_ _ | refine blk_drew ?_ | refine blk_alloc ?_ _)); refine blk_far ?_ NB439_458.out _; (with_reducible repeat (first | refine blk_drewN ?_ _ | refine blk_drew ?_ | refine blk_alloc ?_ _)); refine blk_far ?_ NB439_458.out _; (with_reducible repeat (first | refine blk_drewN ?_ _ | refine blk_drew ?_ | refine blk_alloc ?_ _)); refine blk_far ?_ NB439_458.out _; (with_reducible repeat (first | refine blk_drewN ?_ _ | refine blk_drew ?_ | refine blk_alloc ?_ _)); exact BK439.out⟩
                          have n1_ : Aside0 ((((w52.setCell ⟨gb458, 0, none⟩ (.int .i64 t454)).setCell ⟨gb458, 1, none⟩ (.int .i64 t455)).setCell ⟨gb458, 2, none⟩ (.string t456)).heap[gb450]? = some (.cells #[.int .i64 t446, .int .i64 t447, .string t448] 23 (0, 0))) := ⟨by (with_reducible repeat (first | refine blk_drewN ?_ _ | refine blk_drew ?_ | refine blk_alloc ?_ _)); refine blk_far ?_ NB450_458.out _; (with_reducible repeat (first | refine blk_drewN ?_ _ | refine blk_drew ?_ | refine blk_alloc ?_ _)); refine blk_far ?_ NB450_458.out _; (with_reducible repeat (first | refine blk_drewN ?_ _ | refine blk_drew ?_ | refine blk_alloc ?_ _)); refine blk_far ?_ NB450_458.out _; (with_reducible repeat (first | refine blk_drewN ?_ _ | refine blk_drew ?_ | refine blk_alloc ?_ _)); exact BK450.out⟩
                          have n2_ : Aside0 ((((w52.setCell ⟨gb458, 0, none⟩ (.int .i64 t454)).setCell ⟨gb458, 1, none⟩ (.int .i64 t455)).setCell ⟨gb458, 2, none⟩ (.string t456)).heap[gb458]? = some (.cells #[.int .i64 t454, .int .i64 t455, .string t456] 23 (0, 0))) := ⟨by (with_reducible repeat (first | refine blk_drewN ?_ _ | refine blk_drew ?_ | refine blk_alloc ?_ _)); refine blk_put (cs := #[.int .i64 t454, .int .i64 t455, .string (⟨#[]⟩ : ByteArray)]) ?_ 2 _ rfl; (with_reducible repeat (first | refine blk_drewN ?_ _ | refine blk_drew ?_ | refine blk_alloc ?_ _)); refine blk_put (cs := #[.int .i64 t454, .int .i64 0, .string (⟨#[]⟩ : ByteArray)]) ?_ 1 _ rfl; (with_reducible repeat (first | refine blk_drewN ?_ _ | refine blk_drew ?_ | refine blk_alloc ?_ _)); refine blk_put (cs := #[.int .i64 0, .int .i64 0, .string (⟨#[]⟩ : ByteArray)]) ?_ 0 _ rfl; (with_reducible repeat (first | refine blk_drewN ?_ _ | refine blk_drew ?_ | refine blk_alloc ?_ _)); exact BK458.out⟩
                          have n3_ : Aside0 (Below w.heap.size w (((w52.setCell ⟨gb458, 0, none⟩ (.int .i64 t454)).setCell ⟨gb458, 1, none⟩ (.int .i64 t455)).setCell ⟨gb458, 2, none⟩ (.string t456))) := ⟨by repeat (first | (with_reducible first | exact HB.out | apply below_alloc | apply pw_below_drewN | apply below_drew1 | refine below_set ?_ GE439.out | refine below_set ?_ GE450.out | refine below_set ?_ GE458.out) | exact HB.out)⟩
                          (try clear BK439)
                          (try clear BK450)
                          (try clear BK458)
                          (try clear HB)
                          generalize (((w52.setCell ⟨gb458, 0, none⟩ (.int .i64 t454)).setCell ⟨gb458, 1, none⟩ (.int .i64 t455)).setCell ⟨gb458, 2, none⟩ (.string t456)) = w56 at n0_ n1_ n2_ n3_ ⊢
                          have BK439 := n0_
                          have BK450 := n1_
                          have BK458 := n2_
                          have HB := n3_
                          clear n0_ n1_ n2_ n3_
                          have n0_ := Aside0.mk (blk_drew BK439.out)
                          have n1_ := Aside0.mk (blk_drew BK450.out)
                          have n2_ := Aside0.mk (blk_drew BK458.out)
                          have n3_ := Aside0.mk (below_drew1 HB.out)
                          clear BK439
                          clear BK450
                          clear BK458
                          clear HB
                          have BK439 := n0_
                          have BK450 := n1_
                          have BK458 := n2_
                          have HB := n3_
                          clear n0_ n1_ n2_ n3_
                          refine start_ (n := 10) (S := fun w' => w'.cell? ⟨gb439, 0, none⟩ = some (.int .i64 t435) ∧ w'.cell? ⟨gb439, 1, none⟩ = some (.int .i64 t436) ∧ w'.cell? ⟨gb439, 2, none⟩ = some (.string t437)) (ds := []) #[false, false, false, false, false, false, false, false, false, false] (by kernel_rfl) rfl rfl ⟨(blk_cell BK439.out 0).trans rfl, (blk_cell BK439.out 1).trans rfl, (blk_cell BK439.out 2).trans rfl⟩ (fun hHeld => ?_); refine with_tabW augurylaw04_ValueSums.tab9 augurylaw04_ValueSums.bits9 (fun HT_ HW_ => ?_)
                          generalize w56.drew = w57 at BK439 BK450 BK458 HB hHeld ⊢
                          refine pure_ (i := 1) (N := some 58) (v := ?_) (a' := ?_) #[false, true, false, false, false, false, false, false, false, false] rfl rfl (any_of HT_.out (by kernel_rfl)) (fun _ _ _ h => h) (Or.inl ⟨by rfl, ?_⟩) ?_ ?_
                          rotate_left
                          · intro w'
                            go_simp
                            with_reducible rfl
                          rotate_left
                          · simp only [Act.put, List.setIfInBounds_toArray, List.set_cons_zero, List.set_cons_succ, i64_w, i32_w]
                            rfl
                          refine take_ (i := 0) (N := some 57) (v := ?_) (a' := ?_) #[true, true, false, false, false, false, false, false, false, false] rfl rfl (take_ofW HT_.out HW_.out (by kernel_rfl)) (fun _ _ _ h => h) (Or.inl ⟨by rfl, ?_⟩) hHeld ?_ ?_
                          rotate_left
                          · rintro w' ⟨s0, s1, s2⟩
                            go_simp
                            with_reducible rfl
                          rotate_left
                          · simp only [Act.put, List.setIfInBounds_toArray, List.set_cons_zero, List.set_cons_succ, i64_w, i32_w]
                            rfl
                          refine join_ (σ := Nat) 2 #[true, true, true, true, true, true, true, true, false, false] (fun s_ => [(59, .agg #[.int .i64 t459, .int .i64 t460, .string t461]), (60, .tuple #[.agg #[.int .i64 t462, .int .i64 t463, .string t464], .int .i64 t465]), (12, .pointer (some ⟨s_, 0, none⟩)), (56, .tuple #[.agg #[.int .i64 t462, .int .i64 t463, .string t464], .int .i64 t465]), (61, .agg #[.int .i64 t462, .int .i64 t463, .string t464]), (62, .int .i64 t465)]) (fun s_ w' => (w'.cell? ⟨gb439, 0, none⟩ = some (.int .i64 t435) ∧ w'.cell? ⟨gb439, 1, none⟩ = some (.int .i64 t436) ∧ w'.cell? ⟨gb439, 2, none⟩ = some (.string t437)) ∧ (w'.heap[gb439]? = some (.cells #[.int .i64 t435, .int .i64 t436, .string t437] 23 (0, 0))) ∧ (w'.heap[gb450]? = some (.cells #[.int .i64 t446, .int .i64 t447, .string t448] 23 (0, 0))) ∧ (w'.heap[gb458]? = some (.cells #[.int .i64 t454, .int .i64 t455, .string t456] 23 (0, 0))) ∧ (w'.heap[s_]? = some (.cells #[.int .i64 0, .int .i64 0, .string (⟨#[]⟩ : ByteArray)] 23 (0, 0))) ∧ (w.heap.size ≤ s_) ∧ (w.heap.size ≤ s_) ∧ (gb439 ≠ s_) ∧ (s_ ≠ gb439) ∧ (gb450 ≠ s_) ∧ (s_ ≠ gb450) ∧ (gb458 ≠ s_) ∧ (s_ ≠ gb458) ∧ (Below w.heap.size w w')) ?_ ?_
                          rotate_left
                          · intro hCont
                            refine two_ (i := 2) (j := 7) (Ni := some 59) (Nj := some 12) #[true, true, true, false, false, false, false, false, false, false] #[true, true, false, false, false, false, false, true, false, false] rfl rfl rfl rfl (two_of HT_.out (by kernel_rfl)) (by decide) (by decide) (fun K hK => ?_) (fun K hK => ?_)
                            · skip
                              refine goes_ Try.func22 (by kernel_rfl) rfl #[.int .i64 a0] (by rfl) rfl rfl (by (try simp only [List.map_toArray, List.map_cons, List.map_nil]); first | done | rfl | (simp only [List.length_drop, List.length_take]; rfl)) ?_
                              with_reducible refine (augurylaw04_num.calls a0 t459 t460 t461 _ A34.out).mono ?_
                              rintro e w58 ⟨rfl, hb⟩
                              refine ⟨_, rfl, ?_⟩
                              have n0_ := Aside0.mk (blk_below (g := gb439) (o := .cells #[.int .i64 t435, .int .i64 t436, .string t437] 23 (0, 0)) (by (with_reducible repeat (first | refine blk_drewN ?_ _ | refine blk_drew ?_ | refine blk_alloc ?_ _)); exact BK439.out) hb)
                              have n1_ := Aside0.mk (blk_below (g := gb450) (o := .cells #[.int .i64 t446, .int .i64 t447, .string t448] 23 (0, 0)) (by (with_reducible repeat (first | refine blk_drewN ?_ _ | refine blk_drew ?_ | refine blk_alloc ?_ _)); exact BK450.out) hb)
                              have n2_ := Aside0.mk (blk_below (g := gb458) (o := .cells #[.int .i64 t454, .int .i64 t455, .string t456] 23 (0, 0)) (by (with_reducible repeat (first | refine blk_drewN ?_ _ | refine blk_drew ?_ | refine blk_alloc ?_ _)); exact BK458.out) hb)
                              have n3_ := Aside0.mk (below_step (by repeat (first | (with_reducible first | exact HB.out | apply below_alloc | apply pw_below_drewN | apply below_drew1 | refine below_set ?_ GE439.out | refine below_set ?_ GE450.out | refine below_set ?_ GE458.out) | exact HB.out)) hb)
                              clear BK439
                              clear BK450
                              clear BK458
                              clear HB
                              have BK439 := n0_
                              have BK450 := n1_
                              have BK458 := n2_
                              have HB := n3_
                              clear n0_ n1_ n2_ n3_
                              (try clear hb)
                              (try clear hb2)
                              (try clear hk)
                              (try clear hi)
                              refine hK.out _ _ ⟨(blk_cell BK439.out 0).trans rfl, (blk_cell BK439.out 1).trans rfl, (blk_cell BK439.out 2).trans rfl⟩ (fun hHeld => ?_)
                              clear hK K
                              refine norm_ (a' := ?_) ?_ ?_
                              rotate_left
                              · show Act.put _ (some 59) _ = _
                                simp only [Act.put, List.setIfInBounds_toArray, List.set_cons_zero, List.set_cons_succ, i64_w, i32_w]
                                rfl
                              refine two_ (i := 3) (j := 7) (Ni := some 60) (Nj := some 12) #[true, true, true, true, false, false, false, false, false, false] #[true, true, true, false, false, false, false, true, false, false] rfl rfl rfl rfl (two_of HT_.out (by kernel_rfl)) (by decide) (by decide) (fun K hK => ?_) (fun K hK => ?_)
                              · skip
                                refine goes_ Try.func12 (by kernel_rfl) rfl #[.agg #[.int .i64 t435, .int .i64 t436, .string t437], .agg #[.int .i64 t459, .int .i64 t460, .string t461]] (by rfl) rfl rfl (by (try simp only [List.map_toArray, List.map_cons, List.map_nil]); first | done | rfl | (simp only [List.length_drop, List.length_take]; rfl)) ?_
                                with_reducible refine (value_Sub.calls kj9 t435 t436 t437 t459 t460 t461 t462 t463 t464 t465 _ A35.out).mono ?_
                                rintro e w59 ⟨rfl, hb⟩
                                refine ⟨_, rfl, ?_⟩
                                have n0_ := Aside0.mk (blk_below (g := gb439) (o := .cells #[.int .i64 t435, .int .i64 t436, .string t437] 23 (0, 0)) (by (with_reducible repeat (first | refine blk_drewN ?_ _ | refine blk_drew ?_ | refine blk_alloc ?_ _)); exact BK439.out) hb)
                                have n1_ := Aside0.mk (blk_below (g := gb450) (o := .cells #[.int .i64 t446, .int .i64 t447, .string t448] 23 (0, 0)) (by (with_reducible repeat (first | refine blk_drewN ?_ _ | refine blk_drew ?_ | refine blk_alloc ?_ _)); exact BK450.out) hb)
                                have n2_ := Aside0.mk (blk_below (g := gb458) (o := .cells #[.int .i64 t454, .int .i64 t455, .string t456] 23 (0, 0)) (by (with_reducible repeat (first | refine blk_drewN ?_ _ | refine blk_drew ?_ | refine blk_alloc ?_ _)); exact BK458.out) hb)
                                have n3_ := Aside0.mk (below_step (by repeat (first | (with_reducible first | exact HB.out | apply below_alloc | apply pw_below_drewN | apply below_drew1 | refine below_set ?_ GE439.out | refine below_set ?_ GE450.out | refine below_set ?_ GE458.out) | exact HB.out)) hb)
                                clear BK439
                                clear BK450
                                clear BK458
                                clear HB
                                have BK439 := n0_
                                have BK450 := n1_
                                have BK458 := n2_
                                have HB := n3_
                                clear n0_ n1_ n2_ n3_
                                (try clear hb)
                                (try clear hb2)
                                (try clear hk)
                                (try clear hi)
                                refine hK.out _ _ ⟨(blk_cell BK439.out 0).trans rfl, (blk_cell BK439.out 1).trans rfl, (blk_cell BK439.out 2).trans rfl⟩ (fun hHeld => ?_)
                                clear hK K
                                refine norm_ (a' := ?_) ?_ ?_
                                rotate_left
                                · show Act.put _ (some 60) _ = _
                                  simp only [Act.put, List.setIfInBounds_toArray, List.set_cons_zero, List.set_cons_succ, i64_w, i32_w]
                                  rfl
                                refine pure_ (i := 4) (N := some 56) (v := ?_) (a' := ?_) #[true, true, true, true, true, false, false, false, false, false] rfl rfl (any_of HT_.out (by kernel_rfl)) (fun _ _ _ h => h) (Or.inl ⟨by rfl, ?_⟩) ?_ ?_
                                rotate_left
                                · intro w'
                                  go_simp
                                  with_reducible rfl
                                rotate_left
                                · simp only [Act.put, List.setIfInBounds_toArray, List.set_cons_zero, List.set_cons_succ, i64_w, i32_w]
                                  rfl
                                refine pure_ (i := 5) (N := some 61) (v := ?_) (a' := ?_) #[true, true, true, true, true, true, false, false, false, false] rfl rfl (any_of HT_.out (by kernel_rfl)) (fun _ _ _ h => h) (Or.inl ⟨by rfl, ?_⟩) ?_ ?_
                                rotate_left
                                · intro w'
                                  go_simp
                                  with_reducible rfl
                                rotate_left
                                · simp only [Act.put, List.setIfInBounds_toArray, List.set_cons_zero, List.set_cons_succ, i64_w, i32_w]
                                  rfl
                                refine pure_ (i := 6) (N := some 62) (v := ?_) (a' := ?_) #[true, true, true, true, true, true, true, false, false, false] rfl rfl (any_of HT_.out (by kernel_rfl)) (fun _ _ _ h => h) (Or.inl ⟨by rfl, ?_⟩) ?_ ?_
                                rotate_left
                                · intro w'
                                  go_simp
                                  with_reducible rfl
                                rotate_left
                                · simp only [Act.put, List.setIfInBounds_toArray, List.set_cons_zero, List.set_cons_succ, i64_w, i32_w]
                                  rfl
                                refine one_ (i := 7) (N := some 12) #[true, true, true, true, true, true, true, true, false, false] rfl rfl (one_of HT_.out (by kernel_rfl)) (by decide) (fun K hK => ?_)
                                refine box_step ?hg (N := 12) ?hd (cs := #[.int .i64 0, .int .i64 0, .string (⟨#[]⟩ : ByteArray)]) (t := 23) ?hr ?_; (case hd => rfl); (case hg => rfl); (case hr => first | (go_simp; done) | (go_simp; rfl))
                                intro gb466 hg w60 hbox hb
                                have n0_ := Aside0.mk (blk_below (g := gb439) (o := .cells #[.int .i64 t435, .int .i64 t436, .string t437] 23 (0, 0)) (by (with_reducible repeat (first | refine blk_drewN ?_ _ | refine blk_drew ?_ | refine blk_alloc ?_ _)); exact BK439.out) hb)
                                have n1_ := Aside0.mk (blk_below (g := gb450) (o := .cells #[.int .i64 t446, .int .i64 t447, .string t448] 23 (0, 0)) (by (with_reducible repeat (first | refine blk_drewN ?_ _ | refine blk_drew ?_ | refine blk_alloc ?_ _)); exact BK450.out) hb)
                                have n2_ := Aside0.mk (blk_below (g := gb458) (o := .cells #[.int .i64 t454, .int .i64 t455, .string t456] 23 (0, 0)) (by (with_reducible repeat (first | refine blk_drewN ?_ _ | refine blk_drew ?_ | refine blk_alloc ?_ _)); exact BK458.out) hb)
                                have n3_ := Aside0.mk (below_step (by repeat (first | (with_reducible first | exact HB.out | apply below_alloc | apply pw_below_drewN | apply below_drew1 | refine below_set ?_ GE439.out | refine below_set ?_ GE450.out | refine below_set ?_ GE458.out) | exact HB.out)) hb)
                                have n4_ := Aside0.mk (hbox)
                                have n5_ := Aside0.mk ((by rw [hg]; exact (below_size (by repeat (first | (with_reducible first | exact HB.out | apply below_alloc | apply pw_below_drewN | apply below_drew1 | refine below_set ?_ GE439.out | refine below_set ?_ GE450.out | refine below_set ?_ GE458.out) | exact HB.out))) : w.heap.size ≤ gb466))
                                have n6_ := Aside0.mk ((by rw [hg]; exact (below_size (by repeat (first | (with_reducible first | exact HB.out | apply below_alloc | apply pw_below_drewN | apply below_drew1 | refine below_set ?_ GE439.out | refine below_set ?_ GE450.out | refine below_set ?_ GE458.out) | exact HB.out))) : w.heap.size ≤ gb466))
                                have n7_ := Aside0.mk ((by rw [hg]; exact Nat.ne_of_lt (blk_lt (g := gb439) (o := .cells #[.int .i64 t435, .int .i64 t436, .string t437] 23 (0, 0)) (by (with_reducible repeat (first | refine blk_drewN ?_ _ | refine blk_drew ?_ | refine blk_alloc ?_ _)); exact BK439.out)) : gb439 ≠ gb466))
                                have n8_ := Aside0.mk ((by rw [hg]; exact Nat.ne_of_gt (blk_lt (g := gb439) (o := .cells #[.int .i64 t435, .int .i64 t436, .string t437] 23 (0, 0)) (by (with_reducible repeat (first | refine blk_drewN ?_ _ | refine blk_drew ?_ | refine blk_alloc ?_ _)); exact BK439.out)) : gb466 ≠ gb439))
                                have n9_ := Aside0.mk ((by rw [hg]; exact Nat.ne_of_lt (blk_lt (g := gb450) (o := .cells #[.int .i64 t446, .int .i64 t447, .string t448] 23 (0, 0)) (by (with_reducible repeat (first | refine blk_drewN ?_ _ | refine blk_drew ?_ | refine blk_alloc ?_ _)); exact BK450.out)) : gb450 ≠ gb466))
                                have n10_ := Aside0.mk ((by rw [hg]; exact Nat.ne_of_gt (blk_lt (g := gb450) (o := .cells #[.int .i64 t446, .int .i64 t447, .string t448] 23 (0, 0)) (by (with_reducible repeat (first | refine blk_drewN ?_ _ | refine blk_drew ?_ | refine blk_alloc ?_ _)); exact BK450.out)) : gb466 ≠ gb450))
                                have n11_ := Aside0.mk ((by rw [hg]; exact Nat.ne_of_lt (blk_lt (g := gb458) (o := .cells #[.int .i64 t454, .int .i64 t455, .string t456] 23 (0, 0)) (by (with_reducible repeat (first | refine blk_drewN ?_ _ | refine blk_drew ?_ | refine blk_alloc ?_ _)); exact BK458.out)) : gb458 ≠ gb466))
                                have n12_ := Aside0.mk ((by rw [hg]; exact Nat.ne_of_gt (blk_lt (g := gb458) (o := .cells #[.int .i64 t454, .int .i64 t455, .string t456] 23 (0, 0)) (by (with_reducible repeat (first | refine blk_drewN ?_ _ | refine blk_drew ?_ | refine blk_alloc ?_ _)); exact BK458.out)) : gb466 ≠ gb458))
                                clear BK439
                                clear BK450
                                clear BK458
                                clear HB
                                have BK439 := n0_
                                have BK450 := n1_
                                have BK458 := n2_
                                have HB := n3_
                                have BK466 := n4_
                                have GW466 := n5_
                                have GE466 := n6_
                                have NB439_466 := n7_
                                have NB466_439 := n8_
                                have NB450_466 := n9_
                                have NB466_450 := n10_
                                have NB458_466 := n11_
                                have NB466_458 := n12_
                                clear n0_ n1_ n2_ n3_ n4_ n5_ n6_ n7_ n8_ n9_ n10_ n11_ n12_
                                clear hb hbox hg
                                refine hK.out _ _ ⟨(blk_cell BK439.out 0).trans rfl, (blk_cell BK439.out 1).trans rfl, (blk_cell BK439.out 2).trans rfl⟩ (fun hHeld => ?_)
                                clear hK K
                                refine norm_ (a' := ?_) ?_ ?_
                                rotate_left
                                · show Act.put _ (some 12) _ = _
                                  simp only [Act.put, List.setIfInBounds_toArray, List.set_cons_zero, List.set_cons_succ, i64_w, i32_w]
                                  rfl
                                exact norm_ (by simp only [putAll, Act.put, List.setIfInBounds_toArray, List.set_cons_zero, List.set_cons_succ]) (hCont (gb466) _ ⟨hHeld, (by (with_reducible repeat (first | refine blk_drewN ?_ _ | refine blk_drew ?_ | refine blk_alloc ?_ _)); exact BK439.out), (by (with_reducible repeat (first | refine blk_drewN ?_ _ | refine blk_drew ?_ | refine blk_alloc ?_ _)); exact BK450.out), (by (with_reducible repeat (first | refine blk_drewN ?_ _ | refine blk_drew ?_ | refine blk_alloc ?_ _)); exact BK458.out), (by (with_reducible repeat (first | refine blk_drewN ?_ _ | refine blk_drew ?_ | refine blk_alloc ?_ _)); exact BK466.out), GW466.out, GE466.out, NB439_466.out, NB466_439.out, NB450_466.out, NB466_450.out, NB458_466.out, NB466_458.out, (by repeat (first | (with_reducible first | exact HB.out | apply below_alloc | apply pw_below_drewN | apply below_drew1 | refine below_set ?_ GE439.out | refine below_set ?_ GE450.out | refine below_set ?_ GE458.out | refine below_set ?_ GE466.out) | exact HB.out))⟩)
                              · skip
                                refine box_step ?hg (N := 12) ?hd (cs := #[.int .i64 0, .int .i64 0, .string (⟨#[]⟩ : ByteArray)]) (t := 23) ?hr ?_; (case hd => rfl); (case hg => rfl); (case hr => first | (go_simp; done) | (go_simp; rfl))
                                intro gb466 hg w59 hbox hb
                                have n0_ := Aside0.mk (blk_below (g := gb439) (o := .cells #[.int .i64 t435, .int .i64 t436, .string t437] 23 (0, 0)) (by (with_reducible repeat (first | refine blk_drewN ?_ _ | refine blk_drew ?_ | refine blk_alloc ?_ _)); exact BK439.out) hb)
                                have n1_ := Aside0.mk (blk_below (g := gb450) (o := .cells #[.int .i64 t446, .int .i64 t447, .string t448] 23 (0, 0)) (by (with_reducible repeat (first | refine blk_drewN ?_ _ | refine blk_drew ?_ | refine blk_alloc ?_ _)); exact BK450.out) hb)
                                have n2_ := Aside0.mk (blk_below (g := gb458) (o := .cells #[.int .i64 t454, .int .i64 t455, .string t456] 23 (0, 0)) (by (with_reducible repeat (first | refine blk_drewN ?_ _ | refine blk_drew ?_ | refine blk_alloc ?_ _)); exact BK458.out) hb)
                                have n3_ := Aside0.mk (below_step (by repeat (first | (with_reducible first | exact HB.out | apply below_alloc | apply pw_below_drewN | apply below_drew1 | refine below_set ?_ GE439.out | refine below_set ?_ GE450.out | refine below_set ?_ GE458.out) | exact HB.out)) hb)
                                have n4_ := Aside0.mk (hbox)
                                have n5_ := Aside0.mk ((by rw [hg]; exact (below_size (by repeat (first | (with_reducible first | exact HB.out | apply below_alloc | apply pw_below_drewN | apply below_drew1 | refine below_set ?_ GE439.out | refine below_set ?_ GE450.out | refine below_set ?_ GE458.out) | exact HB.out))) : w.heap.size ≤ gb466))
                                have n6_ := Aside0.mk ((by rw [hg]; exact (below_size (by repeat (first | (with_reducible first | exact HB.out | apply below_alloc | apply pw_below_drewN | apply below_drew1 | refine below_set ?_ GE439.out | refine below_set ?_ GE450.out | refine below_set ?_ GE458.out) | exact HB.out))) : w.heap.size ≤ gb466))
                                have n7_ := Aside0.mk ((by rw [hg]; exact Nat.ne_of_lt (blk_lt (g := gb439) (o := .cells #[.int .i64 t435, .int .i64 t436, .string t437] 23 (0, 0)) (by (with_reducible repeat (first | refine blk_drewN ?_ _ | refine blk_drew ?_ | refine blk_alloc ?_ _)); exact BK439.out)) : gb439 ≠ gb466))
                                have n8_ := Aside0.mk ((by rw [hg]; exact Nat.ne_of_gt (blk_lt (g := gb439) (o := .cells #[.int .i64 t435, .int .i64 t436, .string t437] 23 (0, 0)) (by (with_reducible repeat (first | refine blk_drewN ?_ _ | refine blk_drew ?_ | refine blk_alloc ?_ _)); exact BK439.out)) : gb466 ≠ gb439))
                                have n9_ := Aside0.mk ((by rw [hg]; exact Nat.ne_of_lt (blk_lt (g := gb450) (o := .cells #[.int .i64 t446, .int .i64 t447, .string t448] 23 (0, 0)) (by (with_reducible repeat (first | refine blk_drewN ?_ _ | refine blk_drew ?_ | refine blk_alloc ?_ _)); exact BK450.out)) : gb450 ≠ gb466))
                                have n10_ := Aside0.mk ((by rw [hg]; exact Nat.ne_of_gt (blk_lt (g := gb450) (o := .cells #[.int .i64 t446, .int .i64 t447, .string t448] 23 (0, 0)) (by (with_reducible repeat (first | refine blk_drewN ?_ _ | refine blk_drew ?_ | refine blk_alloc ?_ _)); exact BK450.out)) : gb466 ≠ gb450))
                                have n11_ := Aside0.mk ((by rw [hg]; exact Nat.ne_of_lt (blk_lt (g := gb458) (o := .cells #[.int .i64 t454, .int .i64 t455, .string t456] 23 (0, 0)) (by (with_reducible repeat (first | refine blk_drewN ?_ _ | refine blk_drew ?_ | refine blk_alloc ?_ _)); exact BK458.out)) : gb458 ≠ gb466))
                                have n12_ := Aside0.mk ((by rw [hg]; exact Nat.ne_of_gt (blk_lt (g := gb458) (o := .cells #[.int .i64 t454, .int .i64 t455, .string t456] 23 (0, 0)) (by (with_reducible repeat (first | refine blk_drewN ?_ _ | refine blk_drew ?_ | refine blk_alloc ?_ _)); exact BK458.out)) : gb466 ≠ gb458))
                                clear BK439
                                clear BK450
                                clear BK458
                                clear HB
                                have BK439 := n0_
                                have BK450 := n1_
                                have BK458 := n2_
                                have HB := n3_
                                have BK466 := n4_
                                have GW466 := n5_
                                have GE466 := n6_
                                have NB439_466 := n7_
                                have NB466_439 := n8_
                                have NB450_466 := n9_
                                have NB466_450 := n10_
                                have NB458_466 := n11_
                                have NB466_458 := n12_
                                clear n0_ n1_ n2_ n3_ n4_ n5_ n6_ n7_ n8_ n9_ n10_ n11_ n12_
                                clear hb hbox hg
                                refine hK.out _ _ ⟨(blk_cell BK439.out 0).trans rfl, (blk_cell BK439.out 1).trans rfl, (blk_cell BK439.out 2).trans rfl⟩ (fun hHeld => ?_)
                                clear hK K
                                refine norm_ (a' := ?_) ?_ ?_
                                rotate_left
                                · show Act.put _ (some 12) _ = _
                                  simp only [Act.put, List.setIfInBounds_toArray, List.set_cons_zero, List.set_cons_succ, i64_w, i32_w]
                                  rfl
                                refine one_ (i := 3) (N := some 60) #[true, true, true, true, false, false, false, true, false, false] rfl rfl (one_of HT_.out (by kernel_rfl)) (by decide) (fun K hK => ?_)
                                refine goes_ Try.func12 (by kernel_rfl) rfl #[.agg #[.int .i64 t435, .int .i64 t436, .string t437], .agg #[.int .i64 t459, .int .i64 t460, .string t461]] (by rfl) rfl rfl (by (try simp only [List.map_toArray, List.map_cons, List.map_nil]); first | done | rfl | (simp only [List.length_drop, List.length_take]; rfl)) ?_
                                with_reducible refine (value_Sub.calls kj9 t435 t436 t437 t459 t460 t461 t462 t463 t464 t465 _ A35.out).mono ?_
                                rintro e w60 ⟨rfl, hb⟩
                                refine ⟨_, rfl, ?_⟩
                                have n0_ := Aside0.mk (blk_below (g := gb439) (o := .cells #[.int .i64 t435, .int .i64 t436, .string t437] 23 (0, 0)) (by (with_reducible repeat (first | refine blk_drewN ?_ _ | refine blk_drew ?_ | refine blk_alloc ?_ _)); exact BK439.out) hb)
                                have n1_ := Aside0.mk (blk_below (g := gb450) (o := .cells #[.int .i64 t446, .int .i64 t447, .string t448] 23 (0, 0)) (by (with_reducible repeat (first | refine blk_drewN ?_ _ | refine blk_drew ?_ | refine blk_alloc ?_ _)); exact BK450.out) hb)
                                have n2_ := Aside0.mk (blk_below (g := gb458) (o := .cells #[.int .i64 t454, .int .i64 t455, .string t456] 23 (0, 0)) (by (with_reducible repeat (first | refine blk_drewN ?_ _ | refine blk_drew ?_ | refine blk_alloc ?_ _)); exact BK458.out) hb)
                                have n3_ := Aside0.mk (blk_below (g := gb466) (o := .cells #[.int .i64 0, .int .i64 0, .string (⟨#[]⟩ : ByteArray)] 23 (0, 0)) (by (with_reducible repeat (first | refine blk_drewN ?_ _ | refine blk_drew ?_ | refine blk_alloc ?_ _)); exact BK466.out) hb)
                                have n4_ := Aside0.mk (below_step (by repeat (first | (with_reducible first | exact HB.out | apply below_alloc | apply pw_below_drewN | apply below_drew1 | refine below_set ?_ GE439.out | refine below_set ?_ GE450.out | refine below_set ?_ GE458.out | refine below_set ?_ GE466.out) | exact HB.out)) hb)
                                clear BK439
                                clear BK450
                                clear BK458
                                clear BK466
                                clear HB
                                have BK439 := n0_
                                have BK450 := n1_
                                have BK458 := n2_
                                have BK466 := n3_
                                have HB := n4_
                                clear n0_ n1_ n2_ n3_ n4_
                                (try clear hb)
                                (try clear hb2)
                                (try clear hk)
                                (try clear hi)
                                refine hK.out _ _ ⟨(blk_cell BK439.out 0).trans rfl, (blk_cell BK439.out 1).trans rfl, (blk_cell BK439.out 2).trans rfl⟩ (fun hHeld => ?_)
                                clear hK K
                                refine norm_ (a' := ?_) ?_ ?_
                                rotate_left
                                · show Act.put _ (some 60) _ = _
                                  simp only [Act.put, List.setIfInBounds_toArray, List.set_cons_zero, List.set_cons_succ, i64_w, i32_w]
                                  rfl
                                refine pure_ (i := 4) (N := some 56) (v := ?_) (a' := ?_) #[true, true, true, true, true, false, false, true, false, false] rfl rfl (any_of HT_.out (by kernel_rfl)) (fun _ _ _ h => h) (Or.inl ⟨by rfl, ?_⟩) ?_ ?_
                                rotate_left
                                · intro w'
                                  go_simp
                                  with_reducible rfl
                                rotate_left
                                · simp only [Act.put, List.setIfInBounds_toArray, List.set_cons_zero, List.set_cons_succ, i64_w, i32_w]
                                  rfl
                                refine pure_ (i := 5) (N := some 61) (v := ?_) (a' := ?_) #[true, true, true, true, true, true, false, true, false, false] rfl rfl (any_of HT_.out (by kernel_rfl)) (fun _ _ _ h => h) (Or.inl ⟨by rfl, ?_⟩) ?_ ?_
                                rotate_left
                                · intro w'
                                  go_simp
                                  with_reducible rfl
                                rotate_left
                                · simp only [Act.put, List.setIfInBounds_toArray, List.set_cons_zero, List.set_cons_succ, i64_w, i32_w]
                                  rfl
                                refine pure_ (i := 6) (N := some 62) (v := ?_) (a' := ?_) #[true, true, true, true, true, true, true, true, false, false] rfl rfl (any_of HT_.out (by kernel_rfl)) (fun _ _ _ h => h) (Or.inl ⟨by rfl, ?_⟩) ?_ ?_
                                rotate_left
                                · intro w'
                                  go_simp
                                  with_reducible rfl
                                rotate_left
                                · simp only [Act.put, List.setIfInBounds_toArray, List.set_cons_zero, List.set_cons_succ, i64_w, i32_w]
                                  rfl
                                exact norm_ (by simp only [putAll, Act.put, List.setIfInBounds_toArray, List.set_cons_zero, List.set_cons_succ]) (hCont (gb466) _ ⟨hHeld, (by (with_reducible repeat (first | refine blk_drewN ?_ _ | refine blk_drew ?_ | refine blk_alloc ?_ _)); exact BK439.out), (by (with_reducible repeat (first | refine blk_drewN ?_ _ | refine blk_drew ?_ | refine blk_alloc ?_ _)); exact BK450.out), (by (with_reducible repeat (first | refine blk_drewN ?_ _ | refine blk_drew ?_ | refine blk_alloc ?_ _)); exact BK458.out), (by (with_reducible repeat (first | refine blk_drewN ?_ _ | refine blk_drew ?_ | refine blk_alloc ?_ _)); exact BK466.out), GW466.out, GE466.out, NB439_466.out, NB466_439.out, NB450_466.out, NB466_450.out, NB458_466.out, NB466_458.out, (by repeat (first | (with_reducible first | exact HB.out | apply below_alloc | apply pw_below_drewN | apply below_drew1 | refine below_set ?_ GE439.out | refine below_set ?_ GE450.out | refine below_set ?_ GE458.out | refine below_set ?_ GE466.out) | exact HB.out))⟩)
                            · skip
                              refine box_step ?hg (N := 12) ?hd (cs := #[.int .i64 0, .int .i64 0, .string (⟨#[]⟩ : ByteArray)]) (t := 23) ?hr ?_; (case hd => rfl); (case hg => rfl); (case hr => first | (go_simp; done) | (go_simp; rfl))
                              intro gb466 hg w58 hbox hb
                              have n0_ := Aside0.mk (blk_below (g := gb439) (o := .cells #[.int .i64 t435, .int .i64 t436, .string t437] 23 (0, 0)) (by (with_reducible repeat (first | refine blk_drewN ?_ _ | refine blk_drew ?_ | refine blk_alloc ?_ _)); exact BK439.out) hb)
                              have n1_ := Aside0.mk (blk_below (g := gb450) (o := .cells #[.int .i64 t446, .int .i64 t447, .string t448] 23 (0, 0)) (by (with_reducible repeat (first | refine blk_drewN ?_ _ | refine blk_drew ?_ | refine blk_alloc ?_ _)); exact BK450.out) hb)
                              have n2_ := Aside0.mk (blk_below (g := gb458) (o := .cells #[.int .i64 t454, .int .i64 t455, .string t456] 23 (0, 0)) (by (with_reducible repeat (first | refine blk_drewN ?_ _ | refine blk_drew ?_ | refine blk_alloc ?_ _)); exact BK458.out) hb)
                              have n3_ := Aside0.mk (below_step (by repeat (first | (with_reducible first | exact HB.out | apply below_alloc | apply pw_below_drewN | apply below_drew1 | refine below_set ?_ GE439.out | refine below_set ?_ GE450.out | refine below_set ?_ GE458.out) | exact HB.out)) hb)
                              have n4_ := Aside0.mk (hbox)
                              have n5_ := Aside0.mk ((by rw [hg]; exact (below_size (by repeat (first | (with_reducible first | exact HB.out | apply below_alloc | apply pw_below_drewN | apply below_drew1 | refine below_set ?_ GE439.out | refine below_set ?_ GE450.out | refine below_set ?_ GE458.out) | exact HB.out))) : w.heap.size ≤ gb466))
                              have n6_ := Aside0.mk ((by rw [hg]; exact (below_size (by repeat (first | (with_reducible first | exact HB.out | apply below_alloc | apply pw_below_drewN | apply below_drew1 | refine below_set ?_ GE439.out | refine below_set ?_ GE450.out | refine below_set ?_ GE458.out) | exact HB.out))) : w.heap.size ≤ gb466))
                              have n7_ := Aside0.mk ((by rw [hg]; exact Nat.ne_of_lt (blk_lt (g := gb439) (o := .cells #[.int .i64 t435, .int .i64 t436, .string t437] 23 (0, 0)) (by (with_reducible repeat (first | refine blk_drewN ?_ _ | refine blk_drew ?_ | refine blk_alloc ?_ _)); exact BK439.out)) : gb439 ≠ gb466))
                              have n8_ := Aside0.mk ((by rw [hg]; exact Nat.ne_of_gt (blk_lt (g := gb439) (o := .cells #[.int .i64 t435, .int .i64 t436, .string t437] 23 (0, 0)) (by (with_reducible repeat (first | refine blk_drewN ?_ _ | refine blk_drew ?_ | refine blk_alloc ?_ _)); exact BK439.out)) : gb466 ≠ gb439))
                              have n9_ := Aside0.mk ((by rw [hg]; exact Nat.ne_of_lt (blk_lt (g := gb450) (o := .cells #[.int .i64 t446, .int .i64 t447, .string t448] 23 (0, 0)) (by (with_reducible repeat (first | refine blk_drewN ?_ _ | refine blk_drew ?_ | refine blk_alloc ?_ _)); exact BK450.out)) : gb450 ≠ gb466))
                              have n10_ := Aside0.mk ((by rw [hg]; exact Nat.ne_of_gt (blk_lt (g := gb450) (o := .cells #[.int .i64 t446, .int .i64 t447, .string t448] 23 (0, 0)) (by (with_reducible repeat (first | refine blk_drewN ?_ _ | refine blk_drew ?_ | refine blk_alloc ?_ _)); exact BK450.out)) : gb466 ≠ gb450))
                              have n11_ := Aside0.mk ((by rw [hg]; exact Nat.ne_of_lt (blk_lt (g := gb458) (o := .cells #[.int .i64 t454, .int .i64 t455, .string t456] 23 (0, 0)) (by (with_reducible repeat (first | refine blk_drewN ?_ _ | refine blk_drew ?_ | refine blk_alloc ?_ _)); exact BK458.out)) : gb458 ≠ gb466))
                              have n12_ := Aside0.mk ((by rw [hg]; exact Nat.ne_of_gt (blk_lt (g := gb458) (o := .cells #[.int .i64 t454, .int .i64 t455, .string t456] 23 (0, 0)) (by (with_reducible repeat (first | refine blk_drewN ?_ _ | refine blk_drew ?_ | refine blk_alloc ?_ _)); exact BK458.out)) : gb466 ≠ gb458))
                              clear BK439
                              clear BK450
                              clear BK458
                              clear HB
                              have BK439 := n0_
                              have BK450 := n1_
                              have BK458 := n2_
                              have HB := n3_
                              have BK466 := n4_
                              have GW466 := n5_
                              have GE466 := n6_
                              have NB439_466 := n7_
                              have NB466_439 := n8_
                              have NB450_466 := n9_
                              have NB466_450 := n10_
                              have NB458_466 := n11_
                              have NB466_458 := n12_
                              clear n0_ n1_ n2_ n3_ n4_ n5_ n6_ n7_ n8_ n9_ n10_ n11_ n12_
                              clear hb hbox hg
                              refine hK.out _ _ ⟨(blk_cell BK439.out 0).trans rfl, (blk_cell BK439.out 1).trans rfl, (blk_cell BK439.out 2).trans rfl⟩ (fun hHeld => ?_)
                              clear hK K
                              refine norm_ (a' := ?_) ?_ ?_
                              rotate_left
                              · show Act.put _ (some 12) _ = _
                                simp only [Act.put, List.setIfInBounds_toArray, List.set_cons_zero, List.set_cons_succ, i64_w, i32_w]
                                rfl
                              refine one_ (i := 2) (N := some 59) #[true, true, true, false, false, false, false, true, false, false] rfl rfl (one_of HT_.out (by kernel_rfl)) (by decide) (fun K hK => ?_)
                              refine goes_ Try.func22 (by kernel_rfl) rfl #[.int .i64 a0] (by rfl) rfl rfl (by (try simp only [List.map_toArray, List.map_cons, List.map_nil]); first | done | rfl | (simp only [List.length_drop, List.length_take]; rfl)) ?_
                              with_reducible refine (augurylaw04_num.calls a0 t459 t460 t461 _ A34.out).mono ?_
                              rintro e w59 ⟨rfl, hb⟩
                              refine ⟨_, rfl, ?_⟩
                              have n0_ := Aside0.mk (blk_below (g := gb439) (o := .cells #[.int .i64 t435, .int .i64 t436, .string t437] 23 (0, 0)) (by (with_reducible repeat (first | refine blk_drewN ?_ _ | refine blk_drew ?_ | refine blk_alloc ?_ _)); exact BK439.out) hb)
                              have n1_ := Aside0.mk (blk_below (g := gb450) (o := .cells #[.int .i64 t446, .int .i64 t447, .string t448] 23 (0, 0)) (by (with_reducible repeat (first | refine blk_drewN ?_ _ | refine blk_drew ?_ | refine blk_alloc ?_ _)); exact BK450.out) hb)
                              have n2_ := Aside0.mk (blk_below (g := gb458) (o := .cells #[.int .i64 t454, .int .i64 t455, .string t456] 23 (0, 0)) (by (with_reducible repeat (first | refine blk_drewN ?_ _ | refine blk_drew ?_ | refine blk_alloc ?_ _)); exact BK458.out) hb)
                              have n3_ := Aside0.mk (blk_below (g := gb466) (o := .cells #[.int .i64 0, .int .i64 0, .string (⟨#[]⟩ : ByteArray)] 23 (0, 0)) (by (with_reducible repeat (first | refine blk_drewN ?_ _ | refine blk_drew ?_ | refine blk_alloc ?_ _)); exact BK466.out) hb)
                              have n4_ := Aside0.mk (below_step (by repeat (first | (with_reducible first | exact HB.out | apply below_alloc | apply pw_below_drewN | apply below_drew1 | refine below_set ?_ GE439.out | refine below_set ?_ GE450.out | refine below_set ?_ GE458.out | refine below_set ?_ GE466.out) | exact HB.out)) hb)
                              clear BK439
                              clear BK450
                              clear BK458
                              clear BK466
                              clear HB
                              have BK439 := n0_
                              have BK450 := n1_
                              have BK458 := n2_
                              have BK466 := n3_
                              have HB := n4_
                              clear n0_ n1_ n2_ n3_ n4_
                              (try clear hb)
                              (try clear hb2)
                              (try clear hk)
                              (try clear hi)
                              refine hK.out _ _ ⟨(blk_cell BK439.out 0).trans rfl, (blk_cell BK439.out 1).trans rfl, (blk_cell BK439.out 2).trans rfl⟩ (fun hHeld => ?_)
                              clear hK K
                              refine norm_ (a' := ?_) ?_ ?_
                              rotate_left
                              · show Act.put _ (some 59) _ = _
                                simp only [Act.put, List.setIfInBounds_toArray, List.set_cons_zero, List.set_cons_succ, i64_w, i32_w]
                                rfl
                              refine one_ (i := 3) (N := some 60) #[true, true, true, true, false, false, false, true, false, false] rfl rfl (one_of HT_.out (by kernel_rfl)) (by decide) (fun K hK => ?_)
                              refine goes_ Try.func12 (by kernel_rfl) rfl #[.agg #[.int .i64 t435, .int .i64 t436, .string t437], .agg #[.int .i64 t459, .int .i64 t460, .string t461]] (by rfl) rfl rfl (by (try simp only [List.map_toArray, List.map_cons, List.map_nil]); first | done | rfl | (simp only [List.length_drop, List.length_take]; rfl)) ?_
                              with_reducible refine (value_Sub.calls kj9 t435 t436 t437 t459 t460 t461 t462 t463 t464 t465 _ A35.out).mono ?_
                              rintro e w60 ⟨rfl, hb⟩
                              refine ⟨_, rfl, ?_⟩
                              have n0_ := Aside0.mk (blk_below (g := gb439) (o := .cells #[.int .i64 t435, .int .i64 t436, .string t437] 23 (0, 0)) (by (with_reducible repeat (first | refine blk_drewN ?_ _ | refine blk_drew ?_ | refine blk_alloc ?_ _)); exact BK439.out) hb)
                              have n1_ := Aside0.mk (blk_below (g := gb450) (o := .cells #[.int .i64 t446, .int .i64 t447, .string t448] 23 (0, 0)) (by (with_reducible repeat (first | refine blk_drewN ?_ _ | refine blk_drew ?_ | refine blk_alloc ?_ _)); exact BK450.out) hb)
                              have n2_ := Aside0.mk (blk_below (g := gb458) (o := .cells #[.int .i64 t454, .int .i64 t455, .string t456] 23 (0, 0)) (by (with_reducible repeat (first | refine blk_drewN ?_ _ | refine blk_drew ?_ | refine blk_alloc ?_ _)); exact BK458.out) hb)
                              have n3_ := Aside0.mk (blk_below (g := gb466) (o := .cells #[.int .i64 0, .int .i64 0, .string (⟨#[]⟩ : ByteArray)] 23 (0, 0)) (by (with_reducible repeat (first | refine blk_drewN ?_ _ | refine blk_drew ?_ | refine blk_alloc ?_ _)); exact BK466.out) hb)
                              have n4_ := Aside0.mk (below_step (by repeat (first | (with_reducible first | exact HB.out | apply below_alloc | apply pw_below_drewN | apply below_drew1 | refine below_set ?_ GE439.out | refine below_set ?_ GE450.out | refine below_set ?_ GE458.out | refine below_set ?_ GE466.out) | exact HB.out)) hb)
                              clear BK439
                              clear BK450
                              clear BK458
                              clear BK466
                              clear HB
                              have BK439 := n0_
                              have BK450 := n1_
                              have BK458 := n2_
                              have BK466 := n3_
                              have HB := n4_
                              clear n0_ n1_ n2_ n3_ n4_
                              (try clear hb)
                              (try clear hb2)
                              (try clear hk)
                              (try clear hi)
                              refine hK.out _ _ ⟨(blk_cell BK439.out 0).trans rfl, (blk_cell BK439.out 1).trans rfl, (blk_cell BK439.out 2).trans rfl⟩ (fun hHeld => ?_)
                              clear hK K
                              refine norm_ (a' := ?_) ?_ ?_
                              rotate_left
                              · show Act.put _ (some 60) _ = _
                                simp only [Act.put, List.setIfInBounds_toArray, List.set_cons_zero, List.set_cons_succ, i64_w, i32_w]
                                rfl
                              refine pure_ (i := 4) (N := some 56) (v := ?_) (a' := ?_) #[true, true, true, true, true, false, false, true, false, false] rfl rfl (any_of HT_.out (by kernel_rfl)) (fun _ _ _ h => h) (Or.inl ⟨by rfl, ?_⟩) ?_ ?_
                              rotate_left
                              · intro w'
                                go_simp
                                with_reducible rfl
                              rotate_left
                              · simp only [Act.put, List.setIfInBounds_toArray, List.set_cons_zero, List.set_cons_succ, i64_w, i32_w]
                                rfl
                              refine pure_ (i := 5) (N := some 61) (v := ?_) (a' := ?_) #[true, true, true, true, true, true, false, true, false, false] rfl rfl (any_of HT_.out (by kernel_rfl)) (fun _ _ _ h => h) (Or.inl ⟨by rfl, ?_⟩) ?_ ?_
                              rotate_left
                              · intro w'
                                go_simp
                                with_reducible rfl
                              rotate_left
                              · simp only [Act.put, List.setIfInBounds_toArray, List.set_cons_zero, List.set_cons_succ, i64_w, i32_w]
                                rfl
                              refine pure_ (i := 6) (N := some 62) (v := ?_) (a' := ?_) #[true, true, true, true, true, true, true, true, false, false] rfl rfl (any_of HT_.out (by kernel_rfl)) (fun _ _ _ h => h) (Or.inl ⟨by rfl, ?_⟩) ?_ ?_
                              rotate_left
                              · intro w'
                                go_simp
                                with_reducible rfl
                              rotate_left
                              · simp only [Act.put, List.setIfInBounds_toArray, List.set_cons_zero, List.set_cons_succ, i64_w, i32_w]
                                rfl
                              exact norm_ (by simp only [putAll, Act.put, List.setIfInBounds_toArray, List.set_cons_zero, List.set_cons_succ]) (hCont (gb466) _ ⟨hHeld, (by (with_reducible repeat (first | refine blk_drewN ?_ _ | refine blk_drew ?_ | refine blk_alloc ?_ _)); exact BK439.out), (by (with_reducible repeat (first | refine blk_drewN ?_ _ | refine blk_drew ?_ | refine blk_alloc ?_ _)); exact BK450.out), (by (with_reducible repeat (first | refine blk_drewN ?_ _ | refine blk_drew ?_ | refine blk_alloc ?_ _)); exact BK458.out), (by (with_reducible repeat (first | refine blk_drewN ?_ _ | refine blk_drew ?_ | refine blk_alloc ?_ _)); exact BK466.out), GW466.out, GE466.out, NB439_466.out, NB466_439.out, NB450_466.out, NB466_450.out, NB458_466.out, NB466_458.out, (by repeat (first | (with_reducible first | exact HB.out | apply below_alloc | apply pw_below_drewN | apply below_drew1 | refine below_set ?_ GE439.out | refine below_set ?_ GE450.out | refine below_set ?_ GE458.out | refine below_set ?_ GE466.out) | exact HB.out))⟩)
                          rintro gb466 w61 ⟨hS_, h0_, h1_, h2_, h3_, h4_, h5_, h6_, h7_, h8_, h9_, h10_, h11_, h12_⟩
                          have n0_ : Aside0 (w61.heap[gb439]? = some (.cells #[.int .i64 t435, .int .i64 t436, .string t437] 23 (0, 0))) := ⟨h0_⟩
                          have n1_ : Aside0 (w61.heap[gb450]? = some (.cells #[.int .i64 t446, .int .i64 t447, .string t448] 23 (0, 0))) := ⟨h1_⟩
                          have n2_ : Aside0 (w61.heap[gb458]? = some (.cells #[.int .i64 t454, .int .i64 t455, .string t456] 23 (0, 0))) := ⟨h2_⟩
                          have n3_ : Aside0 (w61.heap[gb466]? = some (.cells #[.int .i64 0, .int .i64 0, .string (⟨#[]⟩ : ByteArray)] 23 (0, 0))) := ⟨h3_⟩
                          have n4_ : Aside0 (w.heap.size ≤ gb466) := ⟨h4_⟩
                          have n5_ : Aside0 (w.heap.size ≤ gb466) := ⟨h5_⟩
                          have n6_ : Aside0 (gb439 ≠ gb466) := ⟨h6_⟩
                          have n7_ : Aside0 (gb466 ≠ gb439) := ⟨h7_⟩
                          have n8_ : Aside0 (gb450 ≠ gb466) := ⟨h8_⟩
                          have n9_ : Aside0 (gb466 ≠ gb450) := ⟨h9_⟩
                          have n10_ : Aside0 (gb458 ≠ gb466) := ⟨h10_⟩
                          have n11_ : Aside0 (gb466 ≠ gb458) := ⟨h11_⟩
                          have n12_ : Aside0 (Below w.heap.size w w61) := ⟨h12_⟩
                          clear BK439
                          clear BK450
                          clear BK458
                          clear HB
                          clear h0_ h1_ h2_ h3_ h4_ h5_ h6_ h7_ h8_ h9_ h10_ h11_ h12_
                          have BK439 := n0_
                          have BK450 := n1_
                          have BK458 := n2_
                          have BK466 := n3_
                          have GW466 := n4_
                          have GE466 := n5_
                          have NB439_466 := n6_
                          have NB466_439 := n7_
                          have NB450_466 := n8_
                          have NB466_450 := n9_
                          have NB458_466 := n10_
                          have NB466_458 := n11_
                          have HB := n12_
                          clear n0_ n1_ n2_ n3_ n4_ n5_ n6_ n7_ n8_ n9_ n10_ n11_ n12_
                          have hHeld : w61.cell? ⟨gb439, 0, none⟩ = some (.int .i64 t435) ∧ w61.cell? ⟨gb439, 1, none⟩ = some (.int .i64 t436) ∧ w61.cell? ⟨gb439, 2, none⟩ = some (.string t437) := hS_
                          refine norm_ (a' := ?_) ?_ ?_
                          rotate_left
                          · simp only [putAll, Act.put, List.setIfInBounds_toArray, List.set_cons_zero, List.set_cons_succ]
                            rfl
                          refine one_ (i := 8) (N := none) #[true, true, true, true, true, true, true, true, true, false] rfl rfl (one_of HT_.out (by kernel_rfl)) (by decide) (fun K hK => ?_)
                          have hs62 : w61.cell? ⟨gb466, 0, none⟩ = some (.int .i64 0) := (blk_cell BK466.out 0).trans rfl
                          have hfs62 := blk_frozen BK466.out 0
                          have hns62_0 := NB439_466.out
                          have hns62_1 := NB450_466.out
                          have hns62_2 := NB458_466.out
                          have hms62_0 := NB466_439.out
                          have hms62_1 := NB466_450.out
                          have hms62_2 := NB466_458.out
                          have hs63 : w61.cell? ⟨gb466, 1, none⟩ = some (.int .i64 0) := (blk_cell BK466.out 1).trans rfl
                          have hfs63 := blk_frozen BK466.out 1
                          have hns63_0 := NB439_466.out
                          have hns63_1 := NB450_466.out
                          have hns63_2 := NB458_466.out
                          have hms63_0 := NB466_439.out
                          have hms63_1 := NB466_450.out
                          have hms63_2 := NB466_458.out
                          have hs64 : w61.cell? ⟨gb466, 2, none⟩ = some (.string (⟨#[]⟩ : ByteArray)) := (blk_cell BK466.out 2).trans rfl
                          have hfs64 := blk_frozen BK466.out 2
                          have hns64_0 := NB439_466.out
                          have hns64_1 := NB450_466.out
                          have hns64_2 := NB458_466.out
                          have hms64_0 := NB466_439.out
                          have hms64_1 := NB466_450.out
                          have hms64_2 := NB466_458.out
                          refine skip_ (w1 := ?_) (by rfl) rfl ?_ ?_
                          rotate_left
                          · go_simp
                            rfl
                          refine hK.out _ _ ⟨((cell_far (p := ⟨gb466, _, none⟩) NB439_466.out _).trans (((cell_far (p := ⟨gb466, _, none⟩) NB439_466.out _).trans (((cell_far (p := ⟨gb466, _, none⟩) NB439_466.out _).trans (hHeld.1)))))), ((cell_far (p := ⟨gb466, _, none⟩) NB439_466.out _).trans (((cell_far (p := ⟨gb466, _, none⟩) NB439_466.out _).trans (((cell_far (p := ⟨gb466, _, none⟩) NB439_466.out _).trans (hHeld.2.1)))))), ((cell_far (p := ⟨gb466, _, none⟩) NB439_466.out _).trans (((cell_far (p := ⟨gb466, _, none⟩) NB439_466.out _).trans (((cell_far (p := ⟨gb466, _, none⟩) NB439_466.out _).trans (hHeld.2.2))))))⟩ (fun hHeld => ?_)
                          clear hK K
                          refine pure_ (i := 9) (N := some 13) (v := ?_) (a' := ?_) #[true, true, true, true, true, true, true, true, true, true] rfl rfl (any_of HT_.out (by kernel_rfl)) (fun _ _ _ h => h) (Or.inl ⟨by rfl, ?_⟩) ?_ ?_
                          rotate_left
                          · intro w'
                            go_simp
                            with_reducible rfl
                          rotate_left
                          · simp only [Act.put, List.setIfInBounds_toArray, List.set_cons_zero, List.set_cons_succ, i64_w, i32_w]
                            rfl
                          refine done_ (done_of HT_.out (by kernel_rfl)) ?_
                          have hnb65 := NB439_450.out
                          have hnc65 := NB450_439.out
                          have hnb66 := NB439_458.out
                          have hnc66 := NB458_439.out
                          have hnb67 := NB439_466.out
                          have hnc67 := NB466_439.out
                          have hcz68_0 : w61.cell? ⟨gb439, 0, none⟩ = some (.int .i64 t435) := (blk_cell BK439.out 0).trans rfl
                          have hcz68_1 : w61.cell? ⟨gb439, 1, none⟩ = some (.int .i64 t436) := (blk_cell BK439.out 1).trans rfl
                          have hcz68_2 : w61.cell? ⟨gb439, 2, none⟩ = some (.string t437) := (blk_cell BK439.out 2).trans rfl
                          have hfz68_0 := blk_frozen BK439.out 0
                          have hfz68_1 := blk_frozen BK439.out 1
                          have hfz68_2 := blk_frozen BK439.out 2
                          try go_wp2_with (first | ((with_reducible refine gate_callee (f := 12) rfl ?_); refine goesL_ (some 66) rfl rfl Try.func12 (by kernel_rfl) rfl #[.agg #[.int .i64 t435, .int .i64 t436, .string t437], .agg #[.int .i64 t435, .int .i64 t436, .string t437]] rfl (by (try simp only [List.map_toArray, List.map_cons, List.map_nil]); first | done | rfl | (simp only [List.length_drop, List.length_take]; rfl)) ?_; (with_reducible refine (value_Sub.calls kj9 t435 t436 t437 t435 t436 t437 t467 t468 t469 t470 _ A36.out).mono ?_); rintro e w69 ⟨rfl, hb⟩; refine ⟨_, rfl, ?_⟩; have n0_ := Aside0.mk (blk_below (g := gb439) (o := .cells #[.int .i64 t435, .int .i64 t436, .string t437] 23 (0, 0)) (by (with_reducible repeat (first | refine blk_drewN ?_ _ | refine blk_drew ?_ | refine blk_alloc ?_ _)); refine blk_far ?_ NB439_466.out _; (with_reducible repeat (first | refine blk_drewN ?_ _ | refine blk_drew ?_ | refine blk_alloc ?_ _)); refine blk_far ?_ NB439_466.out _; (with_reducible repeat (first | refine blk_drewN ?_ _ | refine blk_drew ?_ | refine blk_alloc ?_ _)); refine blk_far ?_ NB439_466.out _; (with_reducible repeat (first | refine blk_drewN ?_ _ | refine blk_drew ?_ | refine blk_alloc ?_ _)); exact BK439.out) hb); have n1_ := Aside0.mk (blk_below (g := gb450) (o := .cells #[.int .i64 t446, .int .i64 t447, .string t448] 23 (0, 0)) (by (with_reducible repeat (first | refine blk_drewN ?_ _ | refine blk_drew ?_ | refine blk_alloc ?_ _)); refine blk_far ?_ NB450_466.out _; (with_reducible repeat (first | refine blk_drewN ?_ _ | refine blk_drew ?_ | refine blk_alloc ?_ _)); refine blk_far ?_ NB450_466.out _; (with_reducible repeat (first | refine blk_drewN ?_ _ | refine blk_drew ?_ | refine blk_alloc ?_ _)); refine blk_far ?_ NB450_466.out _; (with_reducible repeat (first | refine blk_drewN ?_ _ | refine blk_drew ?_ | refine blk_alloc ?_ _)); exact BK450.out) hb); have n2_ := Aside0.mk (blk_below (g := gb458) (o := .cells #[.int .i64 t454, .int .i64 t455, .string t456] 23 (0, 0)) (by (with_reducible repeat (first | refine blk_drewN ?_ _ | refine blk_drew ?_ | refine blk_alloc ?_ _)); refine blk_far ?_ NB458_466.out _; (with_reducible repeat (first | refine blk_drewN ?_ _ | refine blk_drew ?_ | refine blk_alloc ?_ _)); refine blk_far ?_ NB458_466.out _; (with_reducible repeat (first | refine blk_drewN ?_ _ | refine blk_drew ?_ | refine blk_alloc ?_ _)); refine blk_far ?_ NB458_466.out _; (with_reducible repeat (first | refine blk_drewN ?_ _ | refine blk_drew ?_ | refine blk_alloc ?_ _)); exact BK458.out) hb); have n3_ := Aside0.mk (blk_below (g := gb466) (o := .cells #[.int .i64 t462, .int .i64 t463, .string t464] 23 (0, 0)) (by (with_reducible repeat (first | refine blk_drewN ?_ _ | refine blk_drew ?_ | refine blk_alloc ?_ _)); refine blk_put (cs := #[.int .i64 t462, .int .i64 t463, .string (⟨#[]⟩ : ByteArray)]) ?_ 2 _ rfl; (with_reducible repeat (first | refine blk_drewN ?_ _ | refine blk_drew ?_ | refine blk_alloc ?_ _)); refine blk_put (cs := #[.int .i64 t462, .int .i64 0, .string (⟨#[]⟩ : ByteArray)]) ?_ 1 _ rfl; (with_reducible repeat (first | refine blk_drewN ?_ _ | refine blk_drew ?_ | refine blk_alloc ?_ _)); refine blk_put (cs := #[.int .i64 0, .int .i64 0, .string (⟨#[]⟩ : ByteArray)]) ?_ 0 _ rfl; (with_reducible repeat (first | refine blk_drewN ?_ _ | refine blk_drew ?_ | refine blk_alloc ?_ _)); exact BK466.out) hb); have n4_ := Aside0.mk (below_step (by repeat (first | (with_reducible first | exact HB.out | apply below_alloc | apply pw_below_drewN | apply below_drew1 | refine below_set ?_ GE439.out | refine below_set ?_ GE450.out | refine below_set ?_ GE458.out | refine below_set ?_ GE466.out) | exact HB.out)) hb); clear BK439; clear BK450; clear BK458; clear BK466; clear HB; have BK439 := n0_; have BK450 := n1_; have BK458 := n2_; have BK466 := n3_; have HB := n4_; clear n0_ n1_ n2_ n3_ n4_; (try clear hb); (try clear hb2); (try clear hk); (try clear hi)) | ((with_reducible refine gate_dst (N := 14) rfl ?_); refine box_event ?hg (N := 14) ?hd (cs := #[.int .i64 0, .int .i64 0, .string (⟨#[]⟩ : ByteArray)]) (t := 23) ?hr ?_; (case hd => rfl); (case hg => rfl); (case hr => first | (go_simp; done) | (go_simp; rfl)); intro gb471 hg w70 hbox hb; have n0_ := Aside0.mk (blk_below (g := gb439) (o := .cells #[.int .i64 t435, .int .i64 t436, .string t437] 23 (0, 0)) (by (with_reducible repeat (first | refine blk_drewN ?_ _ | refine blk_drew ?_ | refine blk_alloc ?_ _)); exact BK439.out) hb); have n1_ := Aside0.mk (blk_below (g := gb450) (o := .cells #[.int .i64 t446, .int .i64 t447, .string t448] 23 (0, 0)) (by (with_reducible repeat (first | refine blk_drewN ?_ _ | refine blk_drew ?_ | refine blk_alloc ?_ _)); exact BK450.out) hb); have n2_ := Aside0.mk (blk_below (g := gb458) (o := .cells #[.int .i64 t454, .int .i64 t455, .string t456] 23 (0, 0)) (by (with_reducible repeat (first | refine blk_drewN ?_ _ | refine blk_drew ?_ | refine blk_alloc ?_ _)); exact BK458.out) hb); have n3_ := Aside0.mk (blk_below (g := gb466) (o := .cells #[.int .i64 t462, .int .i64 t463, .string t464] 23 (0, 0)) (by (with_reducible repeat (first | refine blk_drewN ?_ _ | refine blk_drew ?_ | refine blk_alloc ?_ _)); exact BK466.out) hb); have n4_ := Aside0.mk (below_step (by repeat (first | (with_reducible first | exact HB.out | apply below_alloc | apply pw_below_drewN | apply below_drew1 | refine below_set ?_ GE439.out | refine below_set ?_ GE450.out | refine below_set ?_ GE458.out | refine below_set ?_ GE466.out) | exact HB.out)) hb); have n5_ := Aside0.mk (hbox); have n6_ := Aside0.mk ((by rw [hg]; exact (below_size (by repeat (first | (with_reducible first | exact HB.out | apply below_alloc | apply pw_below_drewN | apply below_drew1 | refine below_set ?_ GE439.out | refine below_set ?_ GE450.out | refine below_set ?_ GE458.out | refine below_set ?_ GE466.out) | exact HB.out))) : w.heap.size ≤ gb471)); have n7_ := Aside0.mk ((by rw [hg]; exact (below_size (by repeat (first | (with_reducible first | exact HB.out | apply below_alloc | apply pw_below_drewN | apply below_drew1 | refine below_set ?_ GE439.out | refine below_set ?_ GE450.out | refine below_set ?_ GE458.out | refine below_set ?_ GE466.out) | exact HB.out))) : w.heap.size ≤ gb471)); have n8_ := Aside0.mk ((by rw [hg]; exact Nat.ne_of_lt (blk_lt (g := gb439) (o := .cells #[.int .i64 t435, .int .i64 t436, .string t437] 23 (0, 0)) (by (with_reducible repeat (first | refine blk_drewN ?_ _ | refine blk_drew ?_ | refine blk_alloc ?_ _)); exact BK439.out)) : gb439 ≠ gb471)); have n9_ := Aside0.mk ((by rw [hg]; exact Nat.ne_of_gt (blk_lt (g := gb439) (o := .cells #[.int .i64 t435, .int .i64 t436, .string t437] 23 (0, 0)) (by (with_reducible repeat (first | refine blk_drewN ?_ _ | refine blk_drew ?_ | refine blk_alloc ?_ _)); exact BK439.out)) : gb471 ≠ gb439)); have n10_ := Aside0.mk ((by rw [hg]; exact Nat.ne_of_lt (blk_lt (g := gb450) (o := .cells #[.int .i64 t446, .int .i64 t447, .string t448] 23 (0, 0)) (by (with_reducible repeat (first | refine blk_drewN ?_ _ | refine blk_drew ?_ | refine blk_alloc ?_ _)); exact BK450.out)) : gb450 ≠ gb471)); have n11_ := Aside0.mk ((by rw [hg]; exact Nat.ne_of_gt (blk_lt (g := gb450) (o := .cells #[.int .i64 t446, .int .i64 t447, .string t448] 23 (0, 0)) (by (with_reducible repeat (first | refine blk_drewN ?_ _ | refine blk_drew ?_ | refine blk_alloc ?_ _)); exact BK450.out)) : gb471 ≠ gb450)); have n12_ := Aside0.mk ((by rw [hg]; exact Nat.ne_of_lt (blk_lt (g := gb458) (o := .cells #[.int .i64 t454, .int .i64 t455, .string t456] 23 (0, 0)) (by (with_reducible repeat (first | refine blk_drewN ?_ _ | refine blk_drew ?_ | refine blk_alloc ?_ _)); exact BK458.out)) : gb458 ≠ gb471)); have n13_ := Aside0.mk ((by rw [hg]; exact Nat.ne_of_gt (blk_lt (g := gb458) (o := .cells #[.int .i64 t454, .int .i64 t455, .string t456] 23 (0, 0)) (by (with_reducible repeat (first | refine blk_drewN ?_ _ | refine blk_drew ?_ | refine blk_alloc ?_ _)); exact BK458.out)) : gb471 ≠ gb458)); have n14_ := Aside0.mk ((by rw [hg]; exact Nat.ne_of_lt (blk_lt (g := gb466) (o := .cells #[.int .i64 t462, .int .i64 t463, .string t464] 23 (0, 0)) (by (with_reducible repeat (first | refine blk_drewN ?_ _ | refine blk_drew ?_ | refine blk_alloc ?_ _)); exact BK466.out)) : gb466 ≠ gb471)); have n15_ := Aside0.mk ((by rw [hg]; exact Nat.ne_of_gt (blk_lt (g := gb466) (o := .cells #[.int .i64 t462, .int .i64 t463, .string t464] 23 (0, 0)) (by (with_reducible repeat (first | refine blk_drewN ?_ _ | refine blk_drew ?_ | refine blk_alloc ?_ _)); exact BK466.out)) : gb471 ≠ gb466)); clear BK439; clear BK450; clear BK458; clear BK466; clear HB; have BK439 := n0_; have BK450 := n1_; have BK458 := n2_; have BK466 := n3_; have HB := n4_; have BK471 := n5_; have GW471 := n6_; have GE471 := n7_; have NB439_471 := n8_; have NB471_439 := n9_; have NB450_471 := n10_; have NB471_450 := n11_; have NB458_471 := n12_; have NB471_458 := n13_; have NB466_471 := n14_; have NB471_466 := n15_; clear n0_ n1_ n2_ n3_ n4_ n5_ n6_ n7_ n8_ n9_ n10_ n11_ n12_ n13_ n14_ n15_; clear hb hbox hg; have hnb71 := NB471_439.out; have hnc71 := NB439_471.out; have hnb72 := NB471_450.out; have hnc72 := NB450_471.out; have hnb73 := NB471_458.out; have hnc73 := NB458_471.out; have hnb74 := NB471_466.out; have hnc74 := NB466_471.out; have hcz75_0 : w70.cell? ⟨gb471, 0, none⟩ = some (.int .i64 0) := (blk_cell BK471.out 0).trans rfl; have hcz75_1 : w70.cell? ⟨gb471, 1, none⟩ = some (.int .i64 0) := (blk_cell BK471.out 1).trans rfl; have hcz75_2 : w70.cell? ⟨gb471, 2, none⟩ = some (.string (⟨#[]⟩ : ByteArray)) := (blk_cell BK471.out 2).trans rfl; have hfz75_0 := blk_frozen BK471.out 0; have hfz75_1 := blk_frozen BK471.out 1; have hfz75_2 := blk_frozen BK471.out 2))
                          have n0_ : Aside0 ((((w70.setCell ⟨gb471, 0, none⟩ (.int .i64 t467)).setCell ⟨gb471, 1, none⟩ (.int .i64 t468)).setCell ⟨gb471, 2, none⟩ (.string t469)).heap[gb439]? = some (.cells #[.int .i64 t435, .int .i64 t436, .string t437] 23 (0, 0))) := ⟨by (with_reducible repeat (first | refine blk_drewN ?_ _ | refine blk_drew ?_ | refine blk_alloc ?_ _)); refine blk_far ?_ NB439_471.out _; (with_reducible repeat (first | refine blk_drewN ?_ _ | refine blk_drew ?_ | refine blk_alloc ?_ _)); refine blk_far ?_ NB439_471.out _; (with_reducible repeat (first | refine blk_drewN ?_ _ | refine blk_drew ?_ | refine blk_alloc ?_ _)); refine blk_far ?_ NB439_471.out _; (with_reducible repeat (first | refine blk_drewN ?_ _ | refine blk_drew ?_ | refine blk_alloc ?_ _)); exact BK439.out⟩
                          have n1_ : Aside0 ((((w70.setCell ⟨gb471, 0, none⟩ (.int .i64 t467)).setCell ⟨gb471, 1, none⟩ (.int .i64 t468)).setCell ⟨gb471, 2, none⟩ (.string t469)).heap[gb450]? = some (.cells #[.int .i64 t446, .int .i64 t447, .string t448] 23 (0, 0))) := ⟨by (with_reducible repeat (first | refine blk_drewN ?_ _ | refine blk_drew ?_ | refine blk_alloc ?_ _)); refine blk_far ?_ NB450_471.out _; (with_reducible repeat (first | refine blk_drewN ?_ _ | refine blk_drew ?_ | refine blk_alloc ?_ _)); refine blk_far ?_ NB450_471.out _; (with_reducible repeat (first | refine blk_drewN ?_ _ | refine blk_drew ?_ | refine blk_alloc ?_ _)); refine blk_far ?_ NB450_471.out _; (with_reducible repeat (first | refine blk_drewN ?_ _ | refine blk_drew ?_ | refine blk_alloc ?_ _)); exact BK450.out⟩
                          have n2_ : Aside0 ((((w70.setCell ⟨gb471, 0, none⟩ (.int .i64 t467)).setCell ⟨gb471, 1, none⟩ (.int .i64 t468)).setCell ⟨gb471, 2, none⟩ (.string t469)).heap[gb458]? = some (.cells #[.int .i64 t454, .int .i64 t455, .string t456] 23 (0, 0))) := ⟨by (with_reducible repeat (first | refine blk_drewN ?_ _ | refine blk_drew ?_ | refine blk_alloc ?_ _)); refine blk_far ?_ NB458_471.out _; (with_reducible repeat (first | refine blk_drewN ?_ _ | refine blk_drew ?_ | refine blk_alloc ?_ _)); refine blk_far ?_ NB458_471.out _; (with_reducible repeat (first | refine blk_drewN ?_ _ | refine blk_drew ?_ | refine blk_alloc ?_ _)); refine blk_far ?_ NB458_471.out _; (with_reducible repeat (first | refine blk_drewN ?_ _ | refine blk_drew ?_ | refine blk_alloc ?_ _)); exact BK458.out⟩
                          have n3_ : Aside0 ((((w70.setCell ⟨gb471, 0, none⟩ (.int .i64 t467)).setCell ⟨gb471, 1, none⟩ (.int .i64 t468)).setCell ⟨gb471, 2, none⟩ (.string t469)).heap[gb466]? = some (.cells #[.int .i64 t462, .int .i64 t463, .string t464] 23 (0, 0))) := ⟨by (with_reducible repeat (first | refine blk_drewN ?_ _ | refine blk_drew ?_ | refine blk_alloc ?_ _)); refine blk_far ?_ NB466_471.out _; (with_reducible repeat (first | refine blk_drewN ?_ _ | refine blk_drew ?_ | refine blk_alloc ?_ _)); refine blk_far ?_ NB466_471.out _; (with_reducible repeat (first | refine blk_drewN ?_ _ | refine blk_drew ?_ | refine blk_alloc ?_ _)); refine blk_far ?_ NB466_471.out _; (with_reducible repeat (first | refine blk_drewN ?_ _ | refine blk_drew ?_ | refine blk_alloc ?_ _)); exact BK466.out⟩
                          have n4_ : Aside0 ((((w70.setCell ⟨gb471, 0, none⟩ (.int .i64 t467)).setCell ⟨gb471, 1, none⟩ (.int .i64 t468)).setCell ⟨gb471, 2, none⟩ (.string t469)).heap[gb471]? = some (.cells #[.int .i64 t467, .int .i64 t468, .string t469] 23 (0, 0))) := ⟨by (with_reducible repeat (first | refine blk_drewN ?_ _ | refine blk_drew ?_ | refine blk_alloc ?_ _)); refine blk_put (cs := #[.int .i64 t467, .int .i64 t468, .string (⟨#[]⟩ : ByteArray)]) ?_ 2 _ rfl; (with_reducible repeat (first | refine blk_drewN ?_ _ | refine blk_drew ?_ | refine blk_alloc ?_ _)); refine blk_put (cs := #[.int .i64 t467, .int .i64 0, .string (⟨#[]⟩ : ByteArray)]) ?_ 1 _ rfl; (with_reducible repeat (first | refine blk_drewN ?_ _ | refine blk_drew ?_ | refine blk_alloc ?_ _)); refine blk_put (cs := #[.int .i64 0, .int .i64 0, .string (⟨#[]⟩ : ByteArray)]) ?_ 0 _ rfl; (with_reducible repeat (first | refine blk_drewN ?_ _ | refine blk_drew ?_ | refine blk_alloc ?_ _)); exact BK471.out⟩
                          have n5_ : Aside0 (Below w.heap.size w (((w70.setCell ⟨gb471, 0, none⟩ (.int .i64 t467)).setCell ⟨gb471, 1, none⟩ (.int .i64 t468)).setCell ⟨gb471, 2, none⟩ (.string t469))) := ⟨by repeat (first | (with_reducible first | exact HB.out | apply below_alloc | apply pw_below_drewN | apply below_drew1 | refine below_set ?_ GE439.out | refine below_set ?_ GE450.out | refine below_set ?_ GE458.out | refine below_set ?_ GE466.out | refine below_set ?_ GE471.out) | exact HB.out)⟩
                          (try clear BK439)
                          (try clear BK450)
                          (try clear BK458)
                          (try clear BK466)
                          (try clear BK471)
                          (try clear HB)
                          generalize (((w70.setCell ⟨gb471, 0, none⟩ (.int .i64 t467)).setCell ⟨gb471, 1, none⟩ (.int .i64 t468)).setCell ⟨gb471, 2, none⟩ (.string t469)) = w76 at n0_ n1_ n2_ n3_ n4_ n5_ ⊢
                          have BK439 := n0_
                          have BK450 := n1_
                          have BK458 := n2_
                          have BK466 := n3_
                          have BK471 := n4_
                          have HB := n5_
                          clear n0_ n1_ n2_ n3_ n4_ n5_
                          have n0_ := Aside0.mk (blk_drew BK439.out)
                          have n1_ := Aside0.mk (blk_drew BK450.out)
                          have n2_ := Aside0.mk (blk_drew BK458.out)
                          have n3_ := Aside0.mk (blk_drew BK466.out)
                          have n4_ := Aside0.mk (blk_drew BK471.out)
                          have n5_ := Aside0.mk (below_drew1 HB.out)
                          clear BK439
                          clear BK450
                          clear BK458
                          clear BK466
                          clear BK471
                          clear HB
                          have BK439 := n0_
                          have BK450 := n1_
                          have BK458 := n2_
                          have BK466 := n3_
                          have BK471 := n4_
                          have HB := n5_
                          clear n0_ n1_ n2_ n3_ n4_ n5_
                          refine start_ (n := 39) (S := fun w' => w'.cell? ⟨gb458, 0, none⟩ = some (.int .i64 t454) ∧ w'.cell? ⟨gb458, 1, none⟩ = some (.int .i64 t455) ∧ w'.cell? ⟨gb458, 2, none⟩ = some (.string t456) ∧ w'.cell? ⟨gb466, 0, none⟩ = some (.int .i64 t462) ∧ w'.cell? ⟨gb466, 1, none⟩ = some (.int .i64 t463) ∧ w'.cell? ⟨gb466, 2, none⟩ = some (.string t464) ∧ w'.cell? ⟨gb471, 0, none⟩ = some (.int .i64 t467) ∧ w'.cell? ⟨gb471, 1, none⟩ = some (.int .i64 t468) ∧ w'.cell? ⟨gb471, 2, none⟩ = some (.string t469) ∧ w'.cell? ⟨gb439, 0, none⟩ = some (.int .i64 t435) ∧ w'.cell? ⟨gb439, 1, none⟩ = some (.int .i64 t436) ∧ w'.cell? ⟨gb439, 2, none⟩ = some (.string t437)) (ds := []) #[false, false, false, false, false, false, false, false, false, false, false, false, false, false, false, false, false, false, false, false, false, false, false, false, false, false, false, false, false, false, false, false, false, false, false, false, false, false, false] (by kernel_rfl) rfl rfl ⟨(blk_cell BK458.out 0).trans rfl, (blk_cell BK458.out 1).trans rfl, (blk_cell BK458.out 2).trans rfl, (blk_cell BK466.out 0).trans rfl, (blk_cell BK466.out 1).trans rfl, (blk_cell BK466.out 2).trans rfl, (blk_cell BK471.out 0).trans rfl, (blk_cell BK471.out 1).trans rfl, (blk_cell BK471.out 2).trans rfl, (blk_cell BK439.out 0).trans rfl, (blk_cell BK439.out 1).trans rfl, (blk_cell BK439.out 2).trans rfl⟩ (fun hHeld => ?_); refine with_tabW augurylaw04_ValueSums.tab11 augurylaw04_ValueSums.bits11 (fun HT_ HW_ => ?_)
                          generalize w76.drew = w77 at BK439 BK450 BK458 BK466 BK471 HB hHeld ⊢
                          refine pure_ (i := 0) (N := some 69) (v := ?_) (a' := ?_) #[true, false, false, false, false, false, false, false, false, false, false, false, false, false, false, false, false, false, false, false, false, false, false, false, false, false, false, false, false, false, false, false, false, false, false, false, false, false, false] rfl rfl (any_of HT_.out (by kernel_rfl)) (fun _ _ _ h => h) (Or.inl ⟨by rfl, ?_⟩) ?_ ?_
                          rotate_left
                          · intro w'
                            go_simp
                            with_reducible rfl
                          rotate_left
                          · simp only [Act.put, List.setIfInBounds_toArray, List.set_cons_zero, List.set_cons_succ, i64_w, i32_w]
                            rfl
                          refine pure_ (i := 1) (N := some 70) (v := ?_) (a' := ?_) #[true, true, false, false, false, false, false, false, false, false, false, false, false, false, false, false, false, false, false, false, false, false, false, false, false, false, false, false, false, false, false, false, false, false, false, false, false, false, false] rfl rfl (any_of HT_.out (by kernel_rfl)) (fun _ _ _ h => h) (Or.inl ⟨by rfl, ?_⟩) ?_ ?_
                          rotate_left
                          · intro w'
                            go_simp
                            with_reducible rfl
                          rotate_left
                          · simp only [Act.put, List.setIfInBounds_toArray, List.set_cons_zero, List.set_cons_succ, i64_w, i32_w]
                            rfl
                          refine pure_ (i := 2) (N := some 71) (v := ?_) (a' := ?_) #[true, true, true, false, false, false, false, false, false, false, false, false, false, false, false, false, false, false, false, false, false, false, false, false, false, false, false, false, false, false, false, false, false, false, false, false, false, false, false] rfl rfl (any_of HT_.out (by kernel_rfl)) (fun _ _ _ h => h) (Or.inl ⟨by rfl, ?_⟩) ?_ ?_
                          rotate_left
                          · intro w'
                            go_simp
                            with_reducible rfl
                          rotate_left
                          · simp only [Act.put, List.setIfInBounds_toArray, List.set_cons_zero, List.set_cons_succ, i64_w, i32_w]
                            rfl
                          refine pure_ (i := 3) (N := some 72) (v := ?_) (a' := ?_) #[true, true, true, true, false, false, false, false, false, false, false, false, false, false, false, false, false, false, false, false, false, false, false, false, false, false, false, false, false, false, false, false, false, false, false, false, false, false, false] rfl rfl (any_of HT_.out (by kernel_rfl)) (fun _ _ _ h => h) (Or.inl ⟨by rfl, ?_⟩) ?_ ?_
                          rotate_left
                          · intro w'
                            go_simp
                            with_reducible rfl
                          rotate_left
                          · simp only [Act.put, List.setIfInBounds_toArray, List.set_cons_zero, List.set_cons_succ, i64_w, i32_w]
                            rfl
                          refine pure_ (i := 4) (N := some 73) (v := ?_) (a' := ?_) #[true, true, true, true, true, false, false, false, false, false, false, false, false, false, false, false, false, false, false, false, false, false, false, false, false, false, false, false, false, false, false, false, false, false, false, false, false, false, false] rfl rfl (any_of HT_.out (by kernel_rfl)) (fun _ _ _ h => h) (Or.inl ⟨by rfl, ?_⟩) ?_ ?_
                          rotate_left
                          · intro w'
                            go_simp
                            with_reducible rfl
                          rotate_left
                          · simp only [Act.put, List.setIfInBounds_toArray, List.set_cons_zero, List.set_cons_succ, i64_w, i32_w]
                            rfl
                          refine pure_ (i := 5) (N := some 74) (v := ?_) (a' := ?_) #[true, true, true, true, true, true, false, false, false, false, false, false, false, false, false, false, false, false, false, false, false, false, false, false, false, false, false, false, false, false, false, false, false, false, false, false, false, false, false] rfl rfl (any_of HT_.out (by kernel_rfl)) (fun _ _ _ h => h) (Or.inl ⟨by rfl, ?_⟩) ?_ ?_
                          rotate_left
                          · intro w'
                            go_simp
                            with_reducible rfl
                          rotate_left
                          · simp only [Act.put, List.setIfInBounds_toArray, List.set_cons_zero, List.set_cons_succ, i64_w, i32_w]
                            rfl
                          refine pure_ (i := 7) (N := some 76) (v := ?_) (a' := ?_) #[true, true, true, true, true, true, false, true, false, false, false, false, false, false, false, false, false, false, false, false, false, false, false, false, false, false, false, false, false, false, false, false, false, false, false, false, false, false, false] rfl rfl (any_of HT_.out (by kernel_rfl)) (fun _ _ _ h => h) (Or.inl ⟨by rfl, ?_⟩) ?_ ?_
                          rotate_left
                          · intro w'
                            go_simp
                            with_reducible rfl
                          rotate_left
                          · simp only [Act.put, List.setIfInBounds_toArray, List.set_cons_zero, List.set_cons_succ, i64_w, i32_w]
                            rfl
                          refine take_ (i := 6) (N := some 75) (v := ?_) (a' := ?_) #[true, true, true, true, true, true, true, true, false, false, false, false, false, false, false, false, false, false, false, false, false, false, false, false, false, false, false, false, false, false, false, false, false, false, false, false, false, false, false] rfl rfl (take_ofW HT_.out HW_.out (by kernel_rfl)) (fun _ _ _ h => h) (Or.inl ⟨by rfl, ?_⟩) hHeld ?_ ?_
                          rotate_left
                          · rintro w' ⟨s0, s1, s2, s3, s4, s5, s6, s7, s8, s9, s10, s11⟩
                            go_simp
                            with_reducible rfl
                          rotate_left
                          · simp only [Act.put, List.setIfInBounds_toArray, List.set_cons_zero, List.set_cons_succ, i64_w, i32_w]
                            rfl
                          refine one_ (i := 8) (N := some 77) #[true, true, true, true, true, true, true, true, true, false, false, false, false, false, false, false, false, false, false, false, false, false, false, false, false, false, false, false, false, false, false, false, false, false, false, false, false, false, false] rfl rfl (one_of HT_.out (by kernel_rfl)) (by decide) (fun K hK => ?_)
                          refine goes_ Try.func22 (by kernel_rfl) rfl #[.int .i64 a0] (by rfl) rfl rfl (by (try simp only [List.map_toArray, List.map_cons, List.map_nil]); first | done | rfl | (simp only [List.length_drop, List.length_take]; rfl)) ?_
                          with_reducible refine (augurylaw04_num.calls a0 t472 t473 t474 _ A39.out).mono ?_
                          rintro e w78 ⟨rfl, hb⟩
                          refine ⟨_, rfl, ?_⟩
                          have n0_ := Aside0.mk (blk_below (g := gb439) (o := .cells #[.int .i64 t435, .int .i64 t436, .string t437] 23 (0, 0)) (by (with_reducible repeat (first | refine blk_drewN ?_ _ | refine blk_drew ?_ | refine blk_alloc ?_ _)); exact BK439.out) hb)
                          have n1_ := Aside0.mk (blk_below (g := gb450) (o := .cells #[.int .i64 t446, .int .i64 t447, .string t448] 23 (0, 0)) (by (with_reducible repeat (first | refine blk_drewN ?_ _ | refine blk_drew ?_ | refine blk_alloc ?_ _)); exact BK450.out) hb)
                          have n2_ := Aside0.mk (blk_below (g := gb458) (o := .cells #[.int .i64 t454, .int .i64 t455, .string t456] 23 (0, 0)) (by (with_reducible repeat (first | refine blk_drewN ?_ _ | refine blk_drew ?_ | refine blk_alloc ?_ _)); exact BK458.out) hb)
                          have n3_ := Aside0.mk (blk_below (g := gb466) (o := .cells #[.int .i64 t462, .int .i64 t463, .string t464] 23 (0, 0)) (by (with_reducible repeat (first | refine blk_drewN ?_ _ | refine blk_drew ?_ | refine blk_alloc ?_ _)); exact BK466.out) hb)
                          have n4_ := Aside0.mk (blk_below (g := gb471) (o := .cells #[.int .i64 t467, .int .i64 t468, .string t469] 23 (0, 0)) (by (with_reducible repeat (first | refine blk_drewN ?_ _ | refine blk_drew ?_ | refine blk_alloc ?_ _)); exact BK471.out) hb)
                          have n5_ := Aside0.mk (below_step (by repeat (first | (with_reducible first | exact HB.out | apply below_alloc | apply pw_below_drewN | apply below_drew1 | refine below_set ?_ GE439.out | refine below_set ?_ GE450.out | refine below_set ?_ GE458.out | refine below_set ?_ GE466.out | refine below_set ?_ GE471.out) | exact HB.out)) hb)
                          clear BK439
                          clear BK450
                          clear BK458
                          clear BK466
                          clear BK471
                          clear HB
                          have BK439 := n0_
                          have BK450 := n1_
                          have BK458 := n2_
                          have BK466 := n3_
                          have BK471 := n4_
                          have HB := n5_
                          clear n0_ n1_ n2_ n3_ n4_ n5_
                          (try clear hb)
                          (try clear hb2)
                          (try clear hk)
                          (try clear hi)
                          refine hK.out _ _ ⟨(blk_cell BK458.out 0).trans rfl, (blk_cell BK458.out 1).trans rfl, (blk_cell BK458.out 2).trans rfl, (blk_cell BK466.out 0).trans rfl, (blk_cell BK466.out 1).trans rfl, (blk_cell BK466.out 2).trans rfl, (blk_cell BK471.out 0).trans rfl, (blk_cell BK471.out 1).trans rfl, (blk_cell BK471.out 2).trans rfl, (blk_cell BK439.out 0).trans rfl, (blk_cell BK439.out 1).trans rfl, (blk_cell BK439.out 2).trans rfl⟩ (fun hHeld => ?_)
                          clear hK K
                          refine norm_ (a' := ?_) ?_ ?_
                          rotate_left
                          · show Act.put _ (some 77) _ = _
                            simp only [Act.put, List.setIfInBounds_toArray, List.set_cons_zero, List.set_cons_succ, i64_w, i32_w]
                            rfl
                          refine pure_ (i := 9) (N := some 78) (v := ?_) (a' := ?_) #[true, true, true, true, true, true, true, true, true, true, false, false, false, false, false, false, false, false, false, false, false, false, false, false, false, false, false, false, false, false, false, false, false, false, false, false, false, false, false] rfl rfl (any_of HT_.out (by kernel_rfl)) (fun _ _ _ h => h) (Or.inl ⟨by rfl, ?_⟩) ?_ ?_
                          rotate_left
                          · intro w'
                            go_simp
                            with_reducible rfl
                          rotate_left
                          · simp only [Act.put, List.setIfInBounds_toArray, List.set_cons_zero, List.set_cons_succ, i64_w, i32_w]
                            rfl
                          refine pure_ (i := 10) (N := some 79) (v := ?_) (a' := ?_) #[true, true, true, true, true, true, true, true, true, true, true, false, false, false, false, false, false, false, false, false, false, false, false, false, false, false, false, false, false, false, false, false, false, false, false, false, false, false, false] rfl rfl (any_of HT_.out (by kernel_rfl)) (fun _ _ _ h => h) (Or.inl ⟨by rfl, ?_⟩) ?_ ?_
                          rotate_left
                          · intro w'
                            go_simp
                            with_reducible rfl
                          rotate_left
                          · simp only [Act.put, List.setIfInBounds_toArray, List.set_cons_zero, List.set_cons_succ, i64_w, i32_w]
                            rfl
                          refine pure_ (i := 11) (N := some 80) (v := ?_) (a' := ?_) #[true, true, true, true, true, true, true, true, true, true, true, true, false, false, false, false, false, false, false, false, false, false, false, false, false, false, false, false, false, false, false, false, false, false, false, false, false, false, false] rfl rfl (any_of HT_.out (by kernel_rfl)) (fun _ _ _ h => h) (Or.inl ⟨by rfl, ?_⟩) ?_ ?_
                          rotate_left
                          · intro w'
                            go_simp
                            with_reducible rfl
                          rotate_left
                          · simp only [Act.put, List.setIfInBounds_toArray, List.set_cons_zero, List.set_cons_succ, i64_w, i32_w]
                            rfl
                          refine pure_ (i := 12) (N := some 81) (v := ?_) (a' := ?_) #[true, true, true, true, true, true, true, true, true, true, true, true, true, false, false, false, false, false, false, false, false, false, false, false, false, false, false, false, false, false, false, false, false, false, false, false, false, false, false] rfl rfl (any_of HT_.out (by kernel_rfl)) (fun _ _ _ h => h) (Or.inl ⟨by rfl, ?_⟩) ?_ ?_
                          rotate_left
                          · intro w'
                            go_simp
                            with_reducible rfl
                          rotate_left
                          · simp only [Act.put, List.setIfInBounds_toArray, List.set_cons_zero, List.set_cons_succ, i64_w, i32_w]
                            rfl
                          refine pure_ (i := 13) (N := some 82) (v := ?_) (a' := ?_) #[true, true, true, true, true, true, true, true, true, true, true, true, true, true, false, false, false, false, false, false, false, false, false, false, false, false, false, false, false, false, false, false, false, false, false, false, false, false, false] rfl rfl (any_of HT_.out (by kernel_rfl)) (fun _ _ _ h => h) (Or.inl ⟨by rfl, ?_⟩) ?_ ?_
                          rotate_left
                          · intro w'
                            go_simp
                            with_reducible rfl
                          rotate_left
                          · simp only [Act.put, List.setIfInBounds_toArray, List.set_cons_zero, List.set_cons_succ, i64_w, i32_w]
                            rfl
                          refine pure_ (i := 14) (N := some 83) (v := ?_) (a' := ?_) #[true, true, true, true, true, true, true, true, true, true, true, true, true, true, true, false, false, false, false, false, false, false, false, false, false, false, false, false, false, false, false, false, false, false, false, false, false, false, false] rfl rfl (any_of HT_.out (by kernel_rfl)) (fun _ _ _ h => h) (Or.inl ⟨by rfl, ?_⟩) ?_ ?_
                          rotate_left
                          · intro w'
                            go_simp
                            with_reducible rfl
                          rotate_left
                          · simp only [Act.put, List.setIfInBounds_toArray, List.set_cons_zero, List.set_cons_succ, i64_w, i32_w]
                            rfl
                          refine pure_ (i := 15) (N := some 84) (v := ?_) (a' := ?_) #[true, true, true, true, true, true, true, true, true, true, true, true, true, true, true, true, false, false, false, false, false, false, false, false, false, false, false, false, false, false, false, false, false, false, false, false, false, false, false] rfl rfl (any_of HT_.out (by kernel_rfl)) (fun _ _ _ h => h) (Or.inl ⟨by rfl, ?_⟩) ?_ ?_
                          rotate_left
                          · intro w'
                            go_simp
                            with_reducible rfl
                          rotate_left
                          · simp only [Act.put, List.setIfInBounds_toArray, List.set_cons_zero, List.set_cons_succ, i64_w, i32_w]
                            rfl
                          refine pure_ (i := 17) (N := some 86) (v := ?_) (a' := ?_) #[true, true, true, true, true, true, true, true, true, true, true, true, true, true, true, true, false, true, false, false, false, false, false, false, false, false, false, false, false, false, false, false, false, false, false, false, false, false, false] rfl rfl (any_of HT_.out (by kernel_rfl)) (fun _ _ _ h => h) (Or.inl ⟨by rfl, ?_⟩) ?_ ?_
                          rotate_left
                          · intro w'
                            go_simp
                            with_reducible rfl
                          rotate_left
                          · simp only [Act.put, List.setIfInBounds_toArray, List.set_cons_zero, List.set_cons_succ, i64_w, i32_w]
                            rfl
                          refine take_ (i := 16) (N := some 85) (v := ?_) (a' := ?_) #[true, true, true, true, true, true, true, true, true, true, true, true, true, true, true, true, true, true, false, false, false, false, false, false, false, false, false, false, false, false, false, false, false, false, false, false, false, false, false] rfl rfl (take_ofW HT_.out HW_.out (by kernel_rfl)) (fun _ _ _ h => h) (Or.inl ⟨by rfl, ?_⟩) hHeld ?_ ?_
                          rotate_left
                          · rintro w' ⟨s0, s1, s2, s3, s4, s5, s6, s7, s8, s9, s10, s11⟩
                            go_simp
                            with_reducible rfl
                          rotate_left
                          · simp only [Act.put, List.setIfInBounds_toArray, List.set_cons_zero, List.set_cons_succ, i64_w, i32_w]
                            rfl
                          refine one_ (i := 18) (N := some 87) #[true, true, true, true, true, true, true, true, true, true, true, true, true, true, true, true, true, true, true, false, false, false, false, false, false, false, false, false, false, false, false, false, false, false, false, false, false, false, false] rfl rfl (one_of HT_.out (by kernel_rfl)) (by decide) (fun K hK => ?_)
                          refine goes_ Try.func22 (by kernel_rfl) rfl #[.int .i64 a1] (by rfl) rfl rfl (by (try simp only [List.map_toArray, List.map_cons, List.map_nil]); first | done | rfl | (simp only [List.length_drop, List.length_take]; rfl)) ?_
                          with_reducible refine (augurylaw04_num.calls a1 t475 t476 t477 _ A42.out).mono ?_
                          rintro e w79 ⟨rfl, hb⟩
                          refine ⟨_, rfl, ?_⟩
                          have n0_ := Aside0.mk (blk_below (g := gb439) (o := .cells #[.int .i64 t435, .int .i64 t436, .string t437] 23 (0, 0)) (by (with_reducible repeat (first | refine blk_drewN ?_ _ | refine blk_drew ?_ | refine blk_alloc ?_ _)); exact BK439.out) hb)
                          have n1_ := Aside0.mk (blk_below (g := gb450) (o := .cells #[.int .i64 t446, .int .i64 t447, .string t448] 23 (0, 0)) (by (with_reducible repeat (first | refine blk_drewN ?_ _ | refine blk_drew ?_ | refine blk_alloc ?_ _)); exact BK450.out) hb)
                          have n2_ := Aside0.mk (blk_below (g := gb458) (o := .cells #[.int .i64 t454, .int .i64 t455, .string t456] 23 (0, 0)) (by (with_reducible repeat (first | refine blk_drewN ?_ _ | refine blk_drew ?_ | refine blk_alloc ?_ _)); exact BK458.out) hb)
                          have n3_ := Aside0.mk (blk_below (g := gb466) (o := .cells #[.int .i64 t462, .int .i64 t463, .string t464] 23 (0, 0)) (by (with_reducible repeat (first | refine blk_drewN ?_ _ | refine blk_drew ?_ | refine blk_alloc ?_ _)); exact BK466.out) hb)
                          have n4_ := Aside0.mk (blk_below (g := gb471) (o := .cells #[.int .i64 t467, .int .i64 t468, .string t469] 23 (0, 0)) (by (with_reducible repeat (first | refine blk_drewN ?_ _ | refine blk_drew ?_ | refine blk_alloc ?_ _)); exact BK471.out) hb)
                          have n5_ := Aside0.mk (below_step (by repeat (first | (with_reducible first | exact HB.out | apply below_alloc | apply pw_below_drewN | apply below_drew1 | refine below_set ?_ GE439.out | refine below_set ?_ GE450.out | refine below_set ?_ GE458.out | refine below_set ?_ GE466.out | refine below_set ?_ GE471.out) | exact HB.out)) hb)
                          clear BK439
                          clear BK450
                          clear BK458
                          clear BK466
                          clear BK471
                          clear HB
                          have BK439 := n0_
                          have BK450 := n1_
                          have BK458 := n2_
                          have BK466 := n3_
                          have BK471 := n4_
                          have HB := n5_
                          clear n0_ n1_ n2_ n3_ n4_ n5_
                          (try clear hb)
                          (try clear hb2)
                          (try clear hk)
                          (try clear hi)
                          refine hK.out _ _ ⟨(blk_cell BK458.out 0).trans rfl, (blk_cell BK458.out 1).trans rfl, (blk_cell BK458.out 2).trans rfl, (blk_cell BK466.out 0).trans rfl, (blk_cell BK466.out 1).trans rfl, (blk_cell BK466.out 2).trans rfl, (blk_cell BK471.out 0).trans rfl, (blk_cell BK471.out 1).trans rfl, (blk_cell BK471.out 2).trans rfl, (blk_cell BK439.out 0).trans rfl, (blk_cell BK439.out 1).trans rfl, (blk_cell BK439.out 2).trans rfl⟩ (fun hHeld => ?_)
                          clear hK K
                          refine norm_ (a' := ?_) ?_ ?_
                          rotate_left
                          · show Act.put _ (some 87) _ = _
                            simp only [Act.put, List.setIfInBounds_toArray, List.set_cons_zero, List.set_cons_succ, i64_w, i32_w]
                            rfl
                          refine pure_ (i := 19) (N := some 88) (v := ?_) (a' := ?_) #[true, true, true, true, true, true, true, true, true, true, true, true, true, true, true, true, true, true, true, true, false, false, false, false, false, false, false, false, false, false, false, false, false, false, false, false, false, false, false] rfl rfl (any_of HT_.out (by kernel_rfl)) (fun _ _ _ h => h) (Or.inl ⟨by rfl, ?_⟩) ?_ ?_
                          rotate_left
                          · intro w'
                            go_simp
                            with_reducible rfl
                          rotate_left
                          · simp only [Act.put, List.setIfInBounds_toArray, List.set_cons_zero, List.set_cons_succ, i64_w, i32_w]
                            rfl
                          refine pure_ (i := 20) (N := some 89) (v := ?_) (a' := ?_) #[true, true, true, true, true, true, true, true, true, true, true, true, true, true, true, true, true, true, true, true, true, false, false, false, false, false, false, false, false, false, false, false, false, false, false, false, false, false, false] rfl rfl (any_of HT_.out (by kernel_rfl)) (fun _ _ _ h => h) (Or.inl ⟨by rfl, ?_⟩) ?_ ?_
                          rotate_left
                          · intro w'
                            go_simp
                            with_reducible rfl
                          rotate_left
                          · simp only [Act.put, List.setIfInBounds_toArray, List.set_cons_zero, List.set_cons_succ, i64_w, i32_w]
                            rfl
                          refine pure_ (i := 21) (N := some 90) (v := ?_) (a' := ?_) #[true, true, true, true, true, true, true, true, true, true, true, true, true, true, true, true, true, true, true, true, true, true, false, false, false, false, false, false, false, false, false, false, false, false, false, false, false, false, false] rfl rfl (any_of HT_.out (by kernel_rfl)) (fun _ _ _ h => h) (Or.inl ⟨by rfl, ?_⟩) ?_ ?_
                          rotate_left
                          · intro w'
                            go_simp
                            with_reducible rfl
                          rotate_left
                          · simp only [Act.put, List.setIfInBounds_toArray, List.set_cons_zero, List.set_cons_succ, i64_w, i32_w]
                            rfl
                          refine pure_ (i := 22) (N := some 91) (v := ?_) (a' := ?_) #[true, true, true, true, true, true, true, true, true, true, true, true, true, true, true, true, true, true, true, true, true, true, true, false, false, false, false, false, false, false, false, false, false, false, false, false, false, false, false] rfl rfl (any_of HT_.out (by kernel_rfl)) (fun _ _ _ h => h) (Or.inl ⟨by rfl, ?_⟩) ?_ ?_
                          rotate_left
                          · intro w'
                            go_simp
                            with_reducible rfl
                          rotate_left
                          · simp only [Act.put, List.setIfInBounds_toArray, List.set_cons_zero, List.set_cons_succ, i64_w, i32_w]
                            rfl
                          refine pure_ (i := 23) (N := some 92) (v := ?_) (a' := ?_) #[true, true, true, true, true, true, true, true, true, true, true, true, true, true, true, true, true, true, true, true, true, true, true, true, false, false, false, false, false, false, false, false, false, false, false, false, false, false, false] rfl rfl (any_of HT_.out (by kernel_rfl)) (fun _ _ _ h => h) (Or.inl ⟨by rfl, ?_⟩) ?_ ?_
                          rotate_left
                          · intro w'
                            go_simp
                            with_reducible rfl
                          rotate_left
                          · simp only [Act.put, List.setIfInBounds_toArray, List.set_cons_zero, List.set_cons_succ, i64_w, i32_w]
                            rfl
                          refine pure_ (i := 24) (N := some 93) (v := ?_) (a' := ?_) #[true, true, true, true, true, true, true, true, true, true, true, true, true, true, true, true, true, true, true, true, true, true, true, true, true, false, false, false, false, false, false, false, false, false, false, false, false, false, false] rfl rfl (any_of HT_.out (by kernel_rfl)) (fun _ _ _ h => h) (Or.inl ⟨by rfl, ?_⟩) ?_ ?_
                          rotate_left
                          · intro w'
                            go_simp
                            with_reducible rfl
                          rotate_left
                          · simp only [Act.put, List.setIfInBounds_toArray, List.set_cons_zero, List.set_cons_succ, i64_w, i32_w]
                            rfl
                          refine pure_ (i := 25) (N := some 94) (v := ?_) (a' := ?_) #[true, true, true, true, true, true, true, true, true, true, true, true, true, true, true, true, true, true, true, true, true, true, true, true, true, true, false, false, false, false, false, false, false, false, false, false, false, false, false] rfl rfl (any_of HT_.out (by kernel_rfl)) (fun _ _ _ h => h) (Or.inl ⟨by rfl, ?_⟩) ?_ ?_
                          rotate_left
                          · intro w'
                            go_simp
                            with_reducible rfl
                          rotate_left
                          · simp only [Act.put, List.setIfInBounds_toArray, List.set_cons_zero, List.set_cons_succ, i64_w, i32_w]
                            rfl
                          refine take_ (i := 26) (N := some 95) (v := ?_) (a' := ?_) #[true, true, true, true, true, true, true, true, true, true, true, true, true, true, true, true, true, true, true, true, true, true, true, true, true, true, true, false, false, false, false, false, false, false, false, false, false, false, false] rfl rfl (take_ofW HT_.out HW_.out (by kernel_rfl)) (fun _ _ _ h => h) (Or.inl ⟨by rfl, ?_⟩) hHeld ?_ ?_
                          rotate_left
                          · rintro w' ⟨s0, s1, s2, s3, s4, s5, s6, s7, s8, s9, s10, s11⟩
                            go_simp
                            with_reducible rfl
                          rotate_left
                          · simp only [Act.put, List.setIfInBounds_toArray, List.set_cons_zero, List.set_cons_succ, i64_w, i32_w]
                            rfl
                          refine one_ (i := 27) (N := some 96) #[true, true, true, true, true, true, true, true, true, true, true, true, true, true, true, true, true, true, true, true, true, true, true, true, true, true, true, true, false, false, false, false, false, false, false, false, false, false, false] rfl rfl (one_of HT_.out (by kernel_rfl)) (by decide) (fun K hK => ?_)
                          refine goes_ Try.func22 (by kernel_rfl) rfl #[.int .i64 0] (by rfl) rfl rfl (by (try simp only [List.map_toArray, List.map_cons, List.map_nil]); first | done | rfl | (simp only [List.length_drop, List.length_take]; rfl)) ?_
                          with_reducible refine (augurylaw04_num.calls 0 t478 t479 t480 _ A45.out).mono ?_
                          rintro e w80 ⟨rfl, hb⟩
                          refine ⟨_, rfl, ?_⟩
                          have n0_ := Aside0.mk (blk_below (g := gb439) (o := .cells #[.int .i64 t435, .int .i64 t436, .string t437] 23 (0, 0)) (by (with_reducible repeat (first | refine blk_drewN ?_ _ | refine blk_drew ?_ | refine blk_alloc ?_ _)); exact BK439.out) hb)
                          have n1_ := Aside0.mk (blk_below (g := gb450) (o := .cells #[.int .i64 t446, .int .i64 t447, .string t448] 23 (0, 0)) (by (with_reducible repeat (first | refine blk_drewN ?_ _ | refine blk_drew ?_ | refine blk_alloc ?_ _)); exact BK450.out) hb)
                          have n2_ := Aside0.mk (blk_below (g := gb458) (o := .cells #[.int .i64 t454, .int .i64 t455, .string t456] 23 (0, 0)) (by (with_reducible repeat (first | refine blk_drewN ?_ _ | refine blk_drew ?_ | refine blk_alloc ?_ _)); exact BK458.out) hb)
                          have n3_ := Aside0.mk (blk_below (g := gb466) (o := .cells #[.int .i64 t462, .int .i64 t463, .string t464] 23 (0, 0)) (by (with_reducible repeat (first | refine blk_drewN ?_ _ | refine blk_drew ?_ | refine blk_alloc ?_ _)); exact BK466.out) hb)
                          have n4_ := Aside0.mk (blk_below (g := gb471) (o := .cells #[.int .i64 t467, .int .i64 t468, .string t469] 23 (0, 0)) (by (with_reducible repeat (first | refine blk_drewN ?_ _ | refine blk_drew ?_ | refine blk_alloc ?_ _)); exact BK471.out) hb)
                          have n5_ := Aside0.mk (below_step (by repeat (first | (with_reducible first | exact HB.out | apply below_alloc | apply pw_below_drewN | apply below_drew1 | refine below_set ?_ GE439.out | refine below_set ?_ GE450.out | refine below_set ?_ GE458.out | refine below_set ?_ GE466.out | refine below_set ?_ GE471.out) | exact HB.out)) hb)
                          clear BK439
                          clear BK450
                          clear BK458
                          clear BK466
                          clear BK471
                          clear HB
                          have BK439 := n0_
                          have BK450 := n1_
                          have BK458 := n2_
                          have BK466 := n3_
                          have BK471 := n4_
                          have HB := n5_
                          clear n0_ n1_ n2_ n3_ n4_ n5_
                          (try clear hb)
                          (try clear hb2)
                          (try clear hk)
                          (try clear hi)
                          refine hK.out _ _ ⟨(blk_cell BK458.out 0).trans rfl, (blk_cell BK458.out 1).trans rfl, (blk_cell BK458.out 2).trans rfl, (blk_cell BK466.out 0).trans rfl, (blk_cell BK466.out 1).trans rfl, (blk_cell BK466.out 2).trans rfl, (blk_cell BK471.out 0).trans rfl, (blk_cell BK471.out 1).trans rfl, (blk_cell BK471.out 2).trans rfl, (blk_cell BK439.out 0).trans rfl, (blk_cell BK439.out 1).trans rfl, (blk_cell BK439.out 2).trans rfl⟩ (fun hHeld => ?_)
                          clear hK K
                          refine norm_ (a' := ?_) ?_ ?_
                          rotate_left
                          · show Act.put _ (some 96) _ = _
                            simp only [Act.put, List.setIfInBounds_toArray, List.set_cons_zero, List.set_cons_succ, i64_w, i32_w]
                            rfl
                          refine pure_ (i := 28) (N := some 97) (v := ?_) (a' := ?_) #[true, true, true, true, true, true, true, true, true, true, true, true, true, true, true, true, true, true, true, true, true, true, true, true, true, true, true, true, true, false, false, false, false, false, false, false, false, false, false] rfl rfl (any_of HT_.out (by kernel_rfl)) (fun _ _ _ h => h) (Or.inl ⟨by rfl, ?_⟩) ?_ ?_
                          rotate_left
                          · intro w'
                            go_simp
                            with_reducible rfl
                          rotate_left
                          · simp only [Act.put, List.setIfInBounds_toArray, List.set_cons_zero, List.set_cons_succ, i64_w, i32_w]
                            rfl
                          refine pure_ (i := 29) (N := some 98) (v := ?_) (a' := ?_) #[true, true, true, true, true, true, true, true, true, true, true, true, true, true, true, true, true, true, true, true, true, true, true, true, true, true, true, true, true, true, false, false, false, false, false, false, false, false, false] rfl rfl (any_of HT_.out (by kernel_rfl)) (fun _ _ _ h => h) (Or.inl ⟨by rfl, ?_⟩) ?_ ?_
                          rotate_left
                          · intro w'
                            go_simp
                            with_reducible rfl
                          rotate_left
                          · simp only [Act.put, List.setIfInBounds_toArray, List.set_cons_zero, List.set_cons_succ, i64_w, i32_w]
                            rfl
                          refine pure_ (i := 30) (N := some 99) (v := ?_) (a' := ?_) #[true, true, true, true, true, true, true, true, true, true, true, true, true, true, true, true, true, true, true, true, true, true, true, true, true, true, true, true, true, true, true, false, false, false, false, false, false, false, false] rfl rfl (any_of HT_.out (by kernel_rfl)) (fun _ _ _ h => h) (Or.inl ⟨by rfl, ?_⟩) ?_ ?_
                          rotate_left
                          · intro w'
                            go_simp
                            with_reducible rfl
                          rotate_left
                          · simp only [Act.put, List.setIfInBounds_toArray, List.set_cons_zero, List.set_cons_succ, i64_w, i32_w]
                            rfl
                          refine pure_ (i := 31) (N := some 100) (v := ?_) (a' := ?_) #[true, true, true, true, true, true, true, true, true, true, true, true, true, true, true, true, true, true, true, true, true, true, true, true, true, true, true, true, true, true, true, true, false, false, false, false, false, false, false] rfl rfl (any_of HT_.out (by kernel_rfl)) (fun _ _ _ h => h) (Or.inl ⟨by rfl, ?_⟩) ?_ ?_
                          rotate_left
                          · intro w'
                            go_simp
                            with_reducible rfl
                          rotate_left
                          · simp only [Act.put, List.setIfInBounds_toArray, List.set_cons_zero, List.set_cons_succ, i64_w, i32_w]
                            rfl
                          refine pure_ (i := 33) (N := some 102) (v := ?_) (a' := ?_) #[true, true, true, true, true, true, true, true, true, true, true, true, true, true, true, true, true, true, true, true, true, true, true, true, true, true, true, true, true, true, true, true, false, true, false, false, false, false, false] rfl rfl (any_of HT_.out (by kernel_rfl)) (fun _ _ _ h => h) (Or.inl ⟨by rfl, ?_⟩) ?_ ?_
                          rotate_left
                          · intro w'
                            go_simp
                            with_reducible rfl
                          rotate_left
                          · simp only [Act.put, List.setIfInBounds_toArray, List.set_cons_zero, List.set_cons_succ, i64_w, i32_w]
                            rfl
                          refine pure_ (i := 34) (N := some 103) (v := ?_) (a' := ?_) #[true, true, true, true, true, true, true, true, true, true, true, true, true, true, true, true, true, true, true, true, true, true, true, true, true, true, true, true, true, true, true, true, false, true, true, false, false, false, false] rfl rfl (any_of HT_.out (by kernel_rfl)) (fun _ _ _ h => h) (Or.inl ⟨by rfl, ?_⟩) ?_ ?_
                          rotate_left
                          · intro w'
                            go_simp
                            with_reducible rfl
                          rotate_left
                          · simp only [Act.put, List.setIfInBounds_toArray, List.set_cons_zero, List.set_cons_succ, i64_w, i32_w]
                            rfl
                          refine pure_ (i := 35) (N := some 104) (v := ?_) (a' := ?_) #[true, true, true, true, true, true, true, true, true, true, true, true, true, true, true, true, true, true, true, true, true, true, true, true, true, true, true, true, true, true, true, true, false, true, true, true, false, false, false] rfl rfl (any_of HT_.out (by kernel_rfl)) (fun _ _ _ h => h) (Or.inl ⟨by rfl, ?_⟩) ?_ ?_
                          rotate_left
                          · intro w'
                            go_simp
                            with_reducible rfl
                          rotate_left
                          · simp only [Act.put, List.setIfInBounds_toArray, List.set_cons_zero, List.set_cons_succ, i64_w, i32_w]
                            rfl
                          refine take_ (i := 32) (N := some 101) (v := ?_) (a' := ?_) #[true, true, true, true, true, true, true, true, true, true, true, true, true, true, true, true, true, true, true, true, true, true, true, true, true, true, true, true, true, true, true, true, true, true, true, true, false, false, false] rfl rfl (take_ofW HT_.out HW_.out (by kernel_rfl)) (fun _ _ _ h => h) (Or.inl ⟨by rfl, ?_⟩) hHeld ?_ ?_
                          rotate_left
                          · rintro w' ⟨s0, s1, s2, s3, s4, s5, s6, s7, s8, s9, s10, s11⟩
                            go_simp
                            with_reducible rfl
                          rotate_left
                          · simp only [Act.put, List.setIfInBounds_toArray, List.set_cons_zero, List.set_cons_succ, i64_w, i32_w]
                            rfl
                          refine pure_ (i := 36) (N := some 105) (v := ?_) (a' := ?_) #[true, true, true, true, true, true, true, true, true, true, true, true, true, true, true, true, true, true, true, true, true, true, true, true, true, true, true, true, true, true, true, true, true, true, true, true, true, false, false] rfl rfl (any_of HT_.out (by kernel_rfl)) (fun _ _ _ h => h) (Or.inl ⟨by rfl, ?_⟩) ?_ ?_
                          rotate_left
                          · intro w'
                            go_simp
                            with_reducible rfl
                          rotate_left
                          · simp only [Act.put, List.setIfInBounds_toArray, List.set_cons_zero, List.set_cons_succ, i64_w, i32_w]
                            rfl
                          refine pure_ (i := 37) (N := some 106) (v := ?_) (a' := ?_) #[true, true, true, true, true, true, true, true, true, true, true, true, true, true, true, true, true, true, true, true, true, true, true, true, true, true, true, true, true, true, true, true, true, true, true, true, true, true, false] rfl rfl (any_of HT_.out (by kernel_rfl)) (fun _ _ _ h => h) (Or.inl ⟨by rfl, ?_⟩) ?_ ?_
                          rotate_left
                          · intro w'
                            go_simp
                            with_reducible rfl
                          rotate_left
                          · simp only [Act.put, List.setIfInBounds_toArray, List.set_cons_zero, List.set_cons_succ, i64_w, i32_w]
                            rfl
                          refine pure_ (i := 38) (N := some 4) (v := ?_) (a' := ?_) #[true, true, true, true, true, true, true, true, true, true, true, true, true, true, true, true, true, true, true, true, true, true, true, true, true, true, true, true, true, true, true, true, true, true, true, true, true, true, true] rfl rfl (any_of HT_.out (by kernel_rfl)) (fun _ _ _ h => h) (Or.inl ⟨by rfl, ?_⟩) ?_ ?_
                          rotate_left
                          · intro w'
                            go_simp
                            with_reducible rfl
                          rotate_left
                          · simp only [Act.put, List.setIfInBounds_toArray, List.set_cons_zero, List.set_cons_succ, i64_w, i32_w]
                            rfl
                          refine done_ (done_of HT_.out (by kernel_rfl)) ?_
                          try go_wp2
                          go_ret
                          exact ⟨by first | rfl | (simp [errW_none, errW_some] <;> rfl) | (simp [*, errW_none, errW_some] <;> rfl), by repeat (first | (with_reducible first | exact HB.out | apply below_alloc | apply pw_below_drewN | apply below_drew1 | refine below_set ?_ GE439.out | refine below_set ?_ GE450.out | refine below_set ?_ GE458.out | refine below_set ?_ GE466.out | refine below_set ?_ GE471.out) | exact HB.out)⟩
                        · rw [if_neg c47] at H
                          exact absurd H (by simp)
                      · rw [if_neg c46] at H
                        have c46b0 : (t467 == t478 && (t468 == t479 && (t469.toList == t480.toList))) = false := by simpa using c46
                        (try (have c46b1 : decide (t467 = t478 && (t468 == t479 && (t469.toList == t480.toList))) = false := by simpa using c46))
                        (try (have c46b2 : (t467 == t478 && (t468 == t479 && (t469.toList == t480.toList))) = false := by simpa using c46))
                        (try (have c46b3 : ¬ (t467 = t478 && (t468 == t479 && (t469.toList == t480.toList))) := by simpa using c46))
                        clear c46
                        exact absurd H (by simp)
                    · rw [if_neg c44] at H
                      have c44b0 : (t470 == 0) = false := beq_eq_false_iff_ne.mpr c44
                      have c44b1 : (t470 != 0) = true := bne_iff_ne.mpr c44
                      exact absurd H (by simp)
                  · rw [if_neg c43] at H
                    have c43b0 : (t462 == t475 && (t463 == t476 && (t464.toList == t477.toList))) = false := by simpa using c43
                    (try (have c43b1 : decide (t462 = t475 && (t463 == t476 && (t464.toList == t477.toList))) = false := by simpa using c43))
                    (try (have c43b2 : (t462 == t475 && (t463 == t476 && (t464.toList == t477.toList))) = false := by simpa using c43))
                    (try (have c43b3 : ¬ (t462 = t475 && (t463 == t476 && (t464.toList == t477.toList))) := by simpa using c43))
                    clear c43
                    exact absurd H (by simp)
                · rw [if_neg c41] at H
                  have c41b0 : (t465 == 0) = false := beq_eq_false_iff_ne.mpr c41
                  have c41b1 : (t465 != 0) = true := bne_iff_ne.mpr c41
                  exact absurd H (by simp)
              · rw [if_neg c40] at H
                have c40b0 : (t454 == t472 && (t455 == t473 && (t456.toList == t474.toList))) = false := by simpa using c40
                (try (have c40b1 : decide (t454 = t472 && (t455 == t473 && (t456.toList == t474.toList))) = false := by simpa using c40))
                (try (have c40b2 : (t454 == t472 && (t455 == t473 && (t456.toList == t474.toList))) = false := by simpa using c40))
                (try (have c40b3 : ¬ (t454 = t472 && (t455 == t473 && (t456.toList == t474.toList))) := by simpa using c40))
                clear c40
                exact absurd H (by simp)
            · rw [if_neg c38] at H
              have c38b0 : (t457 == 0) = false := beq_eq_false_iff_ne.mpr c38
              have c38b1 : (t457 != 0) = true := bne_iff_ne.mpr c38
              exact absurd H (by simp)
          · replace c37 := Bool.eq_false_iff.mpr c37
            subst c37
            have H1 : (none) = some r := by rw [if_neg (show ¬ (false = true) by decide)] at H; exact H
            clear H
            have H := H1
            clear H1
            exact absurd H (by simp)
        · rw [if_neg c31] at H
          have c31b0 : (t438 == 0) = false := beq_eq_false_iff_ne.mpr c31
          have c31b1 : (t438 != 0) = true := bne_iff_ne.mpr c31
          by_cases c81 : t428 = true
          · subst c81
            have H1 : (if (t435 == 0 && (t436 == 0 && (t437.toList == ([] : List UInt8)))) = true then (some true) else (none)) = some r := by rw [if_pos rfl] at H; exact H
            clear H
            have H := H1
            clear H1
            by_cases c82 : (t435 == 0 && (t436 == 0 && (t437.toList == ([] : List UInt8)))) = true
            · rw [if_pos c82] at H
              have c82b0 : (t435 == 0 && (t436 == 0 && (t437.toList == ([] : List UInt8)))) = true := c82
              (try (have c82b1 : (t435 == 0 && (t436 == 0 && (t437.toList.isEmpty))) = true := by simpa using c82))
              (try (have c82b2 : decide (t435 = 0 && (t436 == 0 && (t437.toList.isEmpty))) = true := by simpa using c82))
              (try (have c82b3 : t435 = 0 && (t436 == 0 && (t437.toList.isEmpty)) := by simpa using c82))
              (try (have c82b4 : decide (t435 = 0 && (t436 == 0 && (t437.toList == ([] : List UInt8)))) = true := by simpa using c82))
              (try (have c82b5 : (t435 == 0 && (t436 == 0 && (t437.toList == ([] : List UInt8)))) = true := by simpa using c82))
              clear c82
              obtain rfl := Option.some.inj H
              have hnb83 := NB439_450.out
              have hnc83 := NB450_439.out
              have hcz84_0 : wc.cell? ⟨gb439, 0, none⟩ = some (.int .i64 t435) := (blk_cell BK439.out 0).trans rfl
              have hcz84_1 : wc.cell? ⟨gb439, 1, none⟩ = some (.int .i64 t436) := (blk_cell BK439.out 1).trans rfl
              have hcz84_2 : wc.cell? ⟨gb439, 2, none⟩ = some (.string t437) := (blk_cell BK439.out 2).trans rfl
              have hfz84_0 := blk_frozen BK439.out 0
              have hfz84_1 := blk_frozen BK439.out 1
              have hfz84_2 := blk_frozen BK439.out 2
              go_wp2
              go_ret
              exact ⟨by first | rfl | (simp [errW_none, errW_some] <;> rfl) | (simp [*, errW_none, errW_some] <;> rfl), by repeat (first | (with_reducible first | exact HB.out | apply below_alloc | apply pw_below_drewN | apply below_drew1 | refine below_set ?_ GE439.out | refine below_set ?_ GE450.out) | exact HB.out)⟩
            · rw [if_neg c82] at H
              exact absurd H (by simp)
          · replace c81 := Bool.eq_false_iff.mpr c81
            subst c81
            have H1 : (none) = some r := by rw [if_neg (show ¬ (false = true) by decide)] at H; exact H
            clear H
            have H := H1
            clear H1
            exact absurd H (by simp)

/-- THE ONE PURE STATEMENT of augurylaw04_ValueSums: yours. -/
def augurylaw04_ValueSums.Pure : Prop := ∀ (a0 : Int) (a1 : Int), (Lit.int .i64 a0).wf = true → (Lit.int .i64 a1).wf = true → ∃ k, augurylaw04_ValueSums.f k a0 a1 = some true
theorem augurylaw04_ValueSums.walk (P : augurylaw04_ValueSums.Pure) (a0 : Int) (a1 : Int) (w : World) (w0 : (Lit.int .i64 a0).wf = true) (w1 : (Lit.int .i64 a1).wf = true) :
    Calls Try.prog 7 #[.int .i64 a0, .int .i64 a1] w fun e w' => e = .returned (.bool true) ∧ Below w.heap.size w w' := by
  obtain ⟨k, h⟩ := P a0 a1 w0 w1
  refine (augurylaw04_ValueSums.calls k a0 a1 true w h).mono ?_
  rintro e w' ⟨rfl, hd⟩
  exact ⟨rfl, hd⟩

end Go.Proofs.Ytlbaoekmnfeogaa.PAll
