/- Written by this session's own program (wip/xprint): functions of the Go program as Lean functions, and proofs that the Go code computes them. -/
import Derived.Test.YtbnjhmcbkocdjaaPAllx0
import Derived.Test.YtbnjhmcbkocdjaaPAllx5
import Derived.Test.YtbnjhmcbkocdjaaPAllx6
import Derived.Test.YtbnjhmcbkocdjaaPAllx7
import Derived.Test.YtbnjhmcbkocdjaaPAllx10
import Derived.Test.YtbnjhmcbkocdjaaPAllx19
import Derived.Test.YtbnjhmcbkocdjaaPAllx23
import Derived.Test.YtbnjhmcbkocdjaaPAllx32
import Derived.Test.YtbnjhmcbkocdjaaPAllx33
import Derived.Test.YtbnjhmcbkocdjaaPAllx34
import Derived.Test.YtbnjhmcbkocdjaaPAllx35
import Derived.Test.YtbnjhmcbkocdjaaPAllx36
import Derived.Test.YtbnjhmcbkocdjaaPAllx37
import Derived.Test.YtbnjhmcbkocdjaaPAllx38
import Derived.Test.YtbnjhmcbkocdjaaPAllx39
import Derived.Test.YtbnjhmcbkocdjaaPAllx42
import Derived.Test.YtbnjhmcbkocdjaaPAllx45
namespace Go.Proofs.Ytbnjhmcbkocdjaa.PAll
open Go.RowKit Go.Proofs.YtbnjhmcbkocdjaaW.PrintWords Go.Proofs.YtbnjhmcbkocdjaaW.PrintLast Go.Proofs.YtbnjhmcbkocdjaaW.PrintMore
attribute [local go_sem] max2_int min2_int max_two min_two max_three min_three max_four min_four   -- for this text's walks alone
set_option linter.unusedVariables false
set_option linter.unusedSimpArgs false

/-! ### augurylaw05_EventTells: function 3 -/
mutual
def augurylaw05_EventTells.j0 : Nat → List (S31) → ByteArray → Bool → Bool → Int → Int → Int → ByteArray → List (S52) → Option (Bool)
  | 0, _, _, _, _, _, _, _, _, _ => none
  | k + 1, x0, x2, x7, x28, x434000, x434001, x434002, x434003, x434004 => if x28 = true then (if x7 = true then (some true) else (none)) else ((event_Find.f k x0 x2).bind fun bt437 => ((auguryref05_Find.f k x0 x2).bind fun bt443 => (augurylaw05_EventTells.l0 k x0 x2 x7 bt437.2.2 bt443.2.2 0 x434000 x434001 x434002 x434003 x434004 bt437.1 bt437.2.1 bt443.1 bt443.2.1)))
def augurylaw05_EventTells.l0 : Nat → List (S31) → ByteArray → Bool → Bool → Bool → Int → Int → Int → Int → ByteArray → List (S52) → ByteArray → List (S55) → ByteArray → List (S55) → Option (Bool)
  | 0, _, _, _, _, _, _, _, _, _, _, _, _, _, _, _ => none
  | k + 1, x0, x2, x7, x9, x11, x12, x434000, x434001, x434002, x434003, x434004, x443000, x443001, x449000, x449001 => if x12 < (x0.length : Int) then (if 0 ≤ x12 then ((event_Field.f k ((rd_T31 x0 x12).f0) ((rd_T31 x0 x12).f1) x2).bind fun bt450 => ((auguryref05_Field.f k ((rd_T31 x0 x12).f0) ((rd_T31 x0 x12).f1) x2).bind fun bt453 => (if bt450.1 = bt453.1 then (if bt450.2 = bt453.2 then ((event_Schema.f k ((rd_T31 x0 x12).f0) ((rd_T31 x0 x12).f1)).bind fun t456 => ((auguryref05_Schema.f k ((rd_T31 x0 x12).f0) ((rd_T31 x0 x12).f1)).bind fun t458 => (if (t456 != t458) = true then (none) else (augurylaw05_EventTells.l0 k x0 x2 x7 x9 x11 (wrap64 (x12 + 1)) x434000 x434001 x434002 x434003 x434004 x443000 x443001 x449000 x449001)))) else (none)) else (none)))) else (none)) else (if x7 = true then ((auguryref05_SameSchema.f k x443000 x443001 x449000 x449001).bind fun t459 => (if t459 = true then (if (x9 == x11) = true then ((event_Fits.f k x0 x434000 x434001 x434002 x434003 x434004).bind fun t460 => ((auguryref05_Fits.f k x0 x434000 x434001 x434002 x434003 x434004).bind fun t461 => (if t460 = t461 then ((event_Put.f k x434000 x434001 x434002 x434003 x434004).bind fun t462 => ((auguryref05_Put.f k x434000 x434001 x434002 x434003 x434004).bind fun t465 => (if (strOfNums t462).toList = (strOfNums t465).toList then ((event_Word.f k x2).bind fun t468 => ((auguryref05_Word.f k x2).bind fun t469 => (if (t468 == t469) = true then (some true) else (none)))) else (none)))) else (none)))) else (none)) else (none))) else (none))
end
def augurylaw05_EventTells.f (k : Nat) (l0 : List (S31)) (a1_0 : Int) (a1_1 : Int) (a1_2 : Int) (a1_3 : ByteArray) (l1_4 : List (S52)) (a2 : ByteArray) : Option (Bool) := (augurylaw05_head.f k).bind fun t434 => ((augurylaw05_GreatSchemas.f k l0).bind fun t435 => (if t435 = true then (augurylaw05_EventTells.j0 k l0 a2 t434 true a1_0 a1_1 a1_2 a1_3 l1_4) else ((augurylaw05_GreatEvent.f k a1_0 a1_1 a1_2 a1_3 l1_4).bind fun t436 => (if t436 = true then (augurylaw05_EventTells.j0 k l0 a2 t434 true a1_0 a1_1 a1_2 a1_3 l1_4) else (augurylaw05_EventTells.j0 k l0 a2 t434 (decide ((a2.size : Int) > 3000)) a1_0 a1_1 a1_2 a1_3 l1_4)))))
theorem augurylaw05_EventTells.mono_l : ∀ k, (∀ y0 y1 y2 y3 y4 y5 y6 y7 y8, LeO (augurylaw05_EventTells.j0 k y0 y1 y2 y3 y4 y5 y6 y7 y8) (augurylaw05_EventTells.j0 (k + 1) y0 y1 y2 y3 y4 y5 y6 y7 y8)) ∧ (∀ y0 y1 y2 y3 y4 y5 y6 y7 y8 y9 y10 y11 y12 y13 y14, LeO (augurylaw05_EventTells.l0 k y0 y1 y2 y3 y4 y5 y6 y7 y8 y9 y10 y11 y12 y13 y14) (augurylaw05_EventTells.l0 (k + 1) y0 y1 y2 y3 y4 y5 y6 y7 y8 y9 y10 y11 y12 y13 y14))
  | 0 => ⟨fun _ _ _ _ _ _ _ _ _ r h => by simp [augurylaw05_EventTells.j0] at h, fun _ _ _ _ _ _ _ _ _ _ _ _ _ _ _ r h => by simp [augurylaw05_EventTells.l0] at h⟩
  | k + 1 => by
    obtain ⟨ih0, ih1⟩ := augurylaw05_EventTells.mono_l k
    refine ⟨?_, ?_⟩
    · intro y0 y1 y2 y3 y4 y5 y6 y7 y8
      unfold augurylaw05_EventTells.j0
      repeat' first
      | (with_reducible exact ih0 _ _ _ _ _ _ _ _ _)
      | (with_reducible exact ih1 _ _ _ _ _ _ _ _ _ _ _ _ _ _ _)
      | (with_reducible exact augurylaw05_GreatEvent.mono _ _ _ _ _ _)
      | (with_reducible exact augurylaw05_GreatSchemas.mono _ _)
      | (with_reducible exact augurylaw05_head.mono _)
      | (with_reducible exact auguryref05_Field.mono _ _ _ _)
      | (with_reducible exact auguryref05_Find.mono _ _ _)
      | (with_reducible exact auguryref05_Fits.mono _ _ _ _ _ _ _)
      | (with_reducible exact auguryref05_Put.mono _ _ _ _ _ _)
      | (with_reducible exact auguryref05_SameSchema.mono _ _ _ _ _)
      | (with_reducible exact auguryref05_Schema.mono _ _ _)
      | (with_reducible exact auguryref05_Word.mono _ _)
      | (with_reducible exact event_Field.mono _ _ _ _)
      | (with_reducible exact event_Find.mono _ _ _)
      | (with_reducible exact event_Fits.mono _ _ _ _ _ _ _)
      | (with_reducible exact event_Put.mono _ _ _ _ _ _)
      | (with_reducible exact event_Schema.mono _ _ _)
      | (with_reducible exact event_Word.mono _ _)
      | (with_reducible exact LeO.refl _)
      | (with_reducible exact LeO.none _)
      | (with_reducible refine LeO.ite ?_ ?_)
      | (with_reducible refine LeO.bind ?_ (fun _ => ?_))
      | exact LeO.none _
      | refine LeO.ite ?_ ?_
      | refine LeO.bind ?_ (fun _ => ?_)
    · intro y0 y1 y2 y3 y4 y5 y6 y7 y8 y9 y10 y11 y12 y13 y14
      unfold augurylaw05_EventTells.l0
      repeat' first
      | (with_reducible exact ih0 _ _ _ _ _ _ _ _ _)
      | (with_reducible exact ih1 _ _ _ _ _ _ _ _ _ _ _ _ _ _ _)
      | (with_reducible exact augurylaw05_GreatEvent.mono _ _ _ _ _ _)
      | (with_reducible exact augurylaw05_GreatSchemas.mono _ _)
      | (with_reducible exact augurylaw05_head.mono _)
      | (with_reducible exact auguryref05_Field.mono _ _ _ _)
      | (with_reducible exact auguryref05_Find.mono _ _ _)
      | (with_reducible exact auguryref05_Fits.mono _ _ _ _ _ _ _)
      | (with_reducible exact auguryref05_Put.mono _ _ _ _ _ _)
      | (with_reducible exact auguryref05_SameSchema.mono _ _ _ _ _)
      | (with_reducible exact auguryref05_Schema.mono _ _ _)
      | (with_reducible exact auguryref05_Word.mono _ _)
      | (with_reducible exact event_Field.mono _ _ _ _)
      | (with_reducible exact event_Find.mono _ _ _)
      | (with_reducible exact event_Fits.mono _ _ _ _ _ _ _)
      | (with_reducible exact event_Put.mono _ _ _ _ _ _)
      | (with_reducible exact event_Schema.mono _ _ _)
      | (with_reducible exact event_Word.mono _ _)
      | (with_reducible exact LeO.refl _)
      | (with_reducible exact LeO.none _)
      | (with_reducible refine LeO.ite ?_ ?_)
      | (with_reducible refine LeO.bind ?_ (fun _ => ?_))
      | exact LeO.none _
      | refine LeO.ite ?_ ?_
      | refine LeO.bind ?_ (fun _ => ?_)
theorem augurylaw05_EventTells.mono : ∀ a0 a1 a2 a3 a4 a5 a6 k, LeO (augurylaw05_EventTells.f k a0 a1 a2 a3 a4 a5 a6) (augurylaw05_EventTells.f (k + 1) a0 a1 a2 a3 a4 a5 a6) := by
  intro a0 a1 a2 a3 a4 a5 a6 k
  obtain ⟨ih0, ih1⟩ := augurylaw05_EventTells.mono_l k
  unfold augurylaw05_EventTells.f
  repeat' first
      | (with_reducible exact ih0 _ _ _ _ _ _ _ _ _)
      | (with_reducible exact ih1 _ _ _ _ _ _ _ _ _ _ _ _ _ _ _)
      | (with_reducible exact augurylaw05_GreatEvent.mono _ _ _ _ _ _)
      | (with_reducible exact augurylaw05_GreatSchemas.mono _ _)
      | (with_reducible exact augurylaw05_head.mono _)
      | (with_reducible exact auguryref05_Field.mono _ _ _ _)
      | (with_reducible exact auguryref05_Find.mono _ _ _)
      | (with_reducible exact auguryref05_Fits.mono _ _ _ _ _ _ _)
      | (with_reducible exact auguryref05_Put.mono _ _ _ _ _ _)
      | (with_reducible exact auguryref05_SameSchema.mono _ _ _ _ _)
      | (with_reducible exact auguryref05_Schema.mono _ _ _)
      | (with_reducible exact auguryref05_Word.mono _ _)
      | (with_reducible exact event_Field.mono _ _ _ _)
      | (with_reducible exact event_Find.mono _ _ _)
      | (with_reducible exact event_Fits.mono _ _ _ _ _ _ _)
      | (with_reducible exact event_Put.mono _ _ _ _ _ _)
      | (with_reducible exact event_Schema.mono _ _ _)
      | (with_reducible exact event_Word.mono _ _)
      | (with_reducible exact LeO.refl _)
      | (with_reducible exact LeO.none _)
      | (with_reducible refine LeO.ite ?_ ?_)
      | (with_reducible refine LeO.bind ?_ (fun _ => ?_))
      | exact LeO.none _
      | refine LeO.ite ?_ ?_
      | refine LeO.bind ?_ (fun _ => ?_)
def augurylaw05_EventTells.T11 : Bool × List (List Nat × List Nat) := (true, [([], []), ([], []), ([0, 1], [0, 1]), ([2], [2]), ([3], [3]), ([3], [3]), ([4, 5, 3], [3, 4, 5]), ([3, 6], [3, 6]), ([7, 3], [7]), ([8], [8]), ([8], [8]), ([9, 10, 8], [8, 9, 10]), ([11, 8], [8, 11]), ([12, 8, 8], [8, 12]), ([8], [8]), ([8], [8]), ([14, 15, 8], [8, 14, 15]), ([16, 8], [8, 16]), ([17, 13, 8], [8, 17]), ([13, 18, 8], [8, 13, 18]), ([8, 19], [8, 19])])
def augurylaw05_EventTells.B11 : List Nat := [0, 0, 3, 7, 15, 15, 63, 127, 255, 511, 511, 2047, 4095, 8191, 511, 511, 49663, 115199, 262143, 524287, 1048575]
theorem augurylaw05_EventTells.tab11 : rtab .any (opsOf Try.f3 11) = augurylaw05_EventTells.T11 := by kernel_rfl
theorem augurylaw05_EventTells.bits11 : waitsOk augurylaw05_EventTells.T11.2 augurylaw05_EventTells.B11 = true := by kernel_rfl
def augurylaw05_EventTells.T13 : Bool × List (List Nat × List Nat) := (true, [([], []), ([0], [0]), ([1], [1]), ([1], [1]), ([2, 3, 1, 1], [1, 2, 3]), ([1, 4], [1, 4]), ([5, 4], [5]), ([6], [6]), ([6], [6]), ([7, 8, 6], [6, 7, 8]), ([6, 9], [6, 9]), ([10, 6], [10]), ([11], [11]), ([11], [11]), ([12, 13, 11, 11], [11, 12, 13]), ([11], [11]), ([11], [11]), ([15, 16, 14, 11], [11, 15, 16]), ([14, 17, 11], [11, 14, 17]), ([11, 18], [11, 18]), ([19, 17], [19]), ([20], [20]), ([21, 20, 20], [20, 21]), ([22, 20], [20, 22]), ([20], [20]), ([24, 22, 20], [20, 24]), ([25, 20], [20, 25]), ([23, 26, 20], [20, 23, 26]), ([20, 27], [20, 27]), ([28, 25], [28]), ([29], [29]), ([30, 29, 29], [29, 30]), ([29], [29]), ([32, 31, 29], [29, 32]), ([31, 33, 29], [29, 31, 33]), ([29, 34], [29, 34]), ([35, 33, 0, 1, 2, 3, 4, 5, 6, 7, 8, 9, 10, 11, 12, 13, 14, 15, 16, 17, 18, 19, 20, 21, 22, 23, 24, 25, 26, 27, 28, 29, 30, 31, 32, 33, 34, 35], [35])])
def augurylaw05_EventTells.B13 : List Nat := [0, 1, 3, 3, 15, 31, 63, 127, 127, 511, 1023, 2047, 4095, 4095, 16383, 4095, 4095, 131071, 262143, 524287, 1048575, 2097151, 4194303, 8388607, 2097151, 25165823, 58720255, 134217727, 268435455, 536870911, 1073741823, 2147483647, 1073741823, 8589934591, 17179869183, 34359738367, 68719476735]
theorem augurylaw05_EventTells.tab13 : rtab .any (opsOf Try.f3 13) = augurylaw05_EventTells.T13 := by kernel_rfl
theorem augurylaw05_EventTells.bits13 : waitsOk augurylaw05_EventTells.T13.2 augurylaw05_EventTells.B13 = true := by kernel_rfl
set_option maxHeartbeats 8000000 in
set_option maxRecDepth 100000 in
theorem augurylaw05_EventTells.calls (k : Nat) (A0 : Option Addr) (c0 : Nat) (l0 : List (S31)) (a1_0 : Int) (a1_1 : Int) (a1_2 : Int) (a1_3 : ByteArray) (A1_4 : Option Addr) (c1_4 : Nat) (l1_4 : List (S52)) (a2 : ByteArray) (r : Bool) (w : World) (hr0 : Kd.C k31 w A0 l0.length l0) (hc0 : l0.length ≤ c0) (hr1_4 : Kd.C k52 w A1_4 l1_4.length l1_4) (hc1_4 : l1_4.length ≤ c1_4) (h : augurylaw05_EventTells.f k l0 a1_0 a1_1 a1_2 a1_3 l1_4 a2 = some r) :
    Calls Try.prog 3 #[.slice A0 l0.length c0, .agg #[.int .i64 a1_0, .int .i64 a1_1, .int .i64 a1_2, .string a1_3, .slice A1_4 l1_4.length c1_4], .string a2] w fun e w' => e = .returned (.bool r) ∧ Below w.heap.size w w' := by
  have hu25 := Try.underlying25
  have hu31 := Try.underlying31
  have HR0 := Aside0.mk hr0
  have HC0 := Aside0.mk hc0
  clear hr0 hc0
  have HR1_4 := Aside0.mk hr1_4
  have HC1_4 := Aside0.mk hc1_4
  clear hr1_4 hc1_4
  have HB := Aside0.mk (Below.refl w.heap.size w)
  have H : ((augurylaw05_head.f k).bind fun t434 => ((augurylaw05_GreatSchemas.f k l0).bind fun t435 => (if t435 = true then (augurylaw05_EventTells.j0 k l0 a2 t434 true a1_0 a1_1 a1_2 a1_3 l1_4) else ((augurylaw05_GreatEvent.f k a1_0 a1_1 a1_2 a1_3 l1_4).bind fun t436 => (if t436 = true then (augurylaw05_EventTells.j0 k l0 a2 t434 true a1_0 a1_1 a1_2 a1_3 l1_4) else (augurylaw05_EventTells.j0 k l0 a2 t434 (decide ((a2.size : Int) > 3000)) a1_0 a1_1 a1_2 a1_3 l1_4)))))) = some r := h
  clear h
  replace H := Option.bind_eq_some_iff.mp H
  obtain ⟨t434, A4, H⟩ := H
  (try dsimp only at H)
  replace A4 := Aside0.mk A4
  have HC5 := Aside0.mk H
  clear H
  go_enter Try.func3, Try.ntmps3
  go_upto_region 2 with (first | ((with_reducible refine gate_dst (N := 4) rfl ?_); (try (refine gate_guard (by rfl) ?_; dsimp only)); refine box_event ?hg (N := 4) ?hd (cs := #[.int .i64 a1_0, .int .i64 a1_1, .int .i64 a1_2, .string a1_3, .slice A1_4 l1_4.length c1_4]) (t := 25) ?hr ?_; (case hd => rfl); (case hg => rfl); (case hr => first | (go_simp; done) | (go_simp; rfl)); intro gb433 hg w6 hbox hb; have BK433 := Aside0.mk (hbox); have GW433 := hG HB hg; have GE433 := hG HB hg; replace HB := hB HB hb; clear hb hbox hg) | ((with_reducible refine gate_callee (f := 9) rfl ?_); refine goesL_ (some 17) rfl rfl Try.func9 (by kernel_rfl) rfl #[] rfl (by (try simp only [List.map_toArray, List.map_cons, List.map_nil]); first | done | rfl | (simp only [List.length_drop, List.length_take]; rfl)) ?_; (with_reducible refine (augurylaw05_head.calls k  t434 _ A4.out).mono ?_); rintro e w7 ⟨rfl, hb⟩; refine ⟨_, rfl, ?_⟩; replace BK433 := bb BK433 hb; replace HB := hB HB hb; (try clear hb); (try clear hb2); (try clear hk); (try clear hi)))
  (try simp only [Act.put, List.setIfInBounds_toArray, List.set_cons_zero, List.set_cons_succ])
  go_cut [28] (fun v28 wc => ∃ (kq : Nat) (x28_4 : Bool), v28 = .bool x28_4 ∧ Aside0 (augurylaw05_EventTells.j0 kq l0 a2 t434 x28_4 a1_0 a1_1 a1_2 a1_3 l1_4 = some r) ∧ Aside0 (kq ≤ k) ∧ Aside0 (wc.heap[gb433]? = some (.cells #[.int .i64 a1_0, .int .i64 a1_1, .int .i64 a1_2, .string a1_3, (.slice A1_4 l1_4.length c1_4)] 25 (0, 0))) ∧ Aside0 (Below w.heap.size w wc))
  case first =>
   have H := HC5.out
   clear HC5
   replace H := Option.bind_eq_some_iff.mp H
   obtain ⟨t435, A8, H⟩ := H
   (try dsimp only at H)
   replace A8 := Aside0.mk A8
   by_cases c9 : t435 = true
   ·subst c9
    rw [if_pos rfl] at H
    have H' := Aside0.mk H
    clear H
    go_wp2_with (first | ((with_reducible refine gate_callee (f := 10) rfl ?_); refine goesL_ (some 19) rfl rfl Try.func10 (by kernel_rfl) rfl #[.slice A0 l0.length c0] rfl (by (try simp only [List.map_toArray, List.map_cons, List.map_nil]); first | done | rfl | (simp only [List.length_drop, List.length_take]; rfl)) ?_; (with_reducible refine (augurylaw05_GreatSchemas.calls k _ _ l0 true _ ?side1 ?side2 A8.out).mono ?_); (case side1 => repeat (first | exact (Kd.C_below HR0.out HB.out) | (with_reducible refine Kd.C_alloc ?_ _) | (with_reducible refine Kd.C_drewN ?_ _) | (with_reducible refine Kd.C_drew ?_))); (case side2 => exact HC0.out); rintro e w10 ⟨rfl, hb⟩; refine ⟨_, rfl, ?_⟩; replace BK433 := bb BK433 hb; replace HB := hB HB hb; (try clear hb); (try clear hb2); (try clear hk); (try clear hi)))
    go_meet
    case rel => exact ⟨_, (true), (by first | rfl | (simp; done) | (simp [*]; done) | grind), H', ⟨by first | omega | exact Nat.le_refl _⟩, ⟨pl_blk BK433.out⟩, ⟨pl_below HB.out⟩⟩
   ·replace c9 := Bool.eq_false_iff.mpr c9
    subst c9
    rw [if_neg (show ¬ (false = true) by decide)] at H
    replace H := Option.bind_eq_some_iff.mp H
    obtain ⟨t436, A11, H⟩ := H
    (try dsimp only at H)
    replace A11 := Aside0.mk A11
    by_cases c12 : t436 = true
    ·subst c12
     rw [if_pos rfl] at H
     have H' := Aside0.mk H
     clear H
     go_wp2_with (first | ((with_reducible refine gate_callee (f := 10) rfl ?_); refine goesL_ (some 19) rfl rfl Try.func10 (by kernel_rfl) rfl #[.slice A0 l0.length c0] rfl (by (try simp only [List.map_toArray, List.map_cons, List.map_nil]); first | done | rfl | (simp only [List.length_drop, List.length_take]; rfl)) ?_; (with_reducible refine (augurylaw05_GreatSchemas.calls k _ _ l0 false _ ?side1 ?side2 A8.out).mono ?_); (case side1 => repeat (first | exact (Kd.C_below HR0.out HB.out) | (with_reducible refine Kd.C_alloc ?_ _) | (with_reducible refine Kd.C_drewN ?_ _) | (with_reducible refine Kd.C_drew ?_))); (case side2 => exact HC0.out); rintro e w13 ⟨rfl, hb⟩; refine ⟨_, rfl, ?_⟩; replace BK433 := bb BK433 hb; replace HB := hB HB hb; (try clear hb); (try clear hb2); (try clear hk); (try clear hi); obtain ⟨hcz14_0, hcz14_1, hcz14_2, hcz14_3, hcz14_4, hfz14_0, hfz14_1, hfz14_2, hfz14_3, hfz14_4⟩ := blk_c5 BK433.out) | (go_at_call 11; (with_reducible refine (augurylaw05_GreatEvent.calls k a1_0 a1_1 a1_2 a1_3 _ _ l1_4 true _ ?side1 ?side2 A11.out).mono ?_); (case side1 => repeat (first | exact (Kd.C_below HR1_4.out HB.out) | (with_reducible refine Kd.C_alloc ?_ _) | (with_reducible refine Kd.C_drewN ?_ _) | (with_reducible refine Kd.C_drew ?_))); (case side2 => exact HC1_4.out); rintro e w15 ⟨rfl, hb⟩; replace BK433 := bb BK433 hb; replace HB := hB HB hb; (try clear hb); (try clear hb2); (try clear hk); (try clear hi)))
     go_meet
     case rel => exact ⟨_, (true), (by first | rfl | (simp; done) | (simp [*]; done) | grind), H', ⟨by first | omega | exact Nat.le_refl _⟩, ⟨pl_blk BK433.out⟩, ⟨pl_below HB.out⟩⟩
    ·replace c12 := Bool.eq_false_iff.mpr c12
     subst c12
     rw [if_neg (show ¬ (false = true) by decide)] at H
     have H' := Aside0.mk H
     clear H
     go_wp2_with (first | ((with_reducible refine gate_callee (f := 10) rfl ?_); refine goesL_ (some 19) rfl rfl Try.func10 (by kernel_rfl) rfl #[.slice A0 l0.length c0] rfl (by (try simp only [List.map_toArray, List.map_cons, List.map_nil]); first | done | rfl | (simp only [List.length_drop, List.length_take]; rfl)) ?_; (with_reducible refine (augurylaw05_GreatSchemas.calls k _ _ l0 false _ ?side1 ?side2 A8.out).mono ?_); (case side1 => repeat (first | exact (Kd.C_below HR0.out HB.out) | (with_reducible refine Kd.C_alloc ?_ _) | (with_reducible refine Kd.C_drewN ?_ _) | (with_reducible refine Kd.C_drew ?_))); (case side2 => exact HC0.out); rintro e w16 ⟨rfl, hb⟩; refine ⟨_, rfl, ?_⟩; replace BK433 := bb BK433 hb; replace HB := hB HB hb; (try clear hb); (try clear hb2); (try clear hk); (try clear hi); obtain ⟨hcz17_0, hcz17_1, hcz17_2, hcz17_3, hcz17_4, hfz17_0, hfz17_1, hfz17_2, hfz17_3, hfz17_4⟩ := blk_c5 BK433.out) | (go_at_call 11; (with_reducible refine (augurylaw05_GreatEvent.calls k a1_0 a1_1 a1_2 a1_3 _ _ l1_4 false _ ?side1 ?side2 A11.out).mono ?_); (case side1 => repeat (first | exact (Kd.C_below HR1_4.out HB.out) | (with_reducible refine Kd.C_alloc ?_ _) | (with_reducible refine Kd.C_drewN ?_ _) | (with_reducible refine Kd.C_drew ?_))); (case side2 => exact HC1_4.out); rintro e w18 ⟨rfl, hb⟩; replace BK433 := bb BK433 hb; replace HB := hB HB hb; (try clear hb); (try clear hb2); (try clear hk); (try clear hi)))
     go_meet
     case rel => exact ⟨_, (decide ((a2.size : Int) > 3000)), (by first | rfl | (simp; done) | (simp [*]; done) | grind), H', ⟨by first | omega | exact Nat.le_refl _⟩, ⟨pl_blk BK433.out⟩, ⟨pl_below HB.out⟩⟩
  case rest =>
   clear HC5
   (try clear c1); (try clear p2); (try clear c3); (try clear c5); (try clear c9); (try clear c10); (try clear c12); (try clear hcz14_0 hcz14_1 hcz14_2 hcz14_3 hcz14_4 hfz14_0 hfz14_1 hfz14_2 hfz14_3 hfz14_4); (try clear hcz17_0 hcz17_1 hcz17_2 hcz17_3 hcz17_4 hfz17_0 hfz17_1 hfz17_2 hfz17_3 hfz17_4)
   obtain ⟨kq, x28_4, rfl, HA, HJ4, BK433, HB⟩ := hcut
   cases kq with
   | zero => exact absurd HA.out (by simp [augurylaw05_EventTells.j0])
   | succ kj4 =>
    have H := HA.out
    clear HA
    simp only [augurylaw05_EventTells.j0] at H
    by_cases c19 : x28_4 = true
    ·subst c19
     rw [if_pos rfl] at H
     by_cases c20 : t434 = true; rotate_left
     ·rw [if_neg c20] at H; cases H
     subst c20
     rw [if_pos rfl] at H
     obtain rfl := Option.some.inj H
     go_wp2
     go_ret
     exact ⟨by first | rfl | (simp [errW_none, errW_some] <;> rfl) | (simp [*, errW_none, errW_some] <;> rfl), pl_below HB.out⟩
    ·replace c19 := Bool.eq_false_iff.mpr c19
     subst c19
     rw [if_neg (show ¬ (false = true) by decide)] at H
     replace H := Option.bind_eq_some_iff.mp H
     obtain ⟨⟨t437, t438, t441⟩, A21, H⟩ := H
     (try dsimp only at H)
     replace A21 := Aside0.mk A21
     replace H := Option.bind_eq_some_iff.mp H
     obtain ⟨⟨t443, t444, t447⟩, A22, H⟩ := H
     (try dsimp only at H)
     replace A22 := Aside0.mk A22
     have H' := Aside0.mk H
     clear H
     go_wp2_with (first | ((with_reducible refine gate_callee (f := 12) rfl ?_); refine goesL_ (some 33) rfl rfl Try.func12 (by kernel_rfl) rfl #[.slice A0 l0.length c0, .string a2] rfl (by (try simp only [List.map_toArray, List.map_cons, List.map_nil]); first | done | rfl | (simp only [List.length_drop, List.length_take]; rfl)) ?_; (with_reducible refine (event_Find.calls kj4 (fun k_ => k_ < w.heap.size) _ _ l0 a2 t437 t438 t441 _ ?side1 A21.out).mono ?_); (case side1 => exact Kd.V_mk HC0.out (Kd.F_below (Kd.C_F k31_heap HR0.out) (pl_below HB.out))); rintro e w23 ⟨v439, rfl, ho0, hb⟩; refine ⟨_, rfl, ?_⟩; have HO440 := Aside0.mk (Kd.V_lower (Kd.V_mono (ok' := fun k_ => k_ ≠ gb433) ho0 (fun k_ hk_ => Or.elim hk_ (fun hs_ => fun e_ => Nat.not_le.2 hs_ (by rw [e_]; exact GW433.out)) (fun hn_ => (Kd.freshB (pl_blk BK433.out) k_ hn_)))) (below_size (pl_below HB.out))); replace BK433 := bb BK433 hb; replace HB := hB HB hb; (try clear hb); (try clear hb2); (try clear hk); (try clear hi); (try clear ho0)) | ((with_reducible refine gate_dst (N := 8) rfl ?_); (try (refine gate_guard (by rfl) ?_; dsimp only)); refine box_event ?hg (N := 8) ?hd (cs := #[.string (⟨#[]⟩ : ByteArray), .slice none 0 0]) (t := 31) ?hr ?_; (case hd => rfl); (case hg => rfl); (case hr => first | (go_simp; done) | (go_simp; rfl)); intro gb442 hg w24 hbox hb; replace HO440 := Aside0.mk (Kd.V_below (Kd.V_elderB (Kd.pl_V HO440.out) gb442 (Nat.le_of_eq hg.symm)) hb); have BK442 := Aside0.mk (hbox); have GW442 := hG HB hg; have GE442 := hG HB hg; replace HB := hB HB hb; have NB433_442 := hN BK433 hg; have NB442_433 := hM BK433 hg; replace BK433 := bb BK433 hb; clear hb hbox hg; have hnb25 := NB442_433.out; have hnc25 := NB433_442.out; obtain ⟨hcz26_0, hcz26_1, hfz26_0, hfz26_1⟩ := blk_c2 BK442.out; obtain ⟨Ao27, co27, eo27⟩ := Kd.V_slice HO440.out; subst eo27) | ((with_reducible refine gate_store (t := 31) (p := 8) rfl ?_); refine store_event (t := 31) (p := 8) (v := ?vo_w28) (w1 := ((w24.setCell ⟨gb442, 0, none⟩ (.string t437)).setCell ⟨gb442, 1, none⟩ (.slice Ao27 t438.length co27))) ?hg ?ho ?hn ?hr ?_; (case ho => rfl); (case hg => rfl); (case hn => rfl); (case hr => first | (go_simp; done) | (go_simp; rfl)); intro w28 hw; have n0_ : Aside0 (Kd.V k55 55 w28 w.heap.size (fun k_ => k_ ≠ gb433 ∧ k_ ≠ gb442) (.slice Ao27 t438.length co27) t438) := ⟨(by rw [hw]; exact (by (with_reducible repeat (first | apply Kd.V_alloc | apply Kd.V_drewN | apply Kd.V_drew)); exact Kd.V_mono (Kd.V_far (p := ⟨gb442, 1, none⟩) (Kd.V_far (p := ⟨gb442, 0, none⟩) (Kd.V_mono HO440.out (fun k_ hk => (⟨hk, hk.2⟩ : _ ∧ k_ ≠ gb442))) (fun _ hk => hk.2) (.string t437)) (fun _ hk => hk.2) (.slice Ao27 t438.length co27)) (fun _ hk => ⟨hk.1.1, hk.1.2⟩)))⟩; have n1_ : Aside0 (w28.heap[gb433]? = some (.cells #[.int .i64 a1_0, .int .i64 a1_1, .int .i64 a1_2, .string a1_3, .slice A1_4 l1_4.length c1_4] 25 (0, 0))) := ⟨(by rw [hw]; exact (pl_blk (blk_far (p := ⟨gb442, 1, none⟩) (blk_far (p := ⟨gb442, 0, none⟩) BK433.out NB433_442.out (.string t437)) NB433_442.out (.slice Ao27 t438.length co27))))⟩; have n2_ : Aside0 (w28.heap[gb442]? = some (.cells #[.string t437, .slice Ao27 t438.length co27] 31 (0, 0))) := ⟨(by rw [hw]; exact (pl_blk (blk_put (blk_put BK442.out 0 (.string t437) rfl) 1 (.slice Ao27 t438.length co27) rfl)))⟩; have n3_ : Aside0 (Below w.heap.size w w28) := ⟨(by rw [hw]; exact (by repeat (first | (with_reducible first | exact HB.out | apply below_alloc | apply pw_below_drewN | apply below_drew1 | refine below_set ?_ GE442.out) | exact HB.out)))⟩; clear hw; clear HO440; clear BK433; clear BK442; clear HB; have HO440 := n0_; have BK433 := n1_; have BK442 := n2_; have HB := n3_; clear n0_ n1_ n2_ n3_) | ((with_reducible refine gate_callee (f := 13) rfl ?_); refine goesL_ (some 39) rfl rfl Try.func13 (by kernel_rfl) rfl #[.slice A0 l0.length c0, .string a2] rfl (by (try simp only [List.map_toArray, List.map_cons, List.map_nil]); first | done | rfl | (simp only [List.length_drop, List.length_take]; rfl)) ?_; (with_reducible refine (auguryref05_Find.calls kj4 (fun k_ => k_ < w.heap.size) _ _ l0 a2 t443 t444 t447 _ ?side1 A22.out).mono ?_); (case side1 => exact Kd.V_mk HC0.out (Kd.F_below (Kd.C_F k31_heap HR0.out) (pl_below HB.out))); rintro e w29 ⟨v445, rfl, ho0, hb⟩; refine ⟨_, rfl, ?_⟩; replace HO440 := Aside0.mk (Kd.V_below (Kd.pl_V HO440.out) hb); have HO446 := Aside0.mk (Kd.V_lower (Kd.V_mono (ok' := fun k_ => k_ ≠ gb433 ∧ k_ ≠ gb442) ho0 (fun k_ hk_ => ⟨Or.elim hk_ (fun hs_ => fun e_ => Nat.not_le.2 hs_ (by rw [e_]; exact GW433.out)) (fun hn_ => (Kd.freshB (pl_blk BK433.out) k_ hn_)), Or.elim hk_ (fun hs_ => fun e_ => Nat.not_le.2 hs_ (by rw [e_]; exact GW442.out)) (fun hn_ => (Kd.freshB (pl_blk BK442.out) k_ hn_))⟩)) (below_size (pl_below HB.out))); replace BK433 := bb BK433 hb; replace BK442 := bb BK442 hb; replace HB := hB HB hb; (try clear hb); (try clear hb2); (try clear hk); (try clear hi); (try clear ho0)) | ((with_reducible refine gate_dst (N := 10) rfl ?_); (try (refine gate_guard (by rfl) ?_; dsimp only)); refine box_event ?hg (N := 10) ?hd (cs := #[.string (⟨#[]⟩ : ByteArray), .slice none 0 0]) (t := 31) ?hr ?_; (case hd => rfl); (case hg => rfl); (case hr => first | (go_simp; done) | (go_simp; rfl)); intro gb448 hg w30 hbox hb; replace HO440 := Aside0.mk (Kd.V_below (Kd.V_elderB (Kd.pl_V HO440.out) gb448 (Nat.le_of_eq hg.symm)) hb); replace HO446 := Aside0.mk (Kd.V_below (Kd.V_elderB (Kd.pl_V HO446.out) gb448 (Nat.le_of_eq hg.symm)) hb); have BK448 := Aside0.mk (hbox); have GW448 := hG HB hg; have GE448 := hG HB hg; replace HB := hB HB hb; have NB433_448 := hN BK433 hg; have NB448_433 := hM BK433 hg; replace BK433 := bb BK433 hb; have NB442_448 := hN BK442 hg; have NB448_442 := hM BK442 hg; replace BK442 := bb BK442 hb; clear hb hbox hg; have hnb31 := NB448_433.out; have hnc31 := NB433_448.out; have hnb32 := NB448_442.out; have hnc32 := NB442_448.out; obtain ⟨hcz33_0, hcz33_1, hfz33_0, hfz33_1⟩ := blk_c2 BK448.out; obtain ⟨Ao34, co34, eo34⟩ := Kd.V_slice HO446.out; subst eo34))
     go_loopg [12] kj4 (fun kq v12 w' => ∃ (x12_2 : Int), v12 = .int .i64 x12_2 ∧ Aside0 (augurylaw05_EventTells.l0 kq l0 a2 t434 t441 t447 x12_2 a1_0 a1_1 a1_2 a1_3 l1_4 t437 t438 t443 t444 = some r) ∧ Aside0 (kq ≤ kj4) ∧ Aside0 (Kd.V k55 55 w' w.heap.size (fun k_ => k_ ≠ gb433 ∧ k_ ≠ gb442 ∧ k_ ≠ gb448) (.slice Ao27 t438.length co27) t438) ∧ Aside0 (Kd.V k55 55 w' w.heap.size (fun k_ => k_ ≠ gb433 ∧ k_ ≠ gb442 ∧ k_ ≠ gb448) (.slice Ao34 t444.length co34) t444) ∧ Aside0 (w'.heap[gb433]? = some (.cells #[.int .i64 a1_0, .int .i64 a1_1, .int .i64 a1_2, .string a1_3, (.slice A1_4 l1_4.length c1_4)] 25 (0, 0))) ∧ Aside0 (w'.heap[gb442]? = some (.cells #[.string t437, (.slice Ao27 t438.length co27)] 31 (0, 0))) ∧ Aside0 (w'.heap[gb448]? = some (.cells #[.string t443, (.slice Ao34 t444.length co34)] 31 (0, 0))) ∧ Aside0 (Below w.heap.size w w'))
     case atStart => exact ⟨(0), (by first | rfl | (simp; done) | (simp [*]; done) | grind), H', ⟨Nat.le_refl _⟩, ⟨by (with_reducible repeat (first | apply Kd.V_alloc | apply Kd.V_drewN | apply Kd.V_drew)); exact Kd.V_mono (Kd.V_far (p := ⟨gb448, 1, none⟩) (Kd.V_far (p := ⟨gb448, 0, none⟩) (Kd.V_mono HO440.out (fun k_ hk => (⟨hk, hk.2⟩ : _ ∧ k_ ≠ gb448))) (fun _ hk => hk.2) (.string t443)) (fun _ hk => hk.2) (.slice Ao34 t444.length co34)) (fun _ hk => ⟨hk.1.1.1, ⟨hk.1.1.2, hk.1.2⟩⟩)⟩, ⟨by (with_reducible repeat (first | apply Kd.V_alloc | apply Kd.V_drewN | apply Kd.V_drew)); exact Kd.V_mono (Kd.V_far (p := ⟨gb448, 1, none⟩) (Kd.V_far (p := ⟨gb448, 0, none⟩) (Kd.V_mono HO446.out (fun k_ hk => (⟨hk, hk.2⟩ : _ ∧ k_ ≠ gb448))) (fun _ hk => hk.2) (.string t443)) (fun _ hk => hk.2) (.slice Ao34 t444.length co34)) (fun _ hk => ⟨hk.1.1.1, ⟨hk.1.1.2, hk.1.2⟩⟩)⟩, ⟨pl_blk (blk_far (p := ⟨gb448, 1, none⟩) (blk_far (p := ⟨gb448, 0, none⟩) BK433.out NB433_448.out (.string t443)) NB433_448.out (.slice Ao34 t444.length co34))⟩, ⟨pl_blk (blk_far (p := ⟨gb448, 1, none⟩) (blk_far (p := ⟨gb448, 0, none⟩) BK442.out NB442_448.out (.string t443)) NB442_448.out (.slice Ao34 t444.length co34))⟩, ⟨pl_blk (blk_put (blk_put BK448.out 0 (.string t443) rfl) 1 (.slice Ao34 t444.length co34) rfl)⟩, ⟨by repeat (first | (with_reducible first | exact HB.out | apply below_alloc | apply pw_below_drewN | apply below_drew1 | refine below_set ?_ GE448.out) | exact HB.out)⟩⟩
     case round =>
      clear H'
      (try clear c1); (try clear c2); (try clear p2); (try clear c3); (try clear c5); (try clear c9); (try clear c10); (try clear c12); (try clear c13); (try clear c19); (try clear c20); (try clear c25); (try clear c31); (try clear c32); (try clear hcz14_0 hcz14_1 hcz14_2 hcz14_3 hcz14_4 hfz14_0 hfz14_1 hfz14_2 hfz14_3 hfz14_4); (try clear hcz17_0 hcz17_1 hcz17_2 hcz17_3 hcz17_4 hfz17_0 hfz17_1 hfz17_2 hfz17_3 hfz17_4); (try clear hcz26_0 hcz26_1 hfz26_0 hfz26_1); (try clear hcz33_0 hcz33_1 hfz33_0 hfz33_1)
      obtain ⟨x12_2, rfl, HA, HK2, HO_443001, HO_449001, BK433, BK442, BK448, HB⟩ := hrel
      cases gk with
      | zero => exact absurd HA.out (by simp [augurylaw05_EventTells.l0])
      | succ k2 =>
       have H := HA.out
       clear HA
       simp only [augurylaw05_EventTells.l0] at H
       by_cases c35 : x12_2 < (l0.length : Int)
       ·rw [if_pos c35] at H
        have c35b0 : decide (x12_2 < (l0.length : Int)) = true := decide_eq_true c35
        clear c35
        by_cases c36 : 0 ≤ x12_2; rotate_left
        ·rw [if_neg c36] at H; cases H
        rw [if_pos c36] at H
        have c36b0 : decide (0 ≤ x12_2) = true := decide_eq_true c36
        clear c36
        replace H := Option.bind_eq_some_iff.mp H
        obtain ⟨⟨t450, t451⟩, A37, H⟩ := H
        (try dsimp only at H)
        replace A37 := Aside0.mk A37
        replace H := Option.bind_eq_some_iff.mp H
        obtain ⟨⟨t453, t454⟩, A38, H⟩ := H
        (try dsimp only at H)
        replace A38 := Aside0.mk A38
        by_cases c39 : t450 = t453
        ·rw [if_pos c39] at H
         have c39b0 : (t450 == t453) = true := beq_iff_eq.mpr c39
         have c39b1 : (t450 != t453) = false := bne_eq_false_iff_eq.mpr c39
         clear c39
         by_cases c40 : t451 = t454
         ·rw [if_pos c40] at H
          have c40b0 : (t451 == t454) = true := beq_iff_eq.mpr c40
          have c40b1 : (t451 != t454) = false := bne_eq_false_iff_eq.mpr c40
          clear c40
          replace H := Option.bind_eq_some_iff.mp H
          obtain ⟨t456, A41, H⟩ := H
          (try dsimp only at H)
          replace A41 := Aside0.mk A41
          replace H := Option.bind_eq_some_iff.mp H
          obtain ⟨t458, A42, H⟩ := H
          (try dsimp only at H)
          replace A42 := Aside0.mk A42
          by_cases c43 : (t456 != t458) = true
          ·rw [if_pos c43] at H; cases H
          rw [if_neg c43] at H
          have c43b0 : (t456 != t458) = false := by simpa using c43
          (try (have c43b1 : decide (t456 = t458) = true := by simpa using c43))
          (try (have c43b2 : (t456 == t458) = true := by simpa using c43))
          clear c43
          have H' := Aside0.mk H
          clear H
          have p449 : 0 ≤ (x12_2 : Int) := of_decide_eq_true (by first | (with_reducible assumption) | assumption)
          have q449 : x12_2 < (l0.length : Int) := of_decide_eq_true (by first | (with_reducible assumption) | assumption)
          obtain ⟨ad449, A449_1, c449_1, e449, hx449_0, hx449_1, hl449_1, hi449_1⟩ := at_T31 HR0.out x12_2 p449 q449
          cases e449
          replace hx449_0 := (HB.out.cell (World.block_lt_of_cell? w _ hx449_0)).trans hx449_0
          replace hx449_1 := (HB.out.cell (World.block_lt_of_cell? w _ hx449_1)).trans hx449_1
          have HR449_1 := Aside0.mk hi449_1
          have HC449_1 := Aside0.mk hl449_1
          clear hi449_1 hl449_1
          replace p449 := eq_true p449
          replace q449 := eq_true q449
          try go_wp2_with (first | ((with_reducible refine gate_callee (f := 14) rfl ?_); refine goesL_ (some 54) rfl rfl Try.func14 (by kernel_rfl) rfl #[.agg #[.string ((rd_T31 l0 x12_2).f0), .slice A449_1 ((rd_T31 l0 x12_2).f1).length c449_1], .string a2] rfl (by (try simp only [List.map_toArray, List.map_cons, List.map_nil]); first | done | rfl | (simp only [List.length_drop, List.length_take]; rfl)) ?_; (with_reducible refine (event_Field.calls k2 ((rd_T31 l0 x12_2).f0) _ _ ((rd_T31 l0 x12_2).f1) a2 t450 t451 _ ?side1 ?side2 A37.out).mono ?_); (case side1 => repeat (first | exact (Kd.C_below HR449_1.out HB.out) | (with_reducible refine Kd.C_alloc ?_ _) | (with_reducible refine Kd.C_drewN ?_ _) | (with_reducible refine Kd.C_drew ?_))); (case side2 => exact HC449_1.out); rintro e w44 ⟨rfl, hb⟩; refine ⟨_, rfl, ?_⟩; replace HO_443001 := Aside0.mk (Kd.V_below (Kd.pl_V HO_443001.out) hb); replace HO_449001 := Aside0.mk (Kd.V_below (Kd.pl_V HO_449001.out) hb); replace BK433 := bb BK433 hb; replace BK442 := bb BK442 hb; replace BK448 := bb BK448 hb; replace HB := hB HB hb; (try clear hb); (try clear hb2); (try clear hk); (try clear hi); have p452 : 0 ≤ (x12_2 : Int) := of_decide_eq_true (by first | (with_reducible assumption) | assumption); have q452 : x12_2 < (l0.length : Int) := of_decide_eq_true (by first | (with_reducible assumption) | assumption); obtain ⟨ad452, A452_1, c452_1, e452, hx452_0, hx452_1, hl452_1, hi452_1⟩ := at_T31 HR0.out x12_2 p452 q452; obtain rfl : ad449 = ad452 := (by injection e452); replace hx452_0 := (HB.out.cell (World.block_lt_of_cell? w _ hx452_0)).trans hx452_0; replace hx452_1 := (HB.out.cell (World.block_lt_of_cell? w _ hx452_1)).trans hx452_1; have HR452_1 := Aside0.mk hi452_1; have HC452_1 := Aside0.mk hl452_1; clear hi452_1 hl452_1; replace p452 := eq_true p452; replace q452 := eq_true q452) | ((with_reducible refine gate_callee (f := 15) rfl ?_); refine goesL_ (some 63) rfl rfl Try.func15 (by kernel_rfl) rfl #[.agg #[.string ((rd_T31 l0 x12_2).f0), .slice A452_1 ((rd_T31 l0 x12_2).f1).length c452_1], .string a2] rfl (by (try simp only [List.map_toArray, List.map_cons, List.map_nil]); first | done | rfl | (simp only [List.length_drop, List.length_take]; rfl)) ?_; (with_reducible refine (auguryref05_Field.calls k2 ((rd_T31 l0 x12_2).f0) _ _ ((rd_T31 l0 x12_2).f1) a2 t453 t454 _ ?side1 ?side2 A38.out).mono ?_); (case side1 => repeat (first | exact (Kd.C_below HR452_1.out HB.out) | (with_reducible refine Kd.C_alloc ?_ _) | (with_reducible refine Kd.C_drewN ?_ _) | (with_reducible refine Kd.C_drew ?_))); (case side2 => exact HC452_1.out); rintro e w45 ⟨rfl, hb⟩; refine ⟨_, rfl, ?_⟩; replace HO_443001 := Aside0.mk (Kd.V_below (Kd.pl_V HO_443001.out) hb); replace HO_449001 := Aside0.mk (Kd.V_below (Kd.pl_V HO_449001.out) hb); replace BK433 := bb BK433 hb; replace BK442 := bb BK442 hb; replace BK448 := bb BK448 hb; replace HB := hB HB hb; (try clear hb); (try clear hb2); (try clear hk); (try clear hi)))
          replace HO_443001 := Aside0.mk (Kd.V_drew HO_443001.out)
          replace HO_449001 := Aside0.mk (Kd.V_drew HO_449001.out)
          replace BK433 := Aside0.mk (blk_drew BK433.out)
          replace BK442 := Aside0.mk (blk_drew BK442.out)
          replace BK448 := Aside0.mk (blk_drew BK448.out)
          replace HB := Aside0.mk (below_drew1 HB.out)
          have p455 : 0 ≤ (x12_2 : Int) := of_decide_eq_true (by first | (with_reducible assumption) | assumption)
          have q455 : x12_2 < (l0.length : Int) := of_decide_eq_true (by first | (with_reducible assumption) | assumption)
          obtain ⟨ad455, A455_1, c455_1, e455, hx455_0, hx455_1, hl455_1, hi455_1⟩ := at_T31 HR0.out x12_2 p455 q455
          have hw455_1 := hx455_1
          have hw455_0 := hx455_0
          obtain rfl : ad449 = ad455 := (by injection e455)
          replace hx455_0 := (HB.out.cell (World.block_lt_of_cell? w _ hx455_0)).trans hx455_0
          replace hx455_1 := (HB.out.cell (World.block_lt_of_cell? w _ hx455_1)).trans hx455_1
          have HR455_1 := Aside0.mk hi455_1
          have HC455_1 := Aside0.mk hl455_1
          clear hi455_1 hl455_1
          replace p455 := eq_true p455
          replace q455 := eq_true q455
          have p457 : 0 ≤ (x12_2 : Int) := of_decide_eq_true (by first | (with_reducible assumption) | assumption)
          have q457 : x12_2 < (l0.length : Int) := of_decide_eq_true (by first | (with_reducible assumption) | assumption)
          obtain ⟨ad457, A457_1, c457_1, e457, hx457_0, hx457_1, hl457_1, hi457_1⟩ := at_T31 HR0.out x12_2 p457 q457
          have hw457_1 := hx457_1
          have hw457_0 := hx457_0
          obtain rfl : ad449 = ad457 := (by injection e457)
          replace hx457_0 := (HB.out.cell (World.block_lt_of_cell? w _ hx457_0)).trans hx457_0
          replace hx457_1 := (HB.out.cell (World.block_lt_of_cell? w _ hx457_1)).trans hx457_1
          have HR457_1 := Aside0.mk hi457_1
          have HC457_1 := Aside0.mk hl457_1
          clear hi457_1 hl457_1
          replace p457 := eq_true p457
          replace q457 := eq_true q457
          have ea_ := Option.some.inj (hx455_1.symm.trans hx457_1)
          injection ea_ with ea_ en_ ec_
          subst ea_
          subst ec_
          clear en_
          refine start_ (n := 21) (S := fun w' => w'.cell? (ad449.add ((x12_2).toNat * 2)) = some (.string ((rd_T31 l0 x12_2).f0)) ∧ w'.cell? ⟨(ad449.add ((x12_2).toNat * 2)).block, (ad449.add ((x12_2).toNat * 2)).off + 1, none⟩ = some (.slice A455_1 ((rd_T31 l0 x12_2).f1).length c455_1) ∧ w'.cell? (ad449.add ((x12_2).toNat * 2)) = some (.string ((rd_T31 l0 x12_2).f0)) ∧ w'.cell? ⟨(ad449.add ((x12_2).toNat * 2)).block, (ad449.add ((x12_2).toNat * 2)).off + 1, none⟩ = some (.slice A455_1 ((rd_T31 l0 x12_2).f1).length c455_1)) (ds := []) #[false, false, false, false, false, false, false, false, false, false, false, false, false, false, false, false, false, false, false, false, false] (by kernel_rfl) rfl rfl ⟨((HB.out.cell (World.block_lt_of_cell? w _ hw455_0)).trans hw455_0), ((HB.out.cell (World.block_lt_of_cell? w _ hw455_1)).trans hw455_1), ((HB.out.cell (World.block_lt_of_cell? w _ hw457_0)).trans hw457_0), ((HB.out.cell (World.block_lt_of_cell? w _ hw457_1)).trans hw457_1)⟩ (fun hHeld => ?_); refine with_tabW augurylaw05_EventTells.tab11 augurylaw05_EventTells.bits11 (fun HT_ HW_ => ?_)
          generalize w45.drew = w46 at HO_443001 HO_449001 BK433 BK442 BK448 HB HR455_1 HR457_1 hx455_0 hx455_1 hx457_0 hx457_1 hHeld ⊢
          refine pure_ (i := 0) (N := some 66) (v := ?_) (a' := ?_) #[true, false, false, false, false, false, false, false, false, false, false, false, false, false, false, false, false, false, false, false, false] rfl rfl (any_of HT_.out (by kernel_rfl)) (fun _ _ _ h => h) (Or.inl ⟨by rfl, ?_⟩) ?_ ?_
          rotate_left
          ·intro w'
           go_simp
           with_reducible rfl
          rotate_left
          ·simp only [Act.put, List.setIfInBounds_toArray, List.set_cons_zero, List.set_cons_succ, i64_w, i32_w]
           rfl
          refine pure_ (i := 1) (N := some 67) (v := ?_) (a' := ?_) #[true, true, false, false, false, false, false, false, false, false, false, false, false, false, false, false, false, false, false, false, false] rfl rfl (any_of HT_.out (by kernel_rfl)) (fun _ _ _ h => h) (Or.inl ⟨by rfl, ?_⟩) ?_ ?_
          rotate_left
          ·intro w'
           go_simp
           with_reducible rfl
          rotate_left
          ·simp only [Act.put, List.setIfInBounds_toArray, List.set_cons_zero, List.set_cons_succ, i64_w, i32_w]
           rfl
          refine pure_ (i := 2) (N := some 68) (v := ?_) (a' := ?_) #[true, true, true, false, false, false, false, false, false, false, false, false, false, false, false, false, false, false, false, false, false] rfl rfl (any_of HT_.out (by kernel_rfl)) (fun _ _ _ h => h) (Or.inl ⟨by rfl, ?_⟩) ?_ ?_
          rotate_left
          ·intro w'
           go_simp
           with_reducible rfl
          rotate_left
          ·simp only [Act.put, List.setIfInBounds_toArray, List.set_cons_zero, List.set_cons_succ, i64_w, i32_w]
           rfl
          refine pure_ (i := 3) (N := some 69) (v := ?_) (a' := ?_) #[true, true, true, true, false, false, false, false, false, false, false, false, false, false, false, false, false, false, false, false, false] rfl rfl (any_of HT_.out (by kernel_rfl)) (fun _ _ _ h => h) (Or.inl ⟨by rfl, ?_⟩) ?_ ?_
          rotate_left
          ·intro w'
           go_simp
           with_reducible rfl
          rotate_left
          ·simp only [Act.put, List.setIfInBounds_toArray, List.set_cons_zero, List.set_cons_succ, i64_w, i32_w]
           rfl
          refine pure_ (i := 4) (N := some 70) (v := ?_) (a' := ?_) #[true, true, true, true, true, false, false, false, false, false, false, false, false, false, false, false, false, false, false, false, false] rfl rfl (any_of HT_.out (by kernel_rfl)) (fun _ _ _ h => h) (Or.inl ⟨by rfl, ?_⟩) ?_ ?_
          rotate_left
          ·intro w'
           go_simp
           with_reducible rfl
          rotate_left
          ·simp only [Act.put, List.setIfInBounds_toArray, List.set_cons_zero, List.set_cons_succ, i64_w, i32_w]
           rfl
          refine pure_ (i := 5) (N := some 71) (v := ?_) (a' := ?_) #[true, true, true, true, true, true, false, false, false, false, false, false, false, false, false, false, false, false, false, false, false] rfl rfl (any_of HT_.out (by kernel_rfl)) (fun _ _ _ h => h) (Or.inl ⟨by rfl, ?_⟩) ?_ ?_
          rotate_left
          ·intro w'
           go_simp
           with_reducible rfl
          rotate_left
          ·simp only [Act.put, List.setIfInBounds_toArray, List.set_cons_zero, List.set_cons_succ, i64_w, i32_w]
           rfl
          refine pure_ (i := 6) (N := some 72) (v := ?_) (a' := ?_) #[true, true, true, true, true, true, true, false, false, false, false, false, false, false, false, false, false, false, false, false, false] rfl rfl (any_of HT_.out (by kernel_rfl)) (fun _ _ _ h => h) (Or.inl ⟨by rfl, ?_⟩) ?_ ?_
          rotate_left
          ·intro w'
           go_simp
           with_reducible rfl
          rotate_left
          ·simp only [Act.put, List.setIfInBounds_toArray, List.set_cons_zero, List.set_cons_succ, i64_w, i32_w]
           rfl
          refine pure_ (i := 7) (N := some 73) (v := ?_) (a' := ?_) #[true, true, true, true, true, true, true, true, false, false, false, false, false, false, false, false, false, false, false, false, false] rfl rfl (any_of HT_.out (by kernel_rfl)) (fun _ _ _ h => h) (Or.inl ⟨by rfl, ?_⟩) ?_ ?_
          rotate_left
          ·intro w'
           go_simp
           with_reducible rfl
          rotate_left
          ·simp only [Act.put, List.setIfInBounds_toArray, List.set_cons_zero, List.set_cons_succ, i64_w, i32_w]
           rfl
          refine pure_ (i := 8) (N := some 74) (v := ?_) (a' := ?_) #[true, true, true, true, true, true, true, true, true, false, false, false, false, false, false, false, false, false, false, false, false] rfl rfl (any_of HT_.out (by kernel_rfl)) (fun _ _ _ h => h) (Or.inl ⟨by rfl, ?_⟩) ?_ ?_
          rotate_left
          ·intro w'
           go_simp
           with_reducible rfl
          rotate_left
          ·simp only [Act.put, List.setIfInBounds_toArray, List.set_cons_zero, List.set_cons_succ, i64_w, i32_w]
           rfl
          refine pure_ (i := 9) (N := some 75) (v := ?_) (a' := ?_) #[true, true, true, true, true, true, true, true, true, true, false, false, false, false, false, false, false, false, false, false, false] rfl rfl (any_of HT_.out (by kernel_rfl)) (fun _ _ _ h => h) (Or.inl ⟨by rfl, ?_⟩) ?_ ?_
          rotate_left
          ·intro w'
           go_simp
           with_reducible rfl
          rotate_left
          ·simp only [Act.put, List.setIfInBounds_toArray, List.set_cons_zero, List.set_cons_succ, i64_w, i32_w]
           rfl
          refine pure_ (i := 10) (N := some 76) (v := ?_) (a' := ?_) #[true, true, true, true, true, true, true, true, true, true, true, false, false, false, false, false, false, false, false, false, false] rfl rfl (any_of HT_.out (by kernel_rfl)) (fun _ _ _ h => h) (Or.inl ⟨by rfl, ?_⟩) ?_ ?_
          rotate_left
          ·intro w'
           go_simp
           with_reducible rfl
          rotate_left
          ·simp only [Act.put, List.setIfInBounds_toArray, List.set_cons_zero, List.set_cons_succ, i64_w, i32_w]
           rfl
          refine pure_ (i := 11) (N := some 77) (v := ?_) (a' := ?_) #[true, true, true, true, true, true, true, true, true, true, true, true, false, false, false, false, false, false, false, false, false] rfl rfl (any_of HT_.out (by kernel_rfl)) (fun _ _ _ h => h) (Or.inl ⟨by rfl, ?_⟩) ?_ ?_
          rotate_left
          ·intro w'
           go_simp
           with_reducible rfl
          rotate_left
          ·simp only [Act.put, List.setIfInBounds_toArray, List.set_cons_zero, List.set_cons_succ, i64_w, i32_w]
           rfl
          refine pure_ (i := 14) (N := some 80) (v := ?_) (a' := ?_) #[true, true, true, true, true, true, true, true, true, true, true, true, false, false, true, false, false, false, false, false, false] rfl rfl (any_of HT_.out (by kernel_rfl)) (fun _ _ _ h => h) (Or.inl ⟨by rfl, ?_⟩) ?_ ?_
          rotate_left
          ·intro w'
           go_simp
           with_reducible rfl
          rotate_left
          ·simp only [Act.put, List.setIfInBounds_toArray, List.set_cons_zero, List.set_cons_succ, i64_w, i32_w]
           rfl
          refine pure_ (i := 15) (N := some 81) (v := ?_) (a' := ?_) #[true, true, true, true, true, true, true, true, true, true, true, true, false, false, true, true, false, false, false, false, false] rfl rfl (any_of HT_.out (by kernel_rfl)) (fun _ _ _ h => h) (Or.inl ⟨by rfl, ?_⟩) ?_ ?_
          rotate_left
          ·intro w'
           go_simp
           with_reducible rfl
          rotate_left
          ·simp only [Act.put, List.setIfInBounds_toArray, List.set_cons_zero, List.set_cons_succ, i64_w, i32_w]
           rfl
          refine pure_ (i := 16) (N := some 82) (v := ?_) (a' := ?_) #[true, true, true, true, true, true, true, true, true, true, true, true, false, false, true, true, true, false, false, false, false] rfl rfl (any_of HT_.out (by kernel_rfl)) (fun _ _ _ h => h) (Or.inl ⟨by rfl, ?_⟩) ?_ ?_
          rotate_left
          ·intro w'
           go_simp
           with_reducible rfl
          rotate_left
          ·simp only [Act.put, List.setIfInBounds_toArray, List.set_cons_zero, List.set_cons_succ, i64_w, i32_w]
           rfl
          refine take_ (i := 12) (N := some 78) (v := ?_) (a' := ?_) #[true, true, true, true, true, true, true, true, true, true, true, true, true, false, true, true, true, false, false, false, false] rfl rfl (take_ofW HT_.out HW_.out (by kernel_rfl)) (fun _ _ _ h => h) (Or.inl ⟨by rfl, ?_⟩) hHeld ?_ ?_
          rotate_left
          ·rintro w' ⟨s0, s1, s2, s3⟩
           go_simp
           with_reducible rfl
          rotate_left
          ·simp only [Act.put, List.setIfInBounds_toArray, List.set_cons_zero, List.set_cons_succ, i64_w, i32_w]
           rfl
          refine take_ (i := 17) (N := some 83) (v := ?_) (a' := ?_) #[true, true, true, true, true, true, true, true, true, true, true, true, true, false, true, true, true, true, false, false, false] rfl rfl (take_ofW HT_.out HW_.out (by kernel_rfl)) (fun _ _ _ h => h) (Or.inl ⟨by rfl, ?_⟩) hHeld ?_ ?_
          rotate_left
          ·rintro w' ⟨s0, s1, s2, s3⟩
           go_simp
           with_reducible rfl
          rotate_left
          ·simp only [Act.put, List.setIfInBounds_toArray, List.set_cons_zero, List.set_cons_succ, i64_w, i32_w]
           rfl
          refine one_ (i := 13) (N := some 79) #[true, true, true, true, true, true, true, true, true, true, true, true, true, true, true, true, true, true, false, false, false] rfl rfl (one_of HT_.out (by kernel_rfl)) (by decide) (fun K hK => ?_)
          refine goes_ Try.func16 (by kernel_rfl) rfl #[.agg #[.string ((rd_T31 l0 x12_2).f0), .slice A455_1 ((rd_T31 l0 x12_2).f1).length c455_1]] (by rfl) rfl rfl (by (try simp only [List.map_toArray, List.map_cons, List.map_nil]); first | done | rfl | (simp only [List.length_drop, List.length_take]; rfl)) ?_
          with_reducible refine (event_Schema.calls k2 ((rd_T31 l0 x12_2).f0) _ _ ((rd_T31 l0 x12_2).f1) t456 _ ?side1 ?side2 A41.out).mono ?_
          (case side1 => repeat (first | exact (Kd.C_below HR455_1.out HB.out) | (with_reducible refine Kd.C_alloc ?_ _) | (with_reducible refine Kd.C_drewN ?_ _) | (with_reducible refine Kd.C_drew ?_)))
          (case side2 => exact HC455_1.out)
          rintro e w47 ⟨rfl, hb⟩
          refine ⟨_, rfl, ?_⟩
          replace HO_443001 := Aside0.mk (Kd.V_below (Kd.pl_V HO_443001.out) hb)
          replace HO_449001 := Aside0.mk (Kd.V_below (Kd.pl_V HO_449001.out) hb)
          replace BK433 := bb BK433 hb
          replace BK442 := bb BK442 hb
          replace BK448 := bb BK448 hb
          replace HB := hB HB hb
          (try clear hb)
          (try clear hb2)
          (try clear hk)
          (try clear hi)
          refine hK.out _ _ ⟨((HB.out.cell (World.block_lt_of_cell? w _ hw455_0)).trans hw455_0), ((HB.out.cell (World.block_lt_of_cell? w _ hw455_1)).trans hw455_1), ((HB.out.cell (World.block_lt_of_cell? w _ hw457_0)).trans hw457_0), ((HB.out.cell (World.block_lt_of_cell? w _ hw457_1)).trans hw457_1)⟩ (fun hHeld => ?_)
          clear hK K
          refine norm_ (a' := ?_) ?_ ?_
          rotate_left
          ·show Act.put _ (some 79) _ = _
           simp only [Act.put, List.setIfInBounds_toArray, List.set_cons_zero, List.set_cons_succ, i64_w, i32_w]
           rfl
          refine one_ (i := 18) (N := some 84) #[true, true, true, true, true, true, true, true, true, true, true, true, true, true, true, true, true, true, true, false, false] rfl rfl (one_of HT_.out (by kernel_rfl)) (by decide) (fun K hK => ?_)
          refine goes_ Try.func17 (by kernel_rfl) rfl #[.agg #[.string ((rd_T31 l0 x12_2).f0), .slice A455_1 ((rd_T31 l0 x12_2).f1).length c455_1]] (by rfl) rfl rfl (by (try simp only [List.map_toArray, List.map_cons, List.map_nil]); first | done | rfl | (simp only [List.length_drop, List.length_take]; rfl)) ?_
          with_reducible refine (auguryref05_Schema.calls k2 ((rd_T31 l0 x12_2).f0) _ _ ((rd_T31 l0 x12_2).f1) t458 _ ?side1 ?side2 A42.out).mono ?_
          (case side1 => repeat (first | exact (Kd.C_below HR457_1.out HB.out) | (with_reducible refine Kd.C_alloc ?_ _) | (with_reducible refine Kd.C_drewN ?_ _) | (with_reducible refine Kd.C_drew ?_)))
          (case side2 => exact HC457_1.out)
          rintro e w48 ⟨rfl, hb⟩
          refine ⟨_, rfl, ?_⟩
          replace HO_443001 := Aside0.mk (Kd.V_below (Kd.pl_V HO_443001.out) hb)
          replace HO_449001 := Aside0.mk (Kd.V_below (Kd.pl_V HO_449001.out) hb)
          replace BK433 := bb BK433 hb
          replace BK442 := bb BK442 hb
          replace BK448 := bb BK448 hb
          replace HB := hB HB hb
          (try clear hb)
          (try clear hb2)
          (try clear hk)
          (try clear hi)
          refine hK.out _ _ ⟨((HB.out.cell (World.block_lt_of_cell? w _ hw455_0)).trans hw455_0), ((HB.out.cell (World.block_lt_of_cell? w _ hw455_1)).trans hw455_1), ((HB.out.cell (World.block_lt_of_cell? w _ hw457_0)).trans hw457_0), ((HB.out.cell (World.block_lt_of_cell? w _ hw457_1)).trans hw457_1)⟩ (fun hHeld => ?_)
          clear hK K
          refine norm_ (a' := ?_) ?_ ?_
          rotate_left
          ·show Act.put _ (some 84) _ = _
           simp only [Act.put, List.setIfInBounds_toArray, List.set_cons_zero, List.set_cons_succ, i64_w, i32_w]
           rfl
          refine pure_ (i := 19) (N := some 85) (v := ?_) (a' := ?_) #[true, true, true, true, true, true, true, true, true, true, true, true, true, true, true, true, true, true, true, true, false] rfl rfl (any_of HT_.out (by kernel_rfl)) (fun _ _ _ h => h) (Or.inl ⟨by rfl, ?_⟩) ?_ ?_
          rotate_left
          ·intro w'
           go_simp
           with_reducible rfl
          rotate_left
          ·simp only [Act.put, List.setIfInBounds_toArray, List.set_cons_zero, List.set_cons_succ, i64_w, i32_w]
           rfl
          refine pure_ (i := 20) (N := some 86) (v := ?_) (a' := ?_) #[true, true, true, true, true, true, true, true, true, true, true, true, true, true, true, true, true, true, true, true, true] rfl rfl (any_of HT_.out (by kernel_rfl)) (fun _ _ _ h => h) (Or.inl ⟨by rfl, ?_⟩) ?_ ?_
          rotate_left
          ·intro w'
           go_simp
           with_reducible rfl
          rotate_left
          ·simp only [Act.put, List.setIfInBounds_toArray, List.set_cons_zero, List.set_cons_succ, i64_w, i32_w]
           rfl
          refine done_ (done_of HT_.out (by kernel_rfl)) ?_
          try go_wp2
          go_roundg k2
          case measure => have := HJ4.out; have := HK2.out; omega
          case rel => exact ⟨(wrap64 (x12_2 + 1)), (by first | rfl | (simp; done) | (simp [*]; done) | grind), H', ⟨by have := HJ4.out; have := HK2.out; omega⟩, ⟨Kd.pl_V HO_443001.out⟩, ⟨Kd.pl_V HO_449001.out⟩, ⟨pl_blk BK433.out⟩, ⟨pl_blk BK442.out⟩, ⟨pl_blk BK448.out⟩, ⟨pl_below HB.out⟩⟩
         ·rw [if_neg c40] at H
          have c40b0 : (t451 == t454) = false := beq_eq_false_iff_ne.mpr c40
          have c40b1 : (t451 != t454) = true := bne_iff_ne.mpr c40
          exact absurd H (by simp)
        ·rw [if_neg c39] at H
         have c39b0 : (t450 == t453) = false := beq_eq_false_iff_ne.mpr c39
         have c39b1 : (t450 != t453) = true := bne_iff_ne.mpr c39
         exact absurd H (by simp)
       ·rw [if_neg c35] at H
        have c35b0 : decide (x12_2 < (l0.length : Int)) = false := decide_eq_false c35
        clear c35
        by_cases c49 : t434 = true
        ·subst c49
         rw [if_pos rfl] at H
         replace H := Option.bind_eq_some_iff.mp H
         obtain ⟨t459, A50, H⟩ := H
         (try dsimp only at H)
         replace A50 := Aside0.mk A50
         by_cases c51 : t459 = true
         ·subst c51
          rw [if_pos rfl] at H
          by_cases c52 : (t441 == t447) = true
          ·rw [if_pos c52] at H
           have c52b0 : (t441 == t447) = true := c52
           (try (have c52b1 : decide (t441 = t447) = true := by simpa using c52))
           (try (have c52b2 : (t441 == t447) = true := by simpa using c52))
           clear c52
           replace H := Option.bind_eq_some_iff.mp H
           obtain ⟨t460, A53, H⟩ := H
           (try dsimp only at H)
           replace A53 := Aside0.mk A53
           replace H := Option.bind_eq_some_iff.mp H
           obtain ⟨t461, A54, H⟩ := H
           (try dsimp only at H)
           replace A54 := Aside0.mk A54
           by_cases c55 : t460 = t461
           ·rw [if_pos c55] at H
            have c55b0 : (t460 == t461) = true := beq_iff_eq.mpr c55
            have c55b1 : (t460 != t461) = false := bne_eq_false_iff_eq.mpr c55
            clear c55
            replace H := Option.bind_eq_some_iff.mp H
            obtain ⟨t462, A56, H⟩ := H
            (try dsimp only at H)
            replace A56 := Aside0.mk A56
            replace H := Option.bind_eq_some_iff.mp H
            obtain ⟨t465, A57, H⟩ := H
            (try dsimp only at H)
            replace A57 := Aside0.mk A57
            by_cases c58 : (strOfNums t462).toList = (strOfNums t465).toList
            ·rw [if_pos c58] at H
             have c58b0 : ((strOfNums t462).toList == (strOfNums t465).toList) = true := beq_iff_eq.mpr c58
             have c58b1 : ((strOfNums t462).toList != (strOfNums t465).toList) = false := bne_eq_false_iff_eq.mpr c58
             clear c58
             replace H := Option.bind_eq_some_iff.mp H
             obtain ⟨t468, A59, H⟩ := H
             (try dsimp only at H)
             replace A59 := Aside0.mk A59
             replace H := Option.bind_eq_some_iff.mp H
             obtain ⟨t469, A60, H⟩ := H
             (try dsimp only at H)
             replace A60 := Aside0.mk A60
             by_cases c61 : (t468 == t469) = true; rotate_left
             ·rw [if_neg c61] at H; cases H
             rw [if_pos c61] at H
             have c61b0 : (t468 == t469) = true := c61
             (try (have c61b1 : decide (t468 = t469) = true := by simpa using c61))
             (try (have c61b2 : (t468 == t469) = true := by simpa using c61))
             clear c61
             obtain rfl := Option.some.inj H
             try go_wp2
             replace HO_443001 := Aside0.mk (Kd.V_drew HO_443001.out)
             replace HO_449001 := Aside0.mk (Kd.V_drew HO_449001.out)
             replace BK433 := Aside0.mk (blk_drew BK433.out)
             replace BK442 := Aside0.mk (blk_drew BK442.out)
             replace BK448 := Aside0.mk (blk_drew BK448.out)
             replace HB := Aside0.mk (below_drew1 HB.out)
             refine start_ (n := 37) (S := fun w' => w'.cell? ⟨gb442, 0, none⟩ = some (.string t437) ∧ w'.cell? ⟨gb442, 1, none⟩ = some (.slice Ao27 t438.length co27) ∧ w'.cell? ⟨gb448, 0, none⟩ = some (.string t443) ∧ w'.cell? ⟨gb448, 1, none⟩ = some (.slice Ao34 t444.length co34) ∧ w'.cell? ⟨gb433, 0, none⟩ = some (.int .i64 a1_0) ∧ w'.cell? ⟨gb433, 1, none⟩ = some (.int .i64 a1_1) ∧ w'.cell? ⟨gb433, 2, none⟩ = some (.int .i64 a1_2) ∧ w'.cell? ⟨gb433, 3, none⟩ = some (.string a1_3) ∧ w'.cell? ⟨gb433, 4, none⟩ = some (.slice A1_4 l1_4.length c1_4)) (ds := []) #[false, false, false, false, false, false, false, false, false, false, false, false, false, false, false, false, false, false, false, false, false, false, false, false, false, false, false, false, false, false, false, false, false, false, false, false, false] (by kernel_rfl) rfl rfl ⟨(blk_cell BK442.out 0).trans rfl, (blk_cell BK442.out 1).trans rfl, (blk_cell BK448.out 0).trans rfl, (blk_cell BK448.out 1).trans rfl, (blk_cell BK433.out 0).trans rfl, (blk_cell BK433.out 1).trans rfl, (blk_cell BK433.out 2).trans rfl, (blk_cell BK433.out 3).trans rfl, (blk_cell BK433.out 4).trans rfl⟩ (fun hHeld => ?_); refine with_tabW augurylaw05_EventTells.tab13 augurylaw05_EventTells.bits13 (fun HT_ HW_ => ?_)
             generalize wr.drew = w62 at HO_443001 HO_449001 BK433 BK442 BK448 HB hHeld ⊢
             refine pure_ (i := 0) (N := some 87) (v := ?_) (a' := ?_) #[true, false, false, false, false, false, false, false, false, false, false, false, false, false, false, false, false, false, false, false, false, false, false, false, false, false, false, false, false, false, false, false, false, false, false, false, false] rfl rfl (any_of HT_.out (by kernel_rfl)) (fun _ _ _ h => h) (Or.inl ⟨by rfl, ?_⟩) ?_ ?_
             rotate_left
             ·intro w'
              go_simp
              with_reducible rfl
             rotate_left
             ·simp only [Act.put, List.setIfInBounds_toArray, List.set_cons_zero, List.set_cons_succ, i64_w, i32_w]
              rfl
             refine pure_ (i := 1) (N := some 88) (v := ?_) (a' := ?_) #[true, true, false, false, false, false, false, false, false, false, false, false, false, false, false, false, false, false, false, false, false, false, false, false, false, false, false, false, false, false, false, false, false, false, false, false, false] rfl rfl (any_of HT_.out (by kernel_rfl)) (fun _ _ _ h => h) (Or.inl ⟨by rfl, ?_⟩) ?_ ?_
             rotate_left
             ·intro w'
              go_simp
              with_reducible rfl
             rotate_left
             ·simp only [Act.put, List.setIfInBounds_toArray, List.set_cons_zero, List.set_cons_succ, i64_w, i32_w]
              rfl
             refine take_ (i := 2) (N := some 89) (v := ?_) (a' := ?_) #[true, true, true, false, false, false, false, false, false, false, false, false, false, false, false, false, false, false, false, false, false, false, false, false, false, false, false, false, false, false, false, false, false, false, false, false, false] rfl rfl (take_ofW HT_.out HW_.out (by kernel_rfl)) (fun _ _ _ h => h) (Or.inl ⟨by rfl, ?_⟩) hHeld ?_ ?_
             rotate_left
             ·rintro w' ⟨s0, s1, s2, s3, s4, s5, s6, s7, s8⟩
              go_simp
              with_reducible rfl
             rotate_left
             ·simp only [Act.put, List.setIfInBounds_toArray, List.set_cons_zero, List.set_cons_succ, i64_w, i32_w]
              rfl
             refine take_ (i := 3) (N := some 90) (v := ?_) (a' := ?_) #[true, true, true, true, false, false, false, false, false, false, false, false, false, false, false, false, false, false, false, false, false, false, false, false, false, false, false, false, false, false, false, false, false, false, false, false, false] rfl rfl (take_ofW HT_.out HW_.out (by kernel_rfl)) (fun _ _ _ h => h) (Or.inl ⟨by rfl, ?_⟩) hHeld ?_ ?_
             rotate_left
             ·rintro w' ⟨s0, s1, s2, s3, s4, s5, s6, s7, s8⟩
              go_simp
              with_reducible rfl
             rotate_left
             ·simp only [Act.put, List.setIfInBounds_toArray, List.set_cons_zero, List.set_cons_succ, i64_w, i32_w]
              rfl
             refine one_ (i := 4) (N := some 91) #[true, true, true, true, true, false, false, false, false, false, false, false, false, false, false, false, false, false, false, false, false, false, false, false, false, false, false, false, false, false, false, false, false, false, false, false, false] rfl rfl (one_of HT_.out (by kernel_rfl)) (by decide) (fun K hK => ?_)
             refine goes_ Try.func18 (by kernel_rfl) rfl #[.agg #[.string t437, .slice Ao27 t438.length co27], .agg #[.string t443, .slice Ao34 t444.length co34]] (by rfl) rfl rfl (by (try simp only [List.map_toArray, List.map_cons, List.map_nil]); first | done | rfl | (simp only [List.length_drop, List.length_take]; rfl)) ?_
             with_reducible refine (auguryref05_SameSchema.calls k2 t437 _ _ t438 t443 _ _ t444 true _ ?side1 ?side2 ?side3 ?side4 A50.out).mono ?_
             (case side1 => repeat (first | exact (Kd.V_reads' HO_443001.out).2.2 | (with_reducible refine Kd.C_alloc ?_ _) | (with_reducible refine Kd.C_drewN ?_ _) | (with_reducible refine Kd.C_drew ?_)))
             (case side2 => exact (Kd.V_reads' HO_443001.out).2.1)
             (case side3 => repeat (first | exact (Kd.V_reads' HO_449001.out).2.2 | (with_reducible refine Kd.C_alloc ?_ _) | (with_reducible refine Kd.C_drewN ?_ _) | (with_reducible refine Kd.C_drew ?_)))
             (case side4 => exact (Kd.V_reads' HO_449001.out).2.1)
             rintro e w63 ⟨rfl, hb⟩
             refine ⟨_, rfl, ?_⟩
             replace HO_443001 := Aside0.mk (Kd.V_below (Kd.pl_V HO_443001.out) hb)
             replace HO_449001 := Aside0.mk (Kd.V_below (Kd.pl_V HO_449001.out) hb)
             replace BK433 := bb BK433 hb
             replace BK442 := bb BK442 hb
             replace BK448 := bb BK448 hb
             replace HB := hB HB hb
             (try clear hb)
             (try clear hb2)
             (try clear hk)
             (try clear hi)
             refine hK.out _ _ ⟨(blk_cell BK442.out 0).trans rfl, (blk_cell BK442.out 1).trans rfl, (blk_cell BK448.out 0).trans rfl, (blk_cell BK448.out 1).trans rfl, (blk_cell BK433.out 0).trans rfl, (blk_cell BK433.out 1).trans rfl, (blk_cell BK433.out 2).trans rfl, (blk_cell BK433.out 3).trans rfl, (blk_cell BK433.out 4).trans rfl⟩ (fun hHeld => ?_)
             clear hK K
             refine norm_ (a' := ?_) ?_ ?_
             rotate_left
             ·show Act.put _ (some 91) _ = _
              simp only [Act.put, List.setIfInBounds_toArray, List.set_cons_zero, List.set_cons_succ, i64_w, i32_w]
              rfl
             refine pure_ (i := 5) (N := some 92) (v := ?_) (a' := ?_) #[true, true, true, true, true, true, false, false, false, false, false, false, false, false, false, false, false, false, false, false, false, false, false, false, false, false, false, false, false, false, false, false, false, false, false, false, false] rfl rfl (any_of HT_.out (by kernel_rfl)) (fun _ _ _ h => h) (Or.inl ⟨by rfl, ?_⟩) ?_ ?_
             rotate_left
             ·intro w'
              go_simp
              with_reducible rfl
             rotate_left
             ·simp only [Act.put, List.setIfInBounds_toArray, List.set_cons_zero, List.set_cons_succ, i64_w, i32_w]
              rfl
             refine pure_ (i := 6) (N := some 93) (v := ?_) (a' := ?_) #[true, true, true, true, true, true, true, false, false, false, false, false, false, false, false, false, false, false, false, false, false, false, false, false, false, false, false, false, false, false, false, false, false, false, false, false, false] rfl rfl (any_of HT_.out (by kernel_rfl)) (fun _ _ _ h => h) (Or.inl ⟨by rfl, ?_⟩) ?_ ?_
             rotate_left
             ·intro w'
              go_simp
              with_reducible rfl
             rotate_left
             ·simp only [Act.put, List.setIfInBounds_toArray, List.set_cons_zero, List.set_cons_succ, i64_w, i32_w]
              rfl
             refine pure_ (i := 7) (N := some 94) (v := ?_) (a' := ?_) #[true, true, true, true, true, true, true, true, false, false, false, false, false, false, false, false, false, false, false, false, false, false, false, false, false, false, false, false, false, false, false, false, false, false, false, false, false] rfl rfl (any_of HT_.out (by kernel_rfl)) (fun _ _ _ h => h) (Or.inl ⟨by rfl, ?_⟩) ?_ ?_
             rotate_left
             ·intro w'
              go_simp
              with_reducible rfl
             rotate_left
             ·simp only [Act.put, List.setIfInBounds_toArray, List.set_cons_zero, List.set_cons_succ, i64_w, i32_w]
              rfl
             refine pure_ (i := 8) (N := some 95) (v := ?_) (a' := ?_) #[true, true, true, true, true, true, true, true, true, false, false, false, false, false, false, false, false, false, false, false, false, false, false, false, false, false, false, false, false, false, false, false, false, false, false, false, false] rfl rfl (any_of HT_.out (by kernel_rfl)) (fun _ _ _ h => h) (Or.inl ⟨by rfl, ?_⟩) ?_ ?_
             rotate_left
             ·intro w'
              go_simp
              with_reducible rfl
             rotate_left
             ·simp only [Act.put, List.setIfInBounds_toArray, List.set_cons_zero, List.set_cons_succ, i64_w, i32_w]
              rfl
             refine pure_ (i := 9) (N := some 96) (v := ?_) (a' := ?_) #[true, true, true, true, true, true, true, true, true, true, false, false, false, false, false, false, false, false, false, false, false, false, false, false, false, false, false, false, false, false, false, false, false, false, false, false, false] rfl rfl (any_of HT_.out (by kernel_rfl)) (fun _ _ _ h => h) (Or.inl ⟨by rfl, ?_⟩) ?_ ?_
             rotate_left
             ·intro w'
              go_simp
              with_reducible rfl
             rotate_left
             ·simp only [Act.put, List.setIfInBounds_toArray, List.set_cons_zero, List.set_cons_succ, i64_w, i32_w]
              rfl
             refine pure_ (i := 10) (N := some 97) (v := ?_) (a' := ?_) #[true, true, true, true, true, true, true, true, true, true, true, false, false, false, false, false, false, false, false, false, false, false, false, false, false, false, false, false, false, false, false, false, false, false, false, false, false] rfl rfl (any_of HT_.out (by kernel_rfl)) (fun _ _ _ h => h) (Or.inl ⟨by rfl, ?_⟩) ?_ ?_
             rotate_left
             ·intro w'
              go_simp
              with_reducible rfl
             rotate_left
             ·simp only [Act.put, List.setIfInBounds_toArray, List.set_cons_zero, List.set_cons_succ, i64_w, i32_w]
              rfl
             refine pure_ (i := 11) (N := some 98) (v := ?_) (a' := ?_) #[true, true, true, true, true, true, true, true, true, true, true, true, false, false, false, false, false, false, false, false, false, false, false, false, false, false, false, false, false, false, false, false, false, false, false, false, false] rfl rfl (any_of HT_.out (by kernel_rfl)) (fun _ _ _ h => h) (Or.inl ⟨by rfl, ?_⟩) ?_ ?_
             rotate_left
             ·intro w'
              go_simp
              with_reducible rfl
             rotate_left
             ·simp only [Act.put, List.setIfInBounds_toArray, List.set_cons_zero, List.set_cons_succ, i64_w, i32_w]
              rfl
             refine pure_ (i := 12) (N := some 99) (v := ?_) (a' := ?_) #[true, true, true, true, true, true, true, true, true, true, true, true, true, false, false, false, false, false, false, false, false, false, false, false, false, false, false, false, false, false, false, false, false, false, false, false, false] rfl rfl (any_of HT_.out (by kernel_rfl)) (fun _ _ _ h => h) (Or.inl ⟨by rfl, ?_⟩) ?_ ?_
             rotate_left
             ·intro w'
              go_simp
              with_reducible rfl
             rotate_left
             ·simp only [Act.put, List.setIfInBounds_toArray, List.set_cons_zero, List.set_cons_succ, i64_w, i32_w]
              rfl
             refine pure_ (i := 15) (N := some 102) (v := ?_) (a' := ?_) #[true, true, true, true, true, true, true, true, true, true, true, true, true, false, false, true, false, false, false, false, false, false, false, false, false, false, false, false, false, false, false, false, false, false, false, false, false] rfl rfl (any_of HT_.out (by kernel_rfl)) (fun _ _ _ h => h) (Or.inl ⟨by rfl, ?_⟩) ?_ ?_
             rotate_left
             ·intro w'
              go_simp
              with_reducible rfl
             rotate_left
             ·simp only [Act.put, List.setIfInBounds_toArray, List.set_cons_zero, List.set_cons_succ, i64_w, i32_w]
              rfl
             refine take_ (i := 13) (N := some 100) (v := ?_) (a' := ?_) #[true, true, true, true, true, true, true, true, true, true, true, true, true, true, false, true, false, false, false, false, false, false, false, false, false, false, false, false, false, false, false, false, false, false, false, false, false] rfl rfl (take_ofW HT_.out HW_.out (by kernel_rfl)) (fun _ _ _ h => h) (Or.inl ⟨by rfl, ?_⟩) hHeld ?_ ?_
             rotate_left
             ·rintro w' ⟨s0, s1, s2, s3, s4, s5, s6, s7, s8⟩
              go_simp
              with_reducible rfl
             rotate_left
             ·simp only [Act.put, List.setIfInBounds_toArray, List.set_cons_zero, List.set_cons_succ, i64_w, i32_w]
              rfl
             refine take_ (i := 16) (N := some 103) (v := ?_) (a' := ?_) #[true, true, true, true, true, true, true, true, true, true, true, true, true, true, false, true, true, false, false, false, false, false, false, false, false, false, false, false, false, false, false, false, false, false, false, false, false] rfl rfl (take_ofW HT_.out HW_.out (by kernel_rfl)) (fun _ _ _ h => h) (Or.inl ⟨by rfl, ?_⟩) hHeld ?_ ?_
             rotate_left
             ·rintro w' ⟨s0, s1, s2, s3, s4, s5, s6, s7, s8⟩
              go_simp
              with_reducible rfl
             rotate_left
             ·simp only [Act.put, List.setIfInBounds_toArray, List.set_cons_zero, List.set_cons_succ, i64_w, i32_w]
              rfl
             refine one_ (i := 14) (N := some 101) #[true, true, true, true, true, true, true, true, true, true, true, true, true, true, true, true, true, false, false, false, false, false, false, false, false, false, false, false, false, false, false, false, false, false, false, false, false] rfl rfl (one_of HT_.out (by kernel_rfl)) (by decide) (fun K hK => ?_)
             refine goes_ Try.func19 (by kernel_rfl) rfl #[.slice A0 l0.length c0, .agg #[.int .i64 a1_0, .int .i64 a1_1, .int .i64 a1_2, .string a1_3, .slice A1_4 l1_4.length c1_4]] (by rfl) rfl rfl (by (try simp only [List.map_toArray, List.map_cons, List.map_nil]); first | done | rfl | (simp only [List.length_drop, List.length_take]; rfl)) ?_
             with_reducible refine (event_Fits.calls k2 _ _ l0 a1_0 a1_1 a1_2 a1_3 _ _ l1_4 t460 _ ?side1 ?side2 ?side3 ?side4 A53.out).mono ?_
             (case side1 => repeat (first | exact (Kd.C_below HR0.out HB.out) | (with_reducible refine Kd.C_alloc ?_ _) | (with_reducible refine Kd.C_drewN ?_ _) | (with_reducible refine Kd.C_drew ?_)))
             (case side2 => exact HC0.out)
             (case side3 => repeat (first | exact (Kd.C_below HR1_4.out HB.out) | (with_reducible refine Kd.C_alloc ?_ _) | (with_reducible refine Kd.C_drewN ?_ _) | (with_reducible refine Kd.C_drew ?_)))
             (case side4 => exact HC1_4.out)
             rintro e w64 ⟨rfl, hb⟩
             refine ⟨_, rfl, ?_⟩
             replace HO_443001 := Aside0.mk (Kd.V_below (Kd.pl_V HO_443001.out) hb)
             replace HO_449001 := Aside0.mk (Kd.V_below (Kd.pl_V HO_449001.out) hb)
             replace BK433 := bb BK433 hb
             replace BK442 := bb BK442 hb
             replace BK448 := bb BK448 hb
             replace HB := hB HB hb
             (try clear hb)
             (try clear hb2)
             (try clear hk)
             (try clear hi)
             refine hK.out _ _ ⟨(blk_cell BK442.out 0).trans rfl, (blk_cell BK442.out 1).trans rfl, (blk_cell BK448.out 0).trans rfl, (blk_cell BK448.out 1).trans rfl, (blk_cell BK433.out 0).trans rfl, (blk_cell BK433.out 1).trans rfl, (blk_cell BK433.out 2).trans rfl, (blk_cell BK433.out 3).trans rfl, (blk_cell BK433.out 4).trans rfl⟩ (fun hHeld => ?_)
             clear hK K
             refine norm_ (a' := ?_) ?_ ?_
             rotate_left
             ·show Act.put _ (some 101) _ = _
              simp only [Act.put, List.setIfInBounds_toArray, List.set_cons_zero, List.set_cons_succ, i64_w, i32_w]
              rfl
             refine one_ (i := 17) (N := some 104) #[true, true, true, true, true, true, true, true, true, true, true, true, true, true, true, true, true, true, false, false, false, false, false, false, false, false, false, false, false, false, false, false, false, false, false, false, false] rfl rfl (one_of HT_.out (by kernel_rfl)) (by decide) (fun K hK => ?_)
             refine goes_ Try.func20 (by kernel_rfl) rfl #[.slice A0 l0.length c0, .agg #[.int .i64 a1_0, .int .i64 a1_1, .int .i64 a1_2, .string a1_3, .slice A1_4 l1_4.length c1_4]] (by rfl) rfl rfl (by (try simp only [List.map_toArray, List.map_cons, List.map_nil]); first | done | rfl | (simp only [List.length_drop, List.length_take]; rfl)) ?_
             with_reducible refine (auguryref05_Fits.calls k2 _ _ l0 a1_0 a1_1 a1_2 a1_3 _ _ l1_4 t461 _ ?side1 ?side2 ?side3 ?side4 A54.out).mono ?_
             (case side1 => repeat (first | exact (Kd.C_below HR0.out HB.out) | (with_reducible refine Kd.C_alloc ?_ _) | (with_reducible refine Kd.C_drewN ?_ _) | (with_reducible refine Kd.C_drew ?_)))
             (case side2 => exact HC0.out)
             (case side3 => repeat (first | exact (Kd.C_below HR1_4.out HB.out) | (with_reducible refine Kd.C_alloc ?_ _) | (with_reducible refine Kd.C_drewN ?_ _) | (with_reducible refine Kd.C_drew ?_)))
             (case side4 => exact HC1_4.out)
             rintro e w65 ⟨rfl, hb⟩
             refine ⟨_, rfl, ?_⟩
             replace HO_443001 := Aside0.mk (Kd.V_below (Kd.pl_V HO_443001.out) hb)
             replace HO_449001 := Aside0.mk (Kd.V_below (Kd.pl_V HO_449001.out) hb)
             replace BK433 := bb BK433 hb
             replace BK442 := bb BK442 hb
             replace BK448 := bb BK448 hb
             replace HB := hB HB hb
             (try clear hb)
             (try clear hb2)
             (try clear hk)
             (try clear hi)
             refine hK.out _ _ ⟨(blk_cell BK442.out 0).trans rfl, (blk_cell BK442.out 1).trans rfl, (blk_cell BK448.out 0).trans rfl, (blk_cell BK448.out 1).trans rfl, (blk_cell BK433.out 0).trans rfl, (blk_cell BK433.out 1).trans rfl, (blk_cell BK433.out 2).trans rfl, (blk_cell BK433.out 3).trans rfl, (blk_cell BK433.out 4).trans rfl⟩ (fun hHeld => ?_)
             clear hK K
             refine norm_ (a' := ?_) ?_ ?_
             rotate_left
             ·show Act.put _ (some 104) _ = _
              simp only [Act.put, List.setIfInBounds_toArray, List.set_cons_zero, List.set_cons_succ, i64_w, i32_w]
              rfl
             refine pure_ (i := 18) (N := some 105) (v := ?_) (a' := ?_) #[true, true, true, true, true, true, true, true, true, true, true, true, true, true, true, true, true, true, true, false, false, false, false, false, false, false, false, false, false, false, false, false, false, false, false, false, false] rfl rfl (any_of HT_.out (by kernel_rfl)) (fun _ _ _ h => h) (Or.inl ⟨by rfl, ?_⟩) ?_ ?_
             rotate_left
             ·intro w'
              go_simp
              with_reducible rfl
             rotate_left
             ·simp only [Act.put, List.setIfInBounds_toArray, List.set_cons_zero, List.set_cons_succ, i64_w, i32_w]
              rfl
             refine pure_ (i := 19) (N := some 106) (v := ?_) (a' := ?_) #[true, true, true, true, true, true, true, true, true, true, true, true, true, true, true, true, true, true, true, true, false, false, false, false, false, false, false, false, false, false, false, false, false, false, false, false, false] rfl rfl (any_of HT_.out (by kernel_rfl)) (fun _ _ _ h => h) (Or.inl ⟨by rfl, ?_⟩) ?_ ?_
             rotate_left
             ·intro w'
              go_simp
              with_reducible rfl
             rotate_left
             ·simp only [Act.put, List.setIfInBounds_toArray, List.set_cons_zero, List.set_cons_succ, i64_w, i32_w]
              rfl
             refine pure_ (i := 20) (N := some 107) (v := ?_) (a' := ?_) #[true, true, true, true, true, true, true, true, true, true, true, true, true, true, true, true, true, true, true, true, true, false, false, false, false, false, false, false, false, false, false, false, false, false, false, false, false] rfl rfl (any_of HT_.out (by kernel_rfl)) (fun _ _ _ h => h) (Or.inl ⟨by rfl, ?_⟩) ?_ ?_
             rotate_left
             ·intro w'
              go_simp
              with_reducible rfl
             rotate_left
             ·simp only [Act.put, List.setIfInBounds_toArray, List.set_cons_zero, List.set_cons_succ, i64_w, i32_w]
              rfl
             refine take_ (i := 21) (N := some 108) (v := ?_) (a' := ?_) #[true, true, true, true, true, true, true, true, true, true, true, true, true, true, true, true, true, true, true, true, true, true, false, false, false, false, false, false, false, false, false, false, false, false, false, false, false] rfl rfl (take_ofW HT_.out HW_.out (by kernel_rfl)) (fun _ _ _ h => h) (Or.inl ⟨by rfl, ?_⟩) hHeld ?_ ?_
             rotate_left
             ·rintro w' ⟨s0, s1, s2, s3, s4, s5, s6, s7, s8⟩
              go_simp
              with_reducible rfl
             rotate_left
             ·simp only [Act.put, List.setIfInBounds_toArray, List.set_cons_zero, List.set_cons_succ, i64_w, i32_w]
              rfl
             refine take_ (i := 24) (N := some 111) (v := ?_) (a' := ?_) #[true, true, true, true, true, true, true, true, true, true, true, true, true, true, true, true, true, true, true, true, true, true, false, false, true, false, false, false, false, false, false, false, false, false, false, false, false] rfl rfl (take_ofW HT_.out HW_.out (by kernel_rfl)) (fun _ _ _ h => h) (Or.inl ⟨by rfl, ?_⟩) hHeld ?_ ?_
             rotate_left
             ·rintro w' ⟨s0, s1, s2, s3, s4, s5, s6, s7, s8⟩
              go_simp
              with_reducible rfl
             rotate_left
             ·simp only [Act.put, List.setIfInBounds_toArray, List.set_cons_zero, List.set_cons_succ, i64_w, i32_w]
              rfl
             refine one_ (i := 22) (N := some 109) #[true, true, true, true, true, true, true, true, true, true, true, true, true, true, true, true, true, true, true, true, true, true, true, false, true, false, false, false, false, false, false, false, false, false, false, false, false] rfl rfl (one_of HT_.out (by kernel_rfl)) (by decide) (fun K hK => ?_)
             refine goes_ Try.func21 (by kernel_rfl) rfl #[.agg #[.int .i64 a1_0, .int .i64 a1_1, .int .i64 a1_2, .string a1_3, .slice A1_4 l1_4.length c1_4]] (by rfl) rfl rfl (by (try simp only [List.map_toArray, List.map_cons, List.map_nil]); first | done | rfl | (simp only [List.length_drop, List.length_take]; rfl)) ?_
             with_reducible refine (event_Put.calls k2 a1_0 a1_1 a1_2 a1_3 _ _ l1_4 t462 _ ?side1 ?side2 A56.out).mono ?_
             (case side1 => repeat (first | exact (Kd.C_below HR1_4.out HB.out) | (with_reducible refine Kd.C_alloc ?_ _) | (with_reducible refine Kd.C_drewN ?_ _) | (with_reducible refine Kd.C_drew ?_)))
             (case side2 => exact HC1_4.out)
             rintro e w66 ⟨v463, rfl, ho0, hb⟩
             refine ⟨_, rfl, ?_⟩
             replace HO_443001 := Aside0.mk (Kd.V_elder' (Kd.pl_V HO_443001.out) (Kd.R_base ho0) hb)
             replace HO_449001 := Aside0.mk (Kd.V_elder' (Kd.pl_V HO_449001.out) (Kd.R_base ho0) hb)
             have HO464 := Aside0.mk (Kd.R_lower ho0 (below_size (pl_below HB.out)))
             replace BK433 := bb BK433 hb
             replace BK442 := bb BK442 hb
             replace BK448 := bb BK448 hb
             replace HB := hB HB hb
             (try clear hb)
             (try clear hb2)
             (try clear hk)
             (try clear hi)
             (try clear ho0)
             refine hK.out _ _ ⟨(blk_cell BK442.out 0).trans rfl, (blk_cell BK442.out 1).trans rfl, (blk_cell BK448.out 0).trans rfl, (blk_cell BK448.out 1).trans rfl, (blk_cell BK433.out 0).trans rfl, (blk_cell BK433.out 1).trans rfl, (blk_cell BK433.out 2).trans rfl, (blk_cell BK433.out 3).trans rfl, (blk_cell BK433.out 4).trans rfl⟩ (fun hHeld => ?_)
             clear hK K
             refine norm_ (a' := ?_) ?_ ?_
             rotate_left
             ·show Act.put _ (some 109) _ = _
              simp only [Act.put, List.setIfInBounds_toArray, List.set_cons_zero, List.set_cons_succ, i64_w, i32_w]
              rfl
             refine join_ (σ := Value) 10 #[true, true, true, true, true, true, true, true, true, true, true, true, true, true, true, true, true, true, true, true, true, true, true, true, true, true, true, false, false, false, false, false, false, false, false, false, false] (fun s_ => [(110, .string (strOfNums t462)), (112, s_), (113, .string (strOfNums t465))]) (fun s_ w' => (w'.cell? ⟨gb442, 0, none⟩ = some (.string t437) ∧ w'.cell? ⟨gb442, 1, none⟩ = some (.slice Ao27 t438.length co27) ∧ w'.cell? ⟨gb448, 0, none⟩ = some (.string t443) ∧ w'.cell? ⟨gb448, 1, none⟩ = some (.slice Ao34 t444.length co34) ∧ w'.cell? ⟨gb433, 0, none⟩ = some (.int .i64 a1_0) ∧ w'.cell? ⟨gb433, 1, none⟩ = some (.int .i64 a1_1) ∧ w'.cell? ⟨gb433, 2, none⟩ = some (.int .i64 a1_2) ∧ w'.cell? ⟨gb433, 3, none⟩ = some (.string a1_3) ∧ w'.cell? ⟨gb433, 4, none⟩ = some (.slice A1_4 l1_4.length c1_4)) ∧ (Kd.R (Kd.int .u8) 5 w' w.heap.size (fun k_ => some k_ ≠ (s_ : Value).ownBlock) v463 t462) ∧ (Kd.R (Kd.int .u8) 5 w' w.heap.size (fun k_ => some k_ ≠ (v463 : Value).ownBlock) s_ t465) ∧ (Kd.V k55 55 w' w.heap.size (fun k_ => some k_ ≠ (v463 : Value).ownBlock ∧ some k_ ≠ (s_ : Value).ownBlock ∧ k_ ≠ gb433 ∧ k_ ≠ gb442 ∧ k_ ≠ gb448) (.slice Ao27 t438.length co27) t438) ∧ (Kd.V k55 55 w' w.heap.size (fun k_ => some k_ ≠ (v463 : Value).ownBlock ∧ some k_ ≠ (s_ : Value).ownBlock ∧ k_ ≠ gb433 ∧ k_ ≠ gb442 ∧ k_ ≠ gb448) (.slice Ao34 t444.length co34) t444) ∧ (w'.heap[gb433]? = some (.cells #[.int .i64 a1_0, .int .i64 a1_1, .int .i64 a1_2, .string a1_3, .slice A1_4 l1_4.length c1_4] 25 (0, 0))) ∧ (w'.heap[gb442]? = some (.cells #[.string t437, .slice Ao27 t438.length co27] 31 (0, 0))) ∧ (w'.heap[gb448]? = some (.cells #[.string t443, .slice Ao34 t444.length co34] 31 (0, 0))) ∧ (Below w.heap.size w w')) ?_ ?_
             rotate_left
             ·intro hCont
              refine two_ (i := 23) (j := 25) (Ni := some 110) (Nj := some 112) #[true, true, true, true, true, true, true, true, true, true, true, true, true, true, true, true, true, true, true, true, true, true, true, true, true, false, false, false, false, false, false, false, false, false, false, false, false] #[true, true, true, true, true, true, true, true, true, true, true, true, true, true, true, true, true, true, true, true, true, true, true, false, true, true, false, false, false, false, false, false, false, false, false, false, false] rfl rfl rfl rfl (two_of HT_.out (by kernel_rfl)) (by decide) (by decide) (fun K hK => ?_) (fun K hK => ?_)
              ·skip
               have hcv67 := own_string (P := Try.prog) Try.underlying40 Try.underlying5 Try.underlying9 (Kd.own_of_R HO464.out)
               refine value_ (w1 := ?_) (v := ?_) (by rfl) rfl ?_ ?_
               rotate_left 2
               ·go_simp
                constructor
                ·rfl
                ·rfl
               clear hcv67
               refine hK.out _ _ ⟨(blk_cell BK442.out 0).trans rfl, (blk_cell BK442.out 1).trans rfl, (blk_cell BK448.out 0).trans rfl, (blk_cell BK448.out 1).trans rfl, (blk_cell BK433.out 0).trans rfl, (blk_cell BK433.out 1).trans rfl, (blk_cell BK433.out 2).trans rfl, (blk_cell BK433.out 3).trans rfl, (blk_cell BK433.out 4).trans rfl⟩ (fun hHeld => ?_)
               clear hK K
               refine norm_ (a' := ?_) ?_ ?_
               rotate_left
               ·show Act.put _ (some 110) _ = _
                simp only [Act.put, List.setIfInBounds_toArray, List.set_cons_zero, List.set_cons_succ, i64_w, i32_w]
                rfl
               refine one_ (i := 25) (N := some 112) #[true, true, true, true, true, true, true, true, true, true, true, true, true, true, true, true, true, true, true, true, true, true, true, true, true, true, false, false, false, false, false, false, false, false, false, false, false] rfl rfl (one_of HT_.out (by kernel_rfl)) (by decide) (fun K hK => ?_)
               refine goes_ Try.func22 (by kernel_rfl) rfl #[.agg #[.int .i64 a1_0, .int .i64 a1_1, .int .i64 a1_2, .string a1_3, .slice A1_4 l1_4.length c1_4]] (by rfl) rfl rfl (by (try simp only [List.map_toArray, List.map_cons, List.map_nil]); first | done | rfl | (simp only [List.length_drop, List.length_take]; rfl)) ?_
               with_reducible refine (auguryref05_Put.calls k2 a1_0 a1_1 a1_2 a1_3 _ _ l1_4 t465 _ ?side1 ?side2 A57.out).mono ?_
               (case side1 => repeat (first | exact (Kd.C_below HR1_4.out HB.out) | (with_reducible refine Kd.C_alloc ?_ _) | (with_reducible refine Kd.C_drewN ?_ _) | (with_reducible refine Kd.C_drew ?_)))
               (case side2 => exact HC1_4.out)
               rintro e w68 ⟨v466, rfl, ho0, hb⟩
               refine ⟨_, rfl, ?_⟩
               replace HO_443001 := Aside0.mk (Kd.V_elder' (Kd.pl_V HO_443001.out) (Kd.R_base ho0) hb)
               replace HO_449001 := Aside0.mk (Kd.V_elder' (Kd.pl_V HO_449001.out) (Kd.R_base ho0) hb)
               have HO467 := Aside0.mk (Kd.R_lower (Kd.R_new' ho0 (Kd.R_lt (Kd.pl_R HO464.out))) (below_size (pl_below HB.out)))
               replace HO464 := Aside0.mk (Kd.R_elder' (Kd.pl_R HO464.out) (Kd.R_base ho0) hb)
               replace BK433 := bb BK433 hb
               replace BK442 := bb BK442 hb
               replace BK448 := bb BK448 hb
               replace HB := hB HB hb
               (try clear hb)
               (try clear hb2)
               (try clear hk)
               (try clear hi)
               (try clear ho0)
               refine hK.out _ _ ⟨(blk_cell BK442.out 0).trans rfl, (blk_cell BK442.out 1).trans rfl, (blk_cell BK448.out 0).trans rfl, (blk_cell BK448.out 1).trans rfl, (blk_cell BK433.out 0).trans rfl, (blk_cell BK433.out 1).trans rfl, (blk_cell BK433.out 2).trans rfl, (blk_cell BK433.out 3).trans rfl, (blk_cell BK433.out 4).trans rfl⟩ (fun hHeld => ?_)
               clear hK K
               refine norm_ (a' := ?_) ?_ ?_
               rotate_left
               ·show Act.put _ (some 112) _ = _
                simp only [Act.put, List.setIfInBounds_toArray, List.set_cons_zero, List.set_cons_succ, i64_w, i32_w]
                rfl
               refine one_ (i := 26) (N := some 113) #[true, true, true, true, true, true, true, true, true, true, true, true, true, true, true, true, true, true, true, true, true, true, true, true, true, true, true, false, false, false, false, false, false, false, false, false, false] rfl rfl (one_of HT_.out (by kernel_rfl)) (by decide) (fun K hK => ?_)
               have hcv69 := own_string (P := Try.prog) Try.underlying40 Try.underlying5 Try.underlying9 (Kd.own_of_R HO467.out)
               refine value_ (w1 := ?_) (v := ?_) (by rfl) rfl ?_ ?_
               rotate_left 2
               ·go_simp
                constructor
                ·rfl
                ·rfl
               clear hcv69
               refine hK.out _ _ ⟨(blk_cell BK442.out 0).trans rfl, (blk_cell BK442.out 1).trans rfl, (blk_cell BK448.out 0).trans rfl, (blk_cell BK448.out 1).trans rfl, (blk_cell BK433.out 0).trans rfl, (blk_cell BK433.out 1).trans rfl, (blk_cell BK433.out 2).trans rfl, (blk_cell BK433.out 3).trans rfl, (blk_cell BK433.out 4).trans rfl⟩ (fun hHeld => ?_)
               clear hK K
               refine norm_ (a' := ?_) ?_ ?_
               rotate_left
               ·show Act.put _ (some 113) _ = _
                simp only [Act.put, List.setIfInBounds_toArray, List.set_cons_zero, List.set_cons_succ, i64_w, i32_w]
                rfl
               exact norm_ (by simp only [putAll, Act.put, List.setIfInBounds_toArray, List.set_cons_zero, List.set_cons_succ]) (hCont (v466) _ ⟨hHeld, (by (with_reducible repeat (first | apply Kd.R_alloc | apply Kd.R_drewN | apply Kd.R_drew)); exact Kd.R_mono HO464.out (fun _ hk => hk.2)), (by (with_reducible repeat (first | apply Kd.R_alloc | apply Kd.R_drewN | apply Kd.R_drew)); exact Kd.R_mono HO467.out (fun _ hk => hk.2)), (by (with_reducible repeat (first | apply Kd.V_alloc | apply Kd.V_drewN | apply Kd.V_drew)); exact Kd.V_mono HO_443001.out (fun _ hk => ⟨hk.1.2, ⟨hk.2, ⟨hk.1.1.1, ⟨hk.1.1.2.1, hk.1.1.2.2⟩⟩⟩⟩)), (by (with_reducible repeat (first | apply Kd.V_alloc | apply Kd.V_drewN | apply Kd.V_drew)); exact Kd.V_mono HO_449001.out (fun _ hk => ⟨hk.1.2, ⟨hk.2, ⟨hk.1.1.1, ⟨hk.1.1.2.1, hk.1.1.2.2⟩⟩⟩⟩)), (pl_blk BK433.out), (pl_blk BK442.out), (pl_blk BK448.out), (pl_below HB.out)⟩)
              ·skip
               refine goes_ Try.func22 (by kernel_rfl) rfl #[.agg #[.int .i64 a1_0, .int .i64 a1_1, .int .i64 a1_2, .string a1_3, .slice A1_4 l1_4.length c1_4]] (by rfl) rfl rfl (by (try simp only [List.map_toArray, List.map_cons, List.map_nil]); first | done | rfl | (simp only [List.length_drop, List.length_take]; rfl)) ?_
               with_reducible refine (auguryref05_Put.calls k2 a1_0 a1_1 a1_2 a1_3 _ _ l1_4 t465 _ ?side1 ?side2 A57.out).mono ?_
               (case side1 => repeat (first | exact (Kd.C_below HR1_4.out HB.out) | (with_reducible refine Kd.C_alloc ?_ _) | (with_reducible refine Kd.C_drewN ?_ _) | (with_reducible refine Kd.C_drew ?_)))
               (case side2 => exact HC1_4.out)
               rintro e w67 ⟨v466, rfl, ho0, hb⟩
               refine ⟨_, rfl, ?_⟩
               replace HO_443001 := Aside0.mk (Kd.V_elder' (Kd.pl_V HO_443001.out) (Kd.R_base ho0) hb)
               replace HO_449001 := Aside0.mk (Kd.V_elder' (Kd.pl_V HO_449001.out) (Kd.R_base ho0) hb)
               have HO467 := Aside0.mk (Kd.R_lower (Kd.R_new' ho0 (Kd.R_lt (Kd.pl_R HO464.out))) (below_size (pl_below HB.out)))
               replace HO464 := Aside0.mk (Kd.R_elder' (Kd.pl_R HO464.out) (Kd.R_base ho0) hb)
               replace BK433 := bb BK433 hb
               replace BK442 := bb BK442 hb
               replace BK448 := bb BK448 hb
               replace HB := hB HB hb
               (try clear hb)
               (try clear hb2)
               (try clear hk)
               (try clear hi)
               (try clear ho0)
               refine hK.out _ _ ⟨(blk_cell BK442.out 0).trans rfl, (blk_cell BK442.out 1).trans rfl, (blk_cell BK448.out 0).trans rfl, (blk_cell BK448.out 1).trans rfl, (blk_cell BK433.out 0).trans rfl, (blk_cell BK433.out 1).trans rfl, (blk_cell BK433.out 2).trans rfl, (blk_cell BK433.out 3).trans rfl, (blk_cell BK433.out 4).trans rfl⟩ (fun hHeld => ?_)
               clear hK K
               refine norm_ (a' := ?_) ?_ ?_
               rotate_left
               ·show Act.put _ (some 112) _ = _
                simp only [Act.put, List.setIfInBounds_toArray, List.set_cons_zero, List.set_cons_succ, i64_w, i32_w]
                rfl
               refine two_ (i := 23) (j := 26) (Ni := some 110) (Nj := some 113) #[true, true, true, true, true, true, true, true, true, true, true, true, true, true, true, true, true, true, true, true, true, true, true, true, true, true, false, false, false, false, false, false, false, false, false, false, false] #[true, true, true, true, true, true, true, true, true, true, true, true, true, true, true, true, true, true, true, true, true, true, true, false, true, true, true, false, false, false, false, false, false, false, false, false, false] rfl rfl rfl rfl (two_of HT_.out (by kernel_rfl)) (by decide) (by decide) (fun K hK => ?_) (fun K hK => ?_)
               ·skip
                have hcv68 := own_string (P := Try.prog) Try.underlying40 Try.underlying5 Try.underlying9 (Kd.own_of_R HO464.out)
                refine value_ (w1 := ?_) (v := ?_) (by rfl) rfl ?_ ?_
                rotate_left 2
                ·go_simp
                 constructor
                 ·rfl
                 ·rfl
                clear hcv68
                refine hK.out _ _ ⟨(blk_cell BK442.out 0).trans rfl, (blk_cell BK442.out 1).trans rfl, (blk_cell BK448.out 0).trans rfl, (blk_cell BK448.out 1).trans rfl, (blk_cell BK433.out 0).trans rfl, (blk_cell BK433.out 1).trans rfl, (blk_cell BK433.out 2).trans rfl, (blk_cell BK433.out 3).trans rfl, (blk_cell BK433.out 4).trans rfl⟩ (fun hHeld => ?_)
                clear hK K
                refine norm_ (a' := ?_) ?_ ?_
                rotate_left
                ·show Act.put _ (some 110) _ = _
                 simp only [Act.put, List.setIfInBounds_toArray, List.set_cons_zero, List.set_cons_succ, i64_w, i32_w]
                 rfl
                refine one_ (i := 26) (N := some 113) #[true, true, true, true, true, true, true, true, true, true, true, true, true, true, true, true, true, true, true, true, true, true, true, true, true, true, true, false, false, false, false, false, false, false, false, false, false] rfl rfl (one_of HT_.out (by kernel_rfl)) (by decide) (fun K hK => ?_)
                have hcv69 := own_string (P := Try.prog) Try.underlying40 Try.underlying5 Try.underlying9 (Kd.own_of_R HO467.out)
                refine value_ (w1 := ?_) (v := ?_) (by rfl) rfl ?_ ?_
                rotate_left 2
                ·go_simp
                 constructor
                 ·rfl
                 ·rfl
                clear hcv69
                refine hK.out _ _ ⟨(blk_cell BK442.out 0).trans rfl, (blk_cell BK442.out 1).trans rfl, (blk_cell BK448.out 0).trans rfl, (blk_cell BK448.out 1).trans rfl, (blk_cell BK433.out 0).trans rfl, (blk_cell BK433.out 1).trans rfl, (blk_cell BK433.out 2).trans rfl, (blk_cell BK433.out 3).trans rfl, (blk_cell BK433.out 4).trans rfl⟩ (fun hHeld => ?_)
                clear hK K
                refine norm_ (a' := ?_) ?_ ?_
                rotate_left
                ·show Act.put _ (some 113) _ = _
                 simp only [Act.put, List.setIfInBounds_toArray, List.set_cons_zero, List.set_cons_succ, i64_w, i32_w]
                 rfl
                exact norm_ (by simp only [putAll, Act.put, List.setIfInBounds_toArray, List.set_cons_zero, List.set_cons_succ]) (hCont (v466) _ ⟨hHeld, (by (with_reducible repeat (first | apply Kd.R_alloc | apply Kd.R_drewN | apply Kd.R_drew)); exact Kd.R_mono HO464.out (fun _ hk => hk.2)), (by (with_reducible repeat (first | apply Kd.R_alloc | apply Kd.R_drewN | apply Kd.R_drew)); exact Kd.R_mono HO467.out (fun _ hk => hk.2)), (by (with_reducible repeat (first | apply Kd.V_alloc | apply Kd.V_drewN | apply Kd.V_drew)); exact Kd.V_mono HO_443001.out (fun _ hk => ⟨hk.1.2, ⟨hk.2, ⟨hk.1.1.1, ⟨hk.1.1.2.1, hk.1.1.2.2⟩⟩⟩⟩)), (by (with_reducible repeat (first | apply Kd.V_alloc | apply Kd.V_drewN | apply Kd.V_drew)); exact Kd.V_mono HO_449001.out (fun _ hk => ⟨hk.1.2, ⟨hk.2, ⟨hk.1.1.1, ⟨hk.1.1.2.1, hk.1.1.2.2⟩⟩⟩⟩)), (pl_blk BK433.out), (pl_blk BK442.out), (pl_blk BK448.out), (pl_below HB.out)⟩)
               ·skip
                have hcv68 := own_string (P := Try.prog) Try.underlying40 Try.underlying5 Try.underlying9 (Kd.own_of_R HO467.out)
                refine value_ (w1 := ?_) (v := ?_) (by rfl) rfl ?_ ?_
                rotate_left 2
                ·go_simp
                 constructor
                 ·rfl
                 ·rfl
                clear hcv68
                refine hK.out _ _ ⟨(blk_cell BK442.out 0).trans rfl, (blk_cell BK442.out 1).trans rfl, (blk_cell BK448.out 0).trans rfl, (blk_cell BK448.out 1).trans rfl, (blk_cell BK433.out 0).trans rfl, (blk_cell BK433.out 1).trans rfl, (blk_cell BK433.out 2).trans rfl, (blk_cell BK433.out 3).trans rfl, (blk_cell BK433.out 4).trans rfl⟩ (fun hHeld => ?_)
                clear hK K
                refine norm_ (a' := ?_) ?_ ?_
                rotate_left
                ·show Act.put _ (some 113) _ = _
                 simp only [Act.put, List.setIfInBounds_toArray, List.set_cons_zero, List.set_cons_succ, i64_w, i32_w]
                 rfl
                refine one_ (i := 23) (N := some 110) #[true, true, true, true, true, true, true, true, true, true, true, true, true, true, true, true, true, true, true, true, true, true, true, true, true, true, true, false, false, false, false, false, false, false, false, false, false] rfl rfl (one_of HT_.out (by kernel_rfl)) (by decide) (fun K hK => ?_)
                have hcv69 := own_string (P := Try.prog) Try.underlying40 Try.underlying5 Try.underlying9 (Kd.own_of_R HO464.out)
                refine value_ (w1 := ?_) (v := ?_) (by rfl) rfl ?_ ?_
                rotate_left 2
                ·go_simp
                 constructor
                 ·rfl
                 ·rfl
                clear hcv69
                refine hK.out _ _ ⟨(blk_cell BK442.out 0).trans rfl, (blk_cell BK442.out 1).trans rfl, (blk_cell BK448.out 0).trans rfl, (blk_cell BK448.out 1).trans rfl, (blk_cell BK433.out 0).trans rfl, (blk_cell BK433.out 1).trans rfl, (blk_cell BK433.out 2).trans rfl, (blk_cell BK433.out 3).trans rfl, (blk_cell BK433.out 4).trans rfl⟩ (fun hHeld => ?_)
                clear hK K
                refine norm_ (a' := ?_) ?_ ?_
                rotate_left
                ·show Act.put _ (some 110) _ = _
                 simp only [Act.put, List.setIfInBounds_toArray, List.set_cons_zero, List.set_cons_succ, i64_w, i32_w]
                 rfl
                exact norm_ (by simp only [putAll, Act.put, List.setIfInBounds_toArray, List.set_cons_zero, List.set_cons_succ]) (hCont (v466) _ ⟨hHeld, (by (with_reducible repeat (first | apply Kd.R_alloc | apply Kd.R_drewN | apply Kd.R_drew)); exact Kd.R_mono HO464.out (fun _ hk => hk.2)), (by (with_reducible repeat (first | apply Kd.R_alloc | apply Kd.R_drewN | apply Kd.R_drew)); exact Kd.R_mono HO467.out (fun _ hk => hk.2)), (by (with_reducible repeat (first | apply Kd.V_alloc | apply Kd.V_drewN | apply Kd.V_drew)); exact Kd.V_mono HO_443001.out (fun _ hk => ⟨hk.1.2, ⟨hk.2, ⟨hk.1.1.1, ⟨hk.1.1.2.1, hk.1.1.2.2⟩⟩⟩⟩)), (by (with_reducible repeat (first | apply Kd.V_alloc | apply Kd.V_drewN | apply Kd.V_drew)); exact Kd.V_mono HO_449001.out (fun _ hk => ⟨hk.1.2, ⟨hk.2, ⟨hk.1.1.1, ⟨hk.1.1.2.1, hk.1.1.2.2⟩⟩⟩⟩)), (pl_blk BK433.out), (pl_blk BK442.out), (pl_blk BK448.out), (pl_below HB.out)⟩)
             rintro v466 w70 ⟨hS_, h0_, h1_, h2_, h3_, h4_, h5_, h6_, h7_⟩
             have n0_ : Aside0 (Kd.R (Kd.int .u8) 5 w70 w.heap.size (fun k_ => some k_ ≠ (v466 : Value).ownBlock) v463 t462) := ⟨h0_⟩
             have n1_ : Aside0 (Kd.R (Kd.int .u8) 5 w70 w.heap.size (fun k_ => some k_ ≠ (v463 : Value).ownBlock) v466 t465) := ⟨h1_⟩
             have n2_ : Aside0 (Kd.V k55 55 w70 w.heap.size (fun k_ => some k_ ≠ (v463 : Value).ownBlock ∧ some k_ ≠ (v466 : Value).ownBlock ∧ k_ ≠ gb433 ∧ k_ ≠ gb442 ∧ k_ ≠ gb448) (.slice Ao27 t438.length co27) t438) := ⟨h2_⟩
             have n3_ : Aside0 (Kd.V k55 55 w70 w.heap.size (fun k_ => some k_ ≠ (v463 : Value).ownBlock ∧ some k_ ≠ (v466 : Value).ownBlock ∧ k_ ≠ gb433 ∧ k_ ≠ gb442 ∧ k_ ≠ gb448) (.slice Ao34 t444.length co34) t444) := ⟨h3_⟩
             have n4_ : Aside0 (w70.heap[gb433]? = some (.cells #[.int .i64 a1_0, .int .i64 a1_1, .int .i64 a1_2, .string a1_3, .slice A1_4 l1_4.length c1_4] 25 (0, 0))) := ⟨h4_⟩
             have n5_ : Aside0 (w70.heap[gb442]? = some (.cells #[.string t437, .slice Ao27 t438.length co27] 31 (0, 0))) := ⟨h5_⟩
             have n6_ : Aside0 (w70.heap[gb448]? = some (.cells #[.string t443, .slice Ao34 t444.length co34] 31 (0, 0))) := ⟨h6_⟩
             have n7_ : Aside0 (Below w.heap.size w w70) := ⟨h7_⟩
             clear HO_443001
             clear HO_449001
             clear BK433
             clear BK442
             clear BK448
             clear HB
             clear h0_ h1_ h2_ h3_ h4_ h5_ h6_ h7_
             have HO464 := n0_
             have HO467 := n1_
             have HO_443001 := n2_
             have HO_449001 := n3_
             have BK433 := n4_
             have BK442 := n5_
             have BK448 := n6_
             have HB := n7_
             clear n0_ n1_ n2_ n3_ n4_ n5_ n6_ n7_
             have hHeld : w70.cell? ⟨gb442, 0, none⟩ = some (.string t437) ∧ w70.cell? ⟨gb442, 1, none⟩ = some (.slice Ao27 t438.length co27) ∧ w70.cell? ⟨gb448, 0, none⟩ = some (.string t443) ∧ w70.cell? ⟨gb448, 1, none⟩ = some (.slice Ao34 t444.length co34) ∧ w70.cell? ⟨gb433, 0, none⟩ = some (.int .i64 a1_0) ∧ w70.cell? ⟨gb433, 1, none⟩ = some (.int .i64 a1_1) ∧ w70.cell? ⟨gb433, 2, none⟩ = some (.int .i64 a1_2) ∧ w70.cell? ⟨gb433, 3, none⟩ = some (.string a1_3) ∧ w70.cell? ⟨gb433, 4, none⟩ = some (.slice A1_4 l1_4.length c1_4) := hS_
             refine norm_ (a' := ?_) ?_ ?_
             rotate_left
             ·simp only [putAll, Act.put, List.setIfInBounds_toArray, List.set_cons_zero, List.set_cons_succ]
              rfl
             refine pure_ (i := 27) (N := some 114) (v := ?_) (a' := ?_) #[true, true, true, true, true, true, true, true, true, true, true, true, true, true, true, true, true, true, true, true, true, true, true, true, true, true, true, true, false, false, false, false, false, false, false, false, false] rfl rfl (any_of HT_.out (by kernel_rfl)) (fun _ _ _ h => h) (Or.inl ⟨by rfl, ?_⟩) ?_ ?_
             rotate_left
             ·intro w'
              go_simp
              with_reducible rfl
             rotate_left
             ·simp only [Act.put, List.setIfInBounds_toArray, List.set_cons_zero, List.set_cons_succ, i64_w, i32_w]
              rfl
             refine pure_ (i := 28) (N := some 115) (v := ?_) (a' := ?_) #[true, true, true, true, true, true, true, true, true, true, true, true, true, true, true, true, true, true, true, true, true, true, true, true, true, true, true, true, true, false, false, false, false, false, false, false, false] rfl rfl (any_of HT_.out (by kernel_rfl)) (fun _ _ _ h => h) (Or.inl ⟨by rfl, ?_⟩) ?_ ?_
             rotate_left
             ·intro w'
              go_simp
              with_reducible rfl
             rotate_left
             ·simp only [Act.put, List.setIfInBounds_toArray, List.set_cons_zero, List.set_cons_succ, i64_w, i32_w]
              rfl
             refine pure_ (i := 29) (N := some 116) (v := ?_) (a' := ?_) #[true, true, true, true, true, true, true, true, true, true, true, true, true, true, true, true, true, true, true, true, true, true, true, true, true, true, true, true, true, true, false, false, false, false, false, false, false] rfl rfl (any_of HT_.out (by kernel_rfl)) (fun _ _ _ h => h) (Or.inl ⟨by rfl, ?_⟩) ?_ ?_
             rotate_left
             ·intro w'
              go_simp
              with_reducible rfl
             rotate_left
             ·simp only [Act.put, List.setIfInBounds_toArray, List.set_cons_zero, List.set_cons_succ, i64_w, i32_w]
              rfl
             refine pure_ (i := 30) (N := some 117) (v := ?_) (a' := ?_) #[true, true, true, true, true, true, true, true, true, true, true, true, true, true, true, true, true, true, true, true, true, true, true, true, true, true, true, true, true, true, true, false, false, false, false, false, false] rfl rfl (any_of HT_.out (by kernel_rfl)) (fun _ _ _ h => h) (Or.inl ⟨by rfl, ?_⟩) ?_ ?_
             rotate_left
             ·intro w'
              go_simp
              with_reducible rfl
             rotate_left
             ·simp only [Act.put, List.setIfInBounds_toArray, List.set_cons_zero, List.set_cons_succ, i64_w, i32_w]
              rfl
             refine pure_ (i := 32) (N := some 119) (v := ?_) (a' := ?_) #[true, true, true, true, true, true, true, true, true, true, true, true, true, true, true, true, true, true, true, true, true, true, true, true, true, true, true, true, true, true, true, false, true, false, false, false, false] rfl rfl (any_of HT_.out (by kernel_rfl)) (fun _ _ _ h => h) (Or.inl ⟨by rfl, ?_⟩) ?_ ?_
             rotate_left
             ·intro w'
              go_simp
              with_reducible rfl
             rotate_left
             ·simp only [Act.put, List.setIfInBounds_toArray, List.set_cons_zero, List.set_cons_succ, i64_w, i32_w]
              rfl
             refine one_ (i := 31) (N := some 118) #[true, true, true, true, true, true, true, true, true, true, true, true, true, true, true, true, true, true, true, true, true, true, true, true, true, true, true, true, true, true, true, true, true, false, false, false, false] rfl rfl (one_of HT_.out (by kernel_rfl)) (by decide) (fun K hK => ?_)
             refine goes_ Try.func23 (by kernel_rfl) rfl #[.string a2] (by rfl) rfl rfl (by (try simp only [List.map_toArray, List.map_cons, List.map_nil]); first | done | rfl | (simp only [List.length_drop, List.length_take]; rfl)) ?_
             with_reducible refine (event_Word.calls k2 a2 t468 _ A59.out).mono ?_
             rintro e w' ⟨rfl, ⟨nd, rfl⟩⟩
             refine ⟨_, rfl, ?_⟩
             refine hK.out _ _ ⟨(blk_cell BK442.out 0).trans rfl, (blk_cell BK442.out 1).trans rfl, (blk_cell BK448.out 0).trans rfl, (blk_cell BK448.out 1).trans rfl, (blk_cell BK433.out 0).trans rfl, (blk_cell BK433.out 1).trans rfl, (blk_cell BK433.out 2).trans rfl, (blk_cell BK433.out 3).trans rfl, (blk_cell BK433.out 4).trans rfl⟩ (fun hHeld => ?_)
             clear hK K
             refine norm_ (a' := ?_) ?_ ?_
             rotate_left
             ·show Act.put _ (some 118) _ = _
              simp only [Act.put, List.setIfInBounds_toArray, List.set_cons_zero, List.set_cons_succ, i64_w, i32_w]
              rfl
             refine one_ (i := 33) (N := some 120) #[true, true, true, true, true, true, true, true, true, true, true, true, true, true, true, true, true, true, true, true, true, true, true, true, true, true, true, true, true, true, true, true, true, true, false, false, false] rfl rfl (one_of HT_.out (by kernel_rfl)) (by decide) (fun K hK => ?_)
             refine goes_ Try.func24 (by kernel_rfl) rfl #[.string a2] (by rfl) rfl rfl (by (try simp only [List.map_toArray, List.map_cons, List.map_nil]); first | done | rfl | (simp only [List.length_drop, List.length_take]; rfl)) ?_
             with_reducible refine (auguryref05_Word.calls k2 a2 t469 _ A60.out).mono ?_
             rintro e w' ⟨rfl, ⟨nd, rfl⟩⟩
             refine ⟨_, rfl, ?_⟩
             refine hK.out _ _ ⟨(blk_cell BK442.out 0).trans rfl, (blk_cell BK442.out 1).trans rfl, (blk_cell BK448.out 0).trans rfl, (blk_cell BK448.out 1).trans rfl, (blk_cell BK433.out 0).trans rfl, (blk_cell BK433.out 1).trans rfl, (blk_cell BK433.out 2).trans rfl, (blk_cell BK433.out 3).trans rfl, (blk_cell BK433.out 4).trans rfl⟩ (fun hHeld => ?_)
             clear hK K
             refine norm_ (a' := ?_) ?_ ?_
             rotate_left
             ·show Act.put _ (some 120) _ = _
              simp only [Act.put, List.setIfInBounds_toArray, List.set_cons_zero, List.set_cons_succ, i64_w, i32_w]
              rfl
             refine pure_ (i := 34) (N := some 121) (v := ?_) (a' := ?_) #[true, true, true, true, true, true, true, true, true, true, true, true, true, true, true, true, true, true, true, true, true, true, true, true, true, true, true, true, true, true, true, true, true, true, true, false, false] rfl rfl (any_of HT_.out (by kernel_rfl)) (fun _ _ _ h => h) (Or.inl ⟨by rfl, ?_⟩) ?_ ?_
             rotate_left
             ·intro w'
              go_simp
              with_reducible rfl
             rotate_left
             ·simp only [Act.put, List.setIfInBounds_toArray, List.set_cons_zero, List.set_cons_succ, i64_w, i32_w]
              rfl
             refine pure_ (i := 35) (N := some 122) (v := ?_) (a' := ?_) #[true, true, true, true, true, true, true, true, true, true, true, true, true, true, true, true, true, true, true, true, true, true, true, true, true, true, true, true, true, true, true, true, true, true, true, true, false] rfl rfl (any_of HT_.out (by kernel_rfl)) (fun _ _ _ h => h) (Or.inl ⟨by rfl, ?_⟩) ?_ ?_
             rotate_left
             ·intro w'
              go_simp
              with_reducible rfl
             rotate_left
             ·simp only [Act.put, List.setIfInBounds_toArray, List.set_cons_zero, List.set_cons_succ, i64_w, i32_w]
              rfl
             refine pure_ (i := 36) (N := some 6) (v := ?_) (a' := ?_) #[true, true, true, true, true, true, true, true, true, true, true, true, true, true, true, true, true, true, true, true, true, true, true, true, true, true, true, true, true, true, true, true, true, true, true, true, true] rfl rfl (any_of HT_.out (by kernel_rfl)) (fun _ _ _ h => h) (Or.inl ⟨by rfl, ?_⟩) ?_ ?_
             rotate_left
             ·intro w'
              go_simp
              with_reducible rfl
             rotate_left
             ·simp only [Act.put, List.setIfInBounds_toArray, List.set_cons_zero, List.set_cons_succ, i64_w, i32_w]
              rfl
             refine done_ (done_of HT_.out (by kernel_rfl)) ?_
             try go_wp2
             go_ret
             exact ⟨by first | rfl | (simp [errW_none, errW_some] <;> rfl) | (simp [*, errW_none, errW_some] <;> rfl), pl_below HB.out⟩
            ·rw [if_neg c58] at H
             have c58b0 : ((strOfNums t462).toList == (strOfNums t465).toList) = false := beq_eq_false_iff_ne.mpr c58
             have c58b1 : ((strOfNums t462).toList != (strOfNums t465).toList) = true := bne_iff_ne.mpr c58
             exact absurd H (by simp)
           ·rw [if_neg c55] at H
            have c55b0 : (t460 == t461) = false := beq_eq_false_iff_ne.mpr c55
            have c55b1 : (t460 != t461) = true := bne_iff_ne.mpr c55
            exact absurd H (by simp)
          ·rw [if_neg c52] at H
           have c52b0 : (t441 == t447) = false := by simpa using c52
           (try (have c52b1 : decide (t441 = t447) = false := by simpa using c52))
           (try (have c52b2 : (t441 == t447) = false := by simpa using c52))
           (try (have c52b3 : ¬ (t441 = t447) := by simpa using c52))
           clear c52
           exact absurd H (by simp)
         ·replace c51 := Bool.eq_false_iff.mpr c51
          subst c51
          rw [if_neg (show ¬ (false = true) by decide)] at H
          exact absurd H (by simp)
        ·replace c49 := Bool.eq_false_iff.mpr c49
         subst c49
         rw [if_neg (show ¬ (false = true) by decide)] at H
         exact absurd H (by simp)

/-- THE ONE PURE STATEMENT of augurylaw05_EventTells: yours. -/
def augurylaw05_EventTells.Pure : Prop := ∀ (l0 : List (S31)) (x1 : S25) (a2 : ByteArray), (l0.length ≤ 140737488351232 ∧ ∀ x ∈ l0, ok31 x) → ok25 x1 → a2.size ≤ 140737488351232 → ∃ k, augurylaw05_EventTells.f k l0 x1.f0 x1.f1 x1.f2 x1.f3 x1.f4 a2 = some true

end Go.Proofs.Ytbnjhmcbkocdjaa.PAll
