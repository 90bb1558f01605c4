/- Written by this session's own program (wip/xprint): functions of the Go program as Lean functions, and proofs that the Go code computes them. -/
import Derived.Test.YtbnjhmcbkocdjaaPAllx0
import Derived.Test.YtbnjhmcbkocdjaaPAllx19
import Derived.Test.YtbnjhmcbkocdjaaPAllx32
import Derived.Test.YtbnjhmcbkocdjaaPAllx33
import Derived.Test.YtbnjhmcbkocdjaaPAllx34
import Derived.Test.YtbnjhmcbkocdjaaPAllx40
namespace Go.Proofs.Ytbnjhmcbkocdjaa.PAll
open Go.RowKit Go.Proofs.YtbnjhmcbkocdjaaW.PrintWords Go.Proofs.YtbnjhmcbkocdjaaW.PrintLast Go.Proofs.YtbnjhmcbkocdjaaW.PrintMore
attribute [local go_sem] max2_int min2_int max_two min_two max_three min_three max_four min_four   -- for this text's walks alone
set_option linter.unusedVariables false
set_option linter.unusedSimpArgs false

/-! ### augurylaw05_EventFits: function 7 -/
mutual
def augurylaw05_EventFits.j0 : Nat → Int → Bool → Bool → ByteArray → List (S55) → Int → Int → Int → ByteArray → List (S52) → Int → Int → ByteArray → Option (Bool)
  | 0, _, _, _, _, _, _, _, _, _, _, _, _, _ => none
  | k + 1, x2, x9, x34, x581000, x581001, x582000, x582001, x582002, x582003, x582004, x583000, x583001, x583002 => if x34 = true then (if x9 = true then (some true) else (none)) else ((some (([] : List (S52)) : List (S52))).bind fun y595 => (if y595.length + x582004.length < 4398046511104 then ((some (y595 ++ x582004 : List (S52))).bind fun y598 => ((some (([(⟨x583000, x583001, x583002⟩ : S52)] : List (S52)) : List (S52))).bind fun y601 => (if y598.length + y601.length < 4398046511104 then (if (x582004.length : Int) = (x581001.length : Int) then ((event_Fits.f k (([(⟨x581000, x581001⟩ : S31)] : List (S31))) x582000 x582001 x582002 x582003 (y598 ++ y601)).bind fun t610 => (augurylaw05_EventFits.j1 k x2 x9 (t610 == 0) x581000 x581001 x582000 x582001 x582002 x582003 x582004 x583000 x583001 x583002)) else (augurylaw05_EventFits.j1 k x2 x9 true x581000 x581001 x582000 x582001 x582002 x582003 x582004 x583000 x583001 x583002)) else (none)))) else (none)))
def augurylaw05_EventFits.j1 : Nat → Int → Bool → Bool → ByteArray → List (S55) → Int → Int → Int → ByteArray → List (S52) → Int → Int → ByteArray → Option (Bool)
  | 0, _, _, _, _, _, _, _, _, _, _, _, _, _ => none
  | k + 1, x2, x9, x58, x581000, x581001, x582000, x582001, x582002, x582003, x582004, x583000, x583001, x583002 => if x58 = true then (none) else (augurylaw05_EventFits.l0 k x2 x9 0 x581000 x581001 x582000 x582001 x582002 x582003 x582004 x583000 x583001 x583002)
def augurylaw05_EventFits.l0 : Nat → Int → Bool → Int → ByteArray → List (S55) → Int → Int → Int → ByteArray → List (S52) → Int → Int → ByteArray → Option (Bool)
  | 0, _, _, _, _, _, _, _, _, _, _, _, _, _ => none
  | k + 1, x2, x9, x11, x581000, x581001, x582000, x582001, x582002, x582003, x582004, x583000, x583001, x583002 => if x11 < (x582004.length : Int) then (if 0 ≤ x11 then (if x11 < (x581001.length : Int) then (if ((rd_T52 x582004 x11).f0) = ((rd_T55 x581001 x11).f1) then (augurylaw05_EventFits.l0 k x2 x9 (wrap64 (x11 + 1)) x581000 x581001 x582000 x582001 x582002 x582003 x582004 x583000 x583001 x583002) else (none)) else (none)) else (none)) else (if (x582004.length : Int) = 0 then (if x9 = true then (some true) else (none)) else ((some (([] : List (S52)) : List (S52))).bind fun y614 => (if 0 ≤ (Int.tmod (wrap64 (x2)) (x582004.length : Int)) then (if (Int.tmod (wrap64 (x2)) (x582004.length : Int)) ≤ (x582004.length : Int) then ((some (x582004.take ((Int.tmod (wrap64 (x2)) (x582004.length : Int)) : Int).toNat : List (S52))).bind fun y617 => (if y614.length + y617.length < 4398046511104 then ((some (y614 ++ y617 : List (S52))).bind fun y621 => (if 0 ≤ (wrap64 ((Int.tmod (wrap64 (x2)) (x582004.length : Int)) + 1)) then (if (wrap64 ((Int.tmod (wrap64 (x2)) (x582004.length : Int)) + 1)) ≤ (x582004.length : Int) then ((some (x582004.drop ((wrap64 ((Int.tmod (wrap64 (x2)) (x582004.length : Int)) + 1)) : Int).toNat : List (S52))).bind fun y624 => (if y621.length + y624.length < 4398046511104 then ((some (([] : List (S52)) : List (S52))).bind fun y632 => (if y632.length + y617.length < 4398046511104 then ((some (y632 ++ y617 : List (S52))).bind fun y639 => ((some (([(⟨x583000, x583001, x583002⟩ : S52)] : List (S52)) : List (S52))).bind fun y642 => (if y639.length + y642.length < 4398046511104 then ((some (y639 ++ y642 : List (S52))).bind fun y645 => (if y645.length + y624.length < 4398046511104 then (if x9 = true then ((event_Fits.f k (([(⟨x581000, x581001⟩ : S31)] : List (S31))) x582000 x582001 x582002 x582003 (y621 ++ y624)).bind fun t658 => (if t658 = 42 then ((event_Fits.f k (([(⟨x581000, x581001⟩ : S31)] : List (S31))) x582000 x582001 x582002 x582003 (y645 ++ y624)).bind fun t662 => (if (Int.tmod (wrap64 (x2)) (x582004.length : Int)) < (x581001.length : Int) then (if ((t662 == 0) == (x583000 == ((rd_T55 x581001 (Int.tmod (wrap64 (x2)) (x582004.length : Int))).f1))) = true then (some true) else (none)) else (none))) else (none))) else (none)) else (none))) else (none)))) else (none))) else (none))) else (none)) else (none))) else (none))) else (none)) else (none))))
end
def augurylaw05_EventFits.f (k : Nat) (a0_0 : ByteArray) (l0_1 : List (S55)) (a1_0 : Int) (a1_1 : Int) (a1_2 : Int) (a1_3 : ByteArray) (l1_4 : List (S52)) (a2 : Int) (a3_0 : Int) (a3_1 : Int) (a3_2 : ByteArray) : Option (Bool) := (augurylaw05_head.f k).bind fun t583 => ((augurylaw05_GreatSchemas.f k (([(⟨a0_0, l0_1⟩ : S31)] : List (S31)))).bind fun t587 => (if t587 = true then (augurylaw05_EventFits.j0 k a2 t583 true a0_0 l0_1 a1_0 a1_1 a1_2 a1_3 l1_4 a3_0 a3_1 a3_2) else ((augurylaw05_GreatEvent.f k a1_0 a1_1 a1_2 a1_3 l1_4).bind fun t588 => (if t588 = true then (augurylaw05_EventFits.j0 k a2 t583 true a0_0 l0_1 a1_0 a1_1 a1_2 a1_3 l1_4 a3_0 a3_1 a3_2) else ((auguryref04_Right.f a3_0 a3_1 a3_2).bind fun t589 => (if t589 = true then ((event_Fits.f k (([(⟨a0_0, l0_1⟩ : S31)] : List (S31))) a1_0 a1_1 a1_2 a1_3 l1_4).bind fun t593 => (augurylaw05_EventFits.j0 k a2 t583 (t593 != 0) a0_0 l0_1 a1_0 a1_1 a1_2 a1_3 l1_4 a3_0 a3_1 a3_2)) else (augurylaw05_EventFits.j0 k a2 t583 true a0_0 l0_1 a1_0 a1_1 a1_2 a1_3 l1_4 a3_0 a3_1 a3_2)))))))
theorem augurylaw05_EventFits.mono_l : ∀ k, (∀ y0 y1 y2 y3 y4 y5 y6 y7 y8 y9 y10 y11 y12, LeO (augurylaw05_EventFits.j0 k y0 y1 y2 y3 y4 y5 y6 y7 y8 y9 y10 y11 y12) (augurylaw05_EventFits.j0 (k + 1) y0 y1 y2 y3 y4 y5 y6 y7 y8 y9 y10 y11 y12)) ∧ (∀ y0 y1 y2 y3 y4 y5 y6 y7 y8 y9 y10 y11 y12, LeO (augurylaw05_EventFits.j1 k y0 y1 y2 y3 y4 y5 y6 y7 y8 y9 y10 y11 y12) (augurylaw05_EventFits.j1 (k + 1) y0 y1 y2 y3 y4 y5 y6 y7 y8 y9 y10 y11 y12)) ∧ (∀ y0 y1 y2 y3 y4 y5 y6 y7 y8 y9 y10 y11 y12, LeO (augurylaw05_EventFits.l0 k y0 y1 y2 y3 y4 y5 y6 y7 y8 y9 y10 y11 y12) (augurylaw05_EventFits.l0 (k + 1) y0 y1 y2 y3 y4 y5 y6 y7 y8 y9 y10 y11 y12))
  | 0 => ⟨fun _ _ _ _ _ _ _ _ _ _ _ _ _ r h => by simp [augurylaw05_EventFits.j0] at h, fun _ _ _ _ _ _ _ _ _ _ _ _ _ r h => by simp [augurylaw05_EventFits.j1] at h, fun _ _ _ _ _ _ _ _ _ _ _ _ _ r h => by simp [augurylaw05_EventFits.l0] at h⟩
  | k + 1 => by
    obtain ⟨ih0, ih1, ih2⟩ := augurylaw05_EventFits.mono_l k
    refine ⟨?_, ?_, ?_⟩
    · intro y0 y1 y2 y3 y4 y5 y6 y7 y8 y9 y10 y11 y12
      unfold augurylaw05_EventFits.j0
      repeat' first
      | (with_reducible exact ih0 _ _ _ _ _ _ _ _ _ _ _ _ _)
      | (with_reducible exact ih1 _ _ _ _ _ _ _ _ _ _ _ _ _)
      | (with_reducible exact ih2 _ _ _ _ _ _ _ _ _ _ _ _ _)
      | (with_reducible exact augurylaw05_GreatEvent.mono _ _ _ _ _ _)
      | (with_reducible exact augurylaw05_GreatSchemas.mono _ _)
      | (with_reducible exact augurylaw05_head.mono _)
      | (with_reducible exact event_Fits.mono _ _ _ _ _ _ _)
      | (with_reducible exact LeO.refl _)
      | (with_reducible exact LeO.none _)
      | (with_reducible refine LeO.ite ?_ ?_)
      | (with_reducible refine LeO.bind ?_ (fun _ => ?_))
      | exact LeO.none _
      | refine LeO.ite ?_ ?_
      | refine LeO.bind ?_ (fun _ => ?_)
    · intro y0 y1 y2 y3 y4 y5 y6 y7 y8 y9 y10 y11 y12
      unfold augurylaw05_EventFits.j1
      repeat' first
      | (with_reducible exact ih0 _ _ _ _ _ _ _ _ _ _ _ _ _)
      | (with_reducible exact ih1 _ _ _ _ _ _ _ _ _ _ _ _ _)
      | (with_reducible exact ih2 _ _ _ _ _ _ _ _ _ _ _ _ _)
      | (with_reducible exact augurylaw05_GreatEvent.mono _ _ _ _ _ _)
      | (with_reducible exact augurylaw05_GreatSchemas.mono _ _)
      | (with_reducible exact augurylaw05_head.mono _)
      | (with_reducible exact event_Fits.mono _ _ _ _ _ _ _)
      | (with_reducible exact LeO.refl _)
      | (with_reducible exact LeO.none _)
      | (with_reducible refine LeO.ite ?_ ?_)
      | (with_reducible refine LeO.bind ?_ (fun _ => ?_))
      | exact LeO.none _
      | refine LeO.ite ?_ ?_
      | refine LeO.bind ?_ (fun _ => ?_)
    · intro y0 y1 y2 y3 y4 y5 y6 y7 y8 y9 y10 y11 y12
      unfold augurylaw05_EventFits.l0
      repeat' first
      | (with_reducible exact ih0 _ _ _ _ _ _ _ _ _ _ _ _ _)
      | (with_reducible exact ih1 _ _ _ _ _ _ _ _ _ _ _ _ _)
      | (with_reducible exact ih2 _ _ _ _ _ _ _ _ _ _ _ _ _)
      | (with_reducible exact augurylaw05_GreatEvent.mono _ _ _ _ _ _)
      | (with_reducible exact augurylaw05_GreatSchemas.mono _ _)
      | (with_reducible exact augurylaw05_head.mono _)
      | (with_reducible exact event_Fits.mono _ _ _ _ _ _ _)
      | (with_reducible exact LeO.refl _)
      | (with_reducible exact LeO.none _)
      | (with_reducible refine LeO.ite ?_ ?_)
      | (with_reducible refine LeO.bind ?_ (fun _ => ?_))
      | exact LeO.none _
      | refine LeO.ite ?_ ?_
      | refine LeO.bind ?_ (fun _ => ?_)
theorem augurylaw05_EventFits.mono : ∀ a0 a1 a2 a3 a4 a5 a6 a7 a8 a9 a10 k, LeO (augurylaw05_EventFits.f k a0 a1 a2 a3 a4 a5 a6 a7 a8 a9 a10) (augurylaw05_EventFits.f (k + 1) a0 a1 a2 a3 a4 a5 a6 a7 a8 a9 a10) := by
  intro a0 a1 a2 a3 a4 a5 a6 a7 a8 a9 a10 k
  obtain ⟨ih0, ih1, ih2⟩ := augurylaw05_EventFits.mono_l k
  unfold augurylaw05_EventFits.f
  repeat' first
      | (with_reducible exact ih0 _ _ _ _ _ _ _ _ _ _ _ _ _)
      | (with_reducible exact ih1 _ _ _ _ _ _ _ _ _ _ _ _ _)
      | (with_reducible exact ih2 _ _ _ _ _ _ _ _ _ _ _ _ _)
      | (with_reducible exact augurylaw05_GreatEvent.mono _ _ _ _ _ _)
      | (with_reducible exact augurylaw05_GreatSchemas.mono _ _)
      | (with_reducible exact augurylaw05_head.mono _)
      | (with_reducible exact event_Fits.mono _ _ _ _ _ _ _)
      | (with_reducible exact LeO.refl _)
      | (with_reducible exact LeO.none _)
      | (with_reducible refine LeO.ite ?_ ?_)
      | (with_reducible refine LeO.bind ?_ (fun _ => ?_))
      | exact LeO.none _
      | refine LeO.ite ?_ ?_
      | refine LeO.bind ?_ (fun _ => ?_)
def augurylaw05_EventFits.T5 : Bool × List (List Nat × List Nat) := (true, [([], []), ([], []), ([1], [1]), ([0, 2], [0, 2]), ([], []), ([4], [4]), ([3, 5, 3], [3, 5]), ([0, 1, 2, 3, 4, 5, 6], []), ([7, 6, 6, 0, 1, 2, 3, 4, 5, 6], [6, 7])])
def augurylaw05_EventFits.B5 : List Nat := [0, 0, 2, 7, 0, 16, 63, 127, 255]
theorem augurylaw05_EventFits.tab5 : rtab .any (opsOf Try.f7 5) = augurylaw05_EventFits.T5 := by kernel_rfl
theorem augurylaw05_EventFits.bits5 : waitsOk augurylaw05_EventFits.T5.2 augurylaw05_EventFits.B5 = true := by kernel_rfl
def augurylaw05_EventFits.T11 : Bool × List (List Nat × List Nat) := (true, [([], []), ([0], [0]), ([], []), ([1, 2], [1, 2]), ([3], [3]), ([4], [4]), ([], []), ([6], [6]), ([], []), ([7, 8], [7, 8]), ([9], [9]), ([10], [10]), ([5, 11], [5, 11])])
def augurylaw05_EventFits.B11 : List Nat := [0, 1, 0, 7, 15, 31, 0, 64, 0, 448, 960, 1984, 4095]
theorem augurylaw05_EventFits.tab11 : rtab .any (opsOf Try.f7 11) = augurylaw05_EventFits.T11 := by kernel_rfl
theorem augurylaw05_EventFits.bits11 : waitsOk augurylaw05_EventFits.T11.2 augurylaw05_EventFits.B11 = true := by kernel_rfl
def augurylaw05_EventFits.T17 : Bool × List (List Nat × List Nat) := (true, [([], []), ([], []), ([1], [1]), ([], []), ([2, 3], [2, 3]), ([0, 4], [0, 4]), ([], []), ([6], [6]), ([], []), ([8], [8]), ([7, 9], [7, 9]), ([5, 10, 5], [5, 10]), ([0, 1, 2, 3, 4, 5, 6, 7, 8, 9, 10, 11], []), ([12, 11, 11, 0, 1, 2, 3, 4, 5, 6, 7, 8, 9, 10, 11], [11, 12])])
def augurylaw05_EventFits.B17 : List Nat := [0, 0, 2, 0, 14, 31, 0, 64, 0, 256, 960, 2047, 4095, 8191]
theorem augurylaw05_EventFits.tab17 : rtab .any (opsOf Try.f7 17) = augurylaw05_EventFits.T17 := by kernel_rfl
theorem augurylaw05_EventFits.bits17 : waitsOk augurylaw05_EventFits.T17.2 augurylaw05_EventFits.B17 = true := by kernel_rfl
def augurylaw05_EventFits.T19 : Bool × List (List Nat × List Nat) := (true, [([], []), ([], []), ([1], [1]), ([], []), ([2, 3], [2, 3]), ([0, 4], [0, 4]), ([], []), ([6], [6]), ([5, 7, 5], [5, 7]), ([], []), ([9], [9]), ([], []), ([11], [11]), ([10, 12], [10, 12]), ([8, 13, 8], [8, 13]), ([0, 1, 2, 3, 4, 5, 6, 7, 8, 9, 10, 11, 12, 13, 14], []), ([15, 14, 14, 0, 1, 2, 3, 4, 5, 6, 7, 8, 9, 10, 11, 12, 13, 14], [14, 15])])
def augurylaw05_EventFits.B19 : List Nat := [0, 0, 2, 0, 14, 31, 0, 64, 255, 0, 512, 0, 2048, 7680, 16383, 32767, 65535]
theorem augurylaw05_EventFits.tab19 : rtab .any (opsOf Try.f7 19) = augurylaw05_EventFits.T19 := by kernel_rfl
theorem augurylaw05_EventFits.bits19 : waitsOk augurylaw05_EventFits.T19.2 augurylaw05_EventFits.B19 = true := by kernel_rfl
def augurylaw05_EventFits.T20 : Bool × List (List Nat × List Nat) := (true, [([], []), ([0], [0]), ([1], [1]), ([2, 1], [1, 2]), ([1], [1]), ([3, 4, 1, 1], [1, 3, 4]), ([5, 1], [1, 5]), ([1, 6], [1, 6]), ([7, 5], [7]), ([8], [8]), ([9, 8], [8, 9]), ([8], [8]), ([10, 11, 8, 8], [8, 10, 11]), ([12, 8], [8, 12]), ([8], [8]), ([14, 8], [8, 14]), ([8], [8]), ([16, 8], [8, 16]), ([8], [8]), ([17, 18, 8], [8, 17, 18]), ([19, 8], [8, 19]), ([20, 8], [8, 20]), ([15, 21, 8], [8, 15, 21]), ([13, 22, 8], [8, 13, 22]), ([8, 23], [8, 23]), ([24, 12, 0, 1, 2, 3, 4, 5, 6, 7, 8, 9, 10, 11, 12, 13, 14, 15, 16, 17, 18, 19, 20, 21, 22, 23, 24], [24])])
def augurylaw05_EventFits.B20 : List Nat := [0, 1, 3, 7, 3, 31, 63, 127, 255, 511, 1023, 511, 4095, 8191, 511, 16895, 511, 66047, 511, 459263, 983551, 2032127, 4178431, 8388607, 16777215, 33554431]
theorem augurylaw05_EventFits.tab20 : rtab .any (opsOf Try.f7 20) = augurylaw05_EventFits.T20 := by kernel_rfl
theorem augurylaw05_EventFits.bits20 : waitsOk augurylaw05_EventFits.T20.2 augurylaw05_EventFits.B20 = true := by kernel_rfl
set_option maxHeartbeats 8000000 in
set_option maxRecDepth 100000 in
theorem augurylaw05_EventFits.calls (k : Nat) (a0_0 : ByteArray) (P0_1_ : Nat → Prop) (A0_1 : Option Addr) (c0_1 : Nat) (l0_1 : List (S55)) (a1_0 : Int) (a1_1 : Int) (a1_2 : Int) (a1_3 : ByteArray) (A1_4 : Option Addr) (c1_4 : Nat) (l1_4 : List (S52)) (a2 : Int) (a3_0 : Int) (a3_1 : Int) (a3_2 : ByteArray) (r : Bool) (w : World) (hs0_1 : Kd.V k55 55 w w.heap.size (fun k_ => P0_1_ k_) (.slice A0_1 l0_1.length c0_1) l0_1) (hr1_4 : Kd.C k52 w A1_4 l1_4.length l1_4) (hc1_4 : l1_4.length ≤ c1_4) (h : augurylaw05_EventFits.f k a0_0 l0_1 a1_0 a1_1 a1_2 a1_3 l1_4 a2 a3_0 a3_1 a3_2 = some r) :
    Calls Try.prog 7 #[.agg #[.string a0_0, .slice A0_1 l0_1.length c0_1], .agg #[.int .i64 a1_0, .int .i64 a1_1, .int .i64 a1_2, .string a1_3, .slice A1_4 l1_4.length c1_4], .int .u8 a2, .agg #[.int .i64 a3_0, .int .i64 a3_1, .string a3_2]] w fun e w' => e = .returned (.bool r) ∧ Below w.heap.size w w' := by
  have hu31 := Try.underlying31
  have hu25 := Try.underlying25
  have hu52 := Try.underlying52
  have HO0_1 := Aside0.mk (show Kd.V k55 55 w w.heap.size (fun k_ => (P0_1_ k_ ∨ w.heap.size ≤ k_)) (.slice A0_1 l0_1.length c0_1) l0_1 from Kd.V_mono hs0_1 (fun k_ hk => .inl hk))
  have HR1_4 := Aside0.mk hr1_4
  have HC1_4 := Aside0.mk hc1_4
  clear hr1_4 hc1_4
  have HB := Aside0.mk (Below.refl w.heap.size w)
  have H : ((augurylaw05_head.f k).bind fun t583 => ((augurylaw05_GreatSchemas.f k (([(⟨a0_0, l0_1⟩ : S31)] : List (S31)))).bind fun t587 => (if t587 = true then (augurylaw05_EventFits.j0 k a2 t583 true a0_0 l0_1 a1_0 a1_1 a1_2 a1_3 l1_4 a3_0 a3_1 a3_2) else ((augurylaw05_GreatEvent.f k a1_0 a1_1 a1_2 a1_3 l1_4).bind fun t588 => (if t588 = true then (augurylaw05_EventFits.j0 k a2 t583 true a0_0 l0_1 a1_0 a1_1 a1_2 a1_3 l1_4 a3_0 a3_1 a3_2) else ((auguryref04_Right.f a3_0 a3_1 a3_2).bind fun t589 => (if t589 = true then ((event_Fits.f k (([(⟨a0_0, l0_1⟩ : S31)] : List (S31))) a1_0 a1_1 a1_2 a1_3 l1_4).bind fun t593 => (augurylaw05_EventFits.j0 k a2 t583 (t593 != 0) a0_0 l0_1 a1_0 a1_1 a1_2 a1_3 l1_4 a3_0 a3_1 a3_2)) else (augurylaw05_EventFits.j0 k a2 t583 true a0_0 l0_1 a1_0 a1_1 a1_2 a1_3 l1_4 a3_0 a3_1 a3_2)))))))) = some r := h
  clear h
  replace H := Option.bind_eq_some_iff.mp H
  obtain ⟨t583, A5, H⟩ := H
  (try dsimp only at H)
  replace A5 := Aside0.mk A5
  have HC6 := Aside0.mk H
  clear H
  go_enter Try.func7, Try.ntmps7
  go_upto_region 2 with (first | ((with_reducible refine gate_dst (N := 4) rfl ?_); (try (refine gate_guard (by rfl) ?_; dsimp only)); refine box_event ?hg (N := 4) ?hd (cs := #[.string a0_0, .slice A0_1 l0_1.length c0_1]) (t := 31) ?hr ?_; (case hd => rfl); (case hg => rfl); (case hr => first | (go_simp; done) | (go_simp; rfl)); intro gb580 hg w7 hbox hb; replace HO0_1 := Aside0.mk (Kd.V_below (Kd.V_elderB (Kd.pl_V HO0_1.out) gb580 (Nat.le_of_eq hg.symm)) hb); have BK580 := Aside0.mk (hbox); have GW580 := hG HB hg; have GE580 := hG HB hg; replace HB := hB HB hb; clear hb hbox hg) | ((with_reducible refine gate_dst (N := 5) rfl ?_); (try (refine gate_guard (by rfl) ?_; dsimp only)); refine box_event ?hg (N := 5) ?hd (cs := #[.int .i64 a1_0, .int .i64 a1_1, .int .i64 a1_2, .string a1_3, .slice A1_4 l1_4.length c1_4]) (t := 25) ?hr ?_; (case hd => rfl); (case hg => rfl); (case hr => first | (go_simp; done) | (go_simp; rfl)); intro gb581 hg w8 hbox hb; replace HO0_1 := Aside0.mk (Kd.V_below (Kd.V_elderB (Kd.pl_V HO0_1.out) gb581 (Nat.le_of_eq hg.symm)) hb); have BK581 := Aside0.mk (hbox); have GW581 := hG HB hg; have GE581 := hG HB hg; replace HB := hB HB hb; have NB580_581 := hN BK580 hg; have NB581_580 := hM BK580 hg; replace BK580 := bb BK580 hb; clear hb hbox hg) | ((with_reducible refine gate_dst (N := 7) rfl ?_); (try (refine gate_guard (by rfl) ?_; dsimp only)); refine box_event ?hg (N := 7) ?hd (cs := #[.int .i64 a3_0, .int .i64 a3_1, .string a3_2]) (t := 52) ?hr ?_; (case hd => rfl); (case hg => rfl); (case hr => first | (go_simp; done) | (go_simp; rfl)); intro gb582 hg w9 hbox hb; replace HO0_1 := Aside0.mk (Kd.V_below (Kd.V_elderB (Kd.pl_V HO0_1.out) gb582 (Nat.le_of_eq hg.symm)) hb); have BK582 := Aside0.mk (hbox); have GW582 := hG HB hg; have GE582 := hG HB hg; replace HB := hB HB hb; have NB580_582 := hN BK580 hg; have NB582_580 := hM BK580 hg; replace BK580 := bb BK580 hb; have NB581_582 := hN BK581 hg; have NB582_581 := hM BK581 hg; replace BK581 := bb BK581 hb; clear hb hbox hg) | ((with_reducible refine gate_callee (f := 9) rfl ?_); refine goesL_ (some 15) rfl rfl Try.func9 (by kernel_rfl) rfl #[] rfl (by (try simp only [List.map_toArray, List.map_cons, List.map_nil]); first | done | rfl | (simp only [List.length_drop, List.length_take]; rfl)) ?_; (with_reducible refine (augurylaw05_head.calls k  t583 _ A5.out).mono ?_); rintro e w10 ⟨rfl, hb⟩; refine ⟨_, rfl, ?_⟩; replace HO0_1 := Aside0.mk (Kd.V_below (Kd.pl_V HO0_1.out) hb); replace BK580 := bb BK580 hb; replace BK581 := bb BK581 hb; replace BK582 := bb BK582 hb; replace HB := hB HB hb; (try clear hb); (try clear hb2); (try clear hk); (try clear hi)))
  (try simp only [Act.put, List.setIfInBounds_toArray, List.set_cons_zero, List.set_cons_succ])
  go_cut [34] (fun v34 wc => ∃ (kq : Nat) (x34_5 : Bool), v34 = .bool x34_5 ∧ Aside0 (augurylaw05_EventFits.j0 kq a2 t583 x34_5 a0_0 l0_1 a1_0 a1_1 a1_2 a1_3 l1_4 a3_0 a3_1 a3_2 = some r) ∧ Aside0 (kq ≤ k) ∧ Aside0 (Kd.V k55 55 wc w.heap.size (fun k_ => (P0_1_ k_ ∨ w.heap.size ≤ k_) ∧ k_ ≠ gb580 ∧ k_ ≠ gb581 ∧ k_ ≠ gb582) (.slice A0_1 l0_1.length c0_1) l0_1) ∧ Aside0 (wc.heap[gb580]? = some (.cells #[.string a0_0, (.slice A0_1 l0_1.length c0_1)] 31 (0, 0))) ∧ Aside0 (wc.heap[gb581]? = some (.cells #[.int .i64 a1_0, .int .i64 a1_1, .int .i64 a1_2, .string a1_3, (.slice A1_4 l1_4.length c1_4)] 25 (0, 0))) ∧ Aside0 (wc.heap[gb582]? = some (.cells #[.int .i64 a3_0, .int .i64 a3_1, .string a3_2] 52 (0, 0))) ∧ Aside0 (Below w.heap.size w wc))
  case first =>
   have H := HC6.out
   clear HC6
   obtain ⟨y584, hy584⟩ : ∃ y_ : List (S31), y_ = (([(⟨a0_0, l0_1⟩ : S31)] : List (S31))) := ⟨_, rfl⟩
   replace H : ((augurylaw05_GreatSchemas.f k y584).bind fun t587 => (if t587 = true then (augurylaw05_EventFits.j0 k a2 t583 true a0_0 l0_1 a1_0 a1_1 a1_2 a1_3 l1_4 a3_0 a3_1 a3_2) else ((augurylaw05_GreatEvent.f k a1_0 a1_1 a1_2 a1_3 l1_4).bind fun t588 => (if t588 = true then (augurylaw05_EventFits.j0 k a2 t583 true a0_0 l0_1 a1_0 a1_1 a1_2 a1_3 l1_4 a3_0 a3_1 a3_2) else ((auguryref04_Right.f a3_0 a3_1 a3_2).bind fun t589 => (if t589 = true then ((event_Fits.f k (([(⟨a0_0, l0_1⟩ : S31)] : List (S31))) a1_0 a1_1 a1_2 a1_3 l1_4).bind fun t593 => (augurylaw05_EventFits.j0 k a2 t583 (t593 != 0) a0_0 l0_1 a1_0 a1_1 a1_2 a1_3 l1_4 a3_0 a3_1 a3_2)) else (augurylaw05_EventFits.j0 k a2 t583 true a0_0 l0_1 a1_0 a1_1 a1_2 a1_3 l1_4 a3_0 a3_1 a3_2))))))) = some r := by first | (rw [hy584]; with_reducible exact H) | (have H2_ := (Option.bind_some _ _).symm.trans H; rw [hy584]; with_reducible exact H2_) | (have H2_ := (Option.bind_some _ _).symm.trans H; with_reducible exact H2_) | with_reducible exact H | (rw [hy584]; exact H) | exact H
   have Ny584 := Aside0.mk hy584
   clear hy584
   replace H := Option.bind_eq_some_iff.mp H
   obtain ⟨t587, A11, H⟩ := H
   (try dsimp only at H)
   replace A11 := Aside0.mk A11
   by_cases c12 : t587 = true
   ·subst c12
    rw [if_pos rfl] at H
    have H' := Aside0.mk H
    clear H
    have hnb13 := NB580_581.out
    have hnc13 := NB581_580.out
    have hnb14 := NB580_582.out
    have hnc14 := NB582_580.out
    obtain ⟨hcz15_0, hcz15_1, hfz15_0, hfz15_1⟩ := blk_c2 BK580.out
    go_wp2_with (first | ((with_reducible refine gate_dst (N := 17) rfl ?_); (try (refine gate_guard (by rfl) ?_; dsimp only)); refine Kd.N_lit k31 _ 31 ?hg (N' := 17) ?hd (xs := ([(⟨a0_0, l0_1⟩ : S31)] : List (S31))) (inner := [.string a0_0, .slice A0_1 l0_1.length c0_1]) (ok := (fun k_ => (P0_1_ k_ ∨ w.heap.size ≤ k_) ∧ k_ ≠ gb580 ∧ k_ ≠ gb581 ∧ k_ ≠ gb582)) (okp := (fun k_ => (P0_1_ k_ ∨ w.heap.size ≤ k_) ∧ k_ ≠ gb580 ∧ k_ ≠ gb581 ∧ k_ ≠ gb582)) ?hr ?hp (fun _ hk => hk) ((show ∀ k_, w10.heap.size ≤ k_ → (fun k_ => (P0_1_ k_ ∨ w.heap.size ≤ k_) ∧ k_ ≠ gb580 ∧ k_ ≠ gb581 ∧ k_ ≠ gb582) k_ from fun k_ hk => ⟨(.inr (Nat.le_trans (below_size (pl_below HB.out)) hk)), Kd.freshB (g := gb580) (o := .cells #[.string a0_0, .slice A0_1 l0_1.length c0_1] 31 (0, 0)) (pl_blk BK580.out) k_ hk, Kd.freshB (g := gb581) (o := .cells #[.int .i64 a1_0, .int .i64 a1_1, .int .i64 a1_2, .string a1_3, .slice A1_4 l1_4.length c1_4] 25 (0, 0)) (pl_blk BK581.out) k_ hk, Kd.freshB (g := gb582) (o := .cells #[.int .i64 a3_0, .int .i64 a3_1, .string a3_2] 52 (0, 0)) (pl_blk BK582.out) k_ hk⟩) _ (Nat.le_refl _)) (Below.refl _ _) (Nat.le_refl _) (by simp) ?_; (case hd => rfl); (case hg => rfl); (case hr => first | (go_simp; done) | (go_simp; rfl)); (case hp => exact (Reps.c2 (show Kd.FK k31 _ _ (⟨a0_0, l0_1⟩ : S31) [.string a0_0, .slice A0_1 l0_1.length c0_1] from (k31_mkF _ _ (⟨a0_0, l0_1⟩ : S31) (Kd.V_reads' (Kd.V_mono (ok' := (fun k_ => (P0_1_ k_ ∨ w.heap.size ≤ k_) ∧ k_ ≠ gb580 ∧ k_ ≠ gb581 ∧ k_ ≠ gb582)) (HO0_1.out) (fun k_ hk => ⟨hk.1.1.1, ⟨hk.1.1.2, ⟨hk.1.2, hk.2⟩⟩⟩))).2.1 (Kd.V_F (Kd.V_mono (ok' := (fun k_ => (P0_1_ k_ ∨ w.heap.size ≤ k_) ∧ k_ ≠ gb580 ∧ k_ ≠ gb581 ∧ k_ ≠ gb582)) (HO0_1.out) (fun k_ hk => ⟨hk.1.1.1, ⟨hk.1.1.2, ⟨hk.1.2, hk.2⟩⟩⟩))))) (Reps.none _ _))); intro v585 w16 ho17 hb hg_ hnew_; clear hg_ hnew_; (first | rw [← Ny584.out] at ho17 | (simp only [Int.reduceToNat] at ho17; rw [← Ny584.out] at ho17)); replace HO0_1 := Aside0.mk (Kd.V_elder' (Kd.pl_V HO0_1.out) (Kd.N_base ho17) hb); have HO586 := Aside0.mk (Kd.N_lower ho17 (below_size (pl_below HB.out))); replace BK580 := bb BK580 hb; replace BK581 := bb BK581 hb; replace BK582 := bb BK582 hb; replace HB := hB HB hb; clear hb ho17; obtain ⟨Ao18, co18, eo18⟩ := Kd.N_slice HO586.out; subst eo18) | ((with_reducible refine gate_callee (f := 10) rfl ?_); refine goesL_ (some 18) rfl rfl Try.func10 (by kernel_rfl) rfl #[.slice Ao18 y584.length co18] rfl (by (try simp only [List.map_toArray, List.map_cons, List.map_nil]); first | done | rfl | (simp only [List.length_drop, List.length_take]; rfl)) ?_; (with_reducible refine (augurylaw05_GreatSchemas.calls k _ _ y584 true _ ?side1 ?side2 A11.out).mono ?_); (case side1 => repeat (first | exact (Kd.N_reads' HO586.out).2.2 | (with_reducible refine Kd.C_alloc ?_ _) | (with_reducible refine Kd.C_drewN ?_ _) | (with_reducible refine Kd.C_drew ?_))); (case side2 => exact (Kd.N_reads' HO586.out).2.1); rintro e w19 ⟨rfl, hb⟩; refine ⟨_, rfl, ?_⟩; replace HO0_1 := Aside0.mk (Kd.V_below (Kd.pl_V HO0_1.out) hb); replace HO586 := Aside0.mk (Kd.N_below (Kd.pl_N HO586.out) hb); replace BK580 := bb BK580 hb; replace BK581 := bb BK581 hb; replace BK582 := bb BK582 hb; replace HB := hB HB hb; (try clear hb); (try clear hb2); (try clear hk); (try clear hi)))
    go_meet
    case rel => exact ⟨_, (true), (by first | rfl | (simp; done) | (simp [*]; done) | grind), H', ⟨by first | omega | exact Nat.le_refl _⟩, ⟨by (with_reducible repeat (first | apply Kd.V_alloc | apply Kd.V_drewN | apply Kd.V_drew)); exact Kd.V_mono HO0_1.out (fun _ hk => ⟨hk.1.1.1.1, ⟨hk.1.1.1.2, ⟨hk.1.1.2, hk.1.2⟩⟩⟩)⟩, ⟨pl_blk BK580.out⟩, ⟨pl_blk BK581.out⟩, ⟨pl_blk BK582.out⟩, ⟨pl_below HB.out⟩⟩
   ·replace c12 := Bool.eq_false_iff.mpr c12
    subst c12
    rw [if_neg (show ¬ (false = true) by decide)] at H
    replace H := Option.bind_eq_some_iff.mp H
    obtain ⟨t588, A20, H⟩ := H
    (try dsimp only at H)
    replace A20 := Aside0.mk A20
    by_cases c21 : t588 = true
    ·subst c21
     rw [if_pos rfl] at H
     have H' := Aside0.mk H
     clear H
     have hnb22 := NB580_581.out
     have hnc22 := NB581_580.out
     have hnb23 := NB580_582.out
     have hnc23 := NB582_580.out
     obtain ⟨hcz24_0, hcz24_1, hfz24_0, hfz24_1⟩ := blk_c2 BK580.out
     go_wp2_with (first | ((with_reducible refine gate_dst (N := 17) rfl ?_); (try (refine gate_guard (by rfl) ?_; dsimp only)); refine Kd.N_lit k31 _ 31 ?hg (N' := 17) ?hd (xs := ([(⟨a0_0, l0_1⟩ : S31)] : List (S31))) (inner := [.string a0_0, .slice A0_1 l0_1.length c0_1]) (ok := (fun k_ => (P0_1_ k_ ∨ w.heap.size ≤ k_) ∧ k_ ≠ gb580 ∧ k_ ≠ gb581 ∧ k_ ≠ gb582)) (okp := (fun k_ => (P0_1_ k_ ∨ w.heap.size ≤ k_) ∧ k_ ≠ gb580 ∧ k_ ≠ gb581 ∧ k_ ≠ gb582)) ?hr ?hp (fun _ hk => hk) ((show ∀ k_, w10.heap.size ≤ k_ → (fun k_ => (P0_1_ k_ ∨ w.heap.size ≤ k_) ∧ k_ ≠ gb580 ∧ k_ ≠ gb581 ∧ k_ ≠ gb582) k_ from fun k_ hk => ⟨(.inr (Nat.le_trans (below_size (pl_below HB.out)) hk)), Kd.freshB (g := gb580) (o := .cells #[.string a0_0, .slice A0_1 l0_1.length c0_1] 31 (0, 0)) (pl_blk BK580.out) k_ hk, Kd.freshB (g := gb581) (o := .cells #[.int .i64 a1_0, .int .i64 a1_1, .int .i64 a1_2, .string a1_3, .slice A1_4 l1_4.length c1_4] 25 (0, 0)) (pl_blk BK581.out) k_ hk, Kd.freshB (g := gb582) (o := .cells #[.int .i64 a3_0, .int .i64 a3_1, .string a3_2] 52 (0, 0)) (pl_blk BK582.out) k_ hk⟩) _ (Nat.le_refl _)) (Below.refl _ _) (Nat.le_refl _) (by simp) ?_; (case hd => rfl); (case hg => rfl); (case hr => first | (go_simp; done) | (go_simp; rfl)); (case hp => exact (Reps.c2 (show Kd.FK k31 _ _ (⟨a0_0, l0_1⟩ : S31) [.string a0_0, .slice A0_1 l0_1.length c0_1] from (k31_mkF _ _ (⟨a0_0, l0_1⟩ : S31) (Kd.V_reads' (Kd.V_mono (ok' := (fun k_ => (P0_1_ k_ ∨ w.heap.size ≤ k_) ∧ k_ ≠ gb580 ∧ k_ ≠ gb581 ∧ k_ ≠ gb582)) (HO0_1.out) (fun k_ hk => ⟨hk.1.1.1, ⟨hk.1.1.2, ⟨hk.1.2, hk.2⟩⟩⟩))).2.1 (Kd.V_F (Kd.V_mono (ok' := (fun k_ => (P0_1_ k_ ∨ w.heap.size ≤ k_) ∧ k_ ≠ gb580 ∧ k_ ≠ gb581 ∧ k_ ≠ gb582)) (HO0_1.out) (fun k_ hk => ⟨hk.1.1.1, ⟨hk.1.1.2, ⟨hk.1.2, hk.2⟩⟩⟩))))) (Reps.none _ _))); intro v585 w25 ho26 hb hg_ hnew_; clear hg_ hnew_; (first | rw [← Ny584.out] at ho26 | (simp only [Int.reduceToNat] at ho26; rw [← Ny584.out] at ho26)); replace HO0_1 := Aside0.mk (Kd.V_elder' (Kd.pl_V HO0_1.out) (Kd.N_base ho26) hb); have HO586 := Aside0.mk (Kd.N_lower ho26 (below_size (pl_below HB.out))); replace BK580 := bb BK580 hb; replace BK581 := bb BK581 hb; replace BK582 := bb BK582 hb; replace HB := hB HB hb; clear hb ho26; obtain ⟨Ao27, co27, eo27⟩ := Kd.N_slice HO586.out; subst eo27) | ((with_reducible refine gate_callee (f := 10) rfl ?_); refine goesL_ (some 18) rfl rfl Try.func10 (by kernel_rfl) rfl #[.slice Ao27 y584.length co27] rfl (by (try simp only [List.map_toArray, List.map_cons, List.map_nil]); first | done | rfl | (simp only [List.length_drop, List.length_take]; rfl)) ?_; (with_reducible refine (augurylaw05_GreatSchemas.calls k _ _ y584 false _ ?side1 ?side2 A11.out).mono ?_); (case side1 => repeat (first | exact (Kd.N_reads' HO586.out).2.2 | (with_reducible refine Kd.C_alloc ?_ _) | (with_reducible refine Kd.C_drewN ?_ _) | (with_reducible refine Kd.C_drew ?_))); (case side2 => exact (Kd.N_reads' HO586.out).2.1); rintro e w28 ⟨rfl, hb⟩; refine ⟨_, rfl, ?_⟩; replace HO0_1 := Aside0.mk (Kd.V_below (Kd.pl_V HO0_1.out) hb); replace HO586 := Aside0.mk (Kd.N_below (Kd.pl_N HO586.out) hb); replace BK580 := bb BK580 hb; replace BK581 := bb BK581 hb; replace BK582 := bb BK582 hb; replace HB := hB HB hb; (try clear hb); (try clear hb2); (try clear hk); (try clear hi); have hnb29 := NB581_582.out; have hnc29 := NB582_581.out; obtain ⟨hcz30_0, hcz30_1, hcz30_2, hcz30_3, hcz30_4, hfz30_0, hfz30_1, hfz30_2, hfz30_3, hfz30_4⟩ := blk_c5 BK581.out) | (go_at_call 11; (with_reducible refine (augurylaw05_GreatEvent.calls k a1_0 a1_1 a1_2 a1_3 _ _ l1_4 true _ ?side1 ?side2 A20.out).mono ?_); (case side1 => repeat (first | exact (Kd.C_below HR1_4.out HB.out) | (with_reducible refine Kd.C_alloc ?_ _) | (with_reducible refine Kd.C_drewN ?_ _) | (with_reducible refine Kd.C_drew ?_))); (case side2 => exact HC1_4.out); rintro e w31 ⟨rfl, hb⟩; replace HO0_1 := Aside0.mk (Kd.V_below (Kd.pl_V HO0_1.out) hb); replace HO586 := Aside0.mk (Kd.N_below (Kd.pl_N HO586.out) hb); replace BK580 := bb BK580 hb; replace BK581 := bb BK581 hb; replace BK582 := bb BK582 hb; replace HB := hB HB hb; (try clear hb); (try clear hb2); (try clear hk); (try clear hi)))
     go_meet
     case rel => exact ⟨_, (true), (by first | rfl | (simp; done) | (simp [*]; done) | grind), H', ⟨by first | omega | exact Nat.le_refl _⟩, ⟨by (with_reducible repeat (first | apply Kd.V_alloc | apply Kd.V_drewN | apply Kd.V_drew)); exact Kd.V_mono HO0_1.out (fun _ hk => ⟨hk.1.1.1.1, ⟨hk.1.1.1.2, ⟨hk.1.1.2, hk.1.2⟩⟩⟩)⟩, ⟨pl_blk BK580.out⟩, ⟨pl_blk BK581.out⟩, ⟨pl_blk BK582.out⟩, ⟨pl_below HB.out⟩⟩
    ·replace c21 := Bool.eq_false_iff.mpr c21
     subst c21
     rw [if_neg (show ¬ (false = true) by decide)] at H
     replace H := Option.bind_eq_some_iff.mp H
     obtain ⟨t589, A32, H⟩ := H
     (try dsimp only at H)
     replace A32 := Aside0.mk A32
     by_cases c33 : t589 = true
     ·subst c33
      rw [if_pos rfl] at H
      obtain ⟨y590, hy590⟩ : ∃ y_ : List (S31), y_ = (([(⟨a0_0, l0_1⟩ : S31)] : List (S31))) := ⟨_, rfl⟩
      replace H : ((event_Fits.f k y590 a1_0 a1_1 a1_2 a1_3 l1_4).bind fun t593 => (augurylaw05_EventFits.j0 k a2 t583 (t593 != 0) a0_0 l0_1 a1_0 a1_1 a1_2 a1_3 l1_4 a3_0 a3_1 a3_2)) = some r := by first | (rw [hy590]; with_reducible exact H) | (have H2_ := (Option.bind_some _ _).symm.trans H; rw [hy590]; with_reducible exact H2_) | (have H2_ := (Option.bind_some _ _).symm.trans H; with_reducible exact H2_) | with_reducible exact H | (rw [hy590]; exact H) | exact H
      have Ny590 := Aside0.mk hy590
      clear hy590
      replace H := Option.bind_eq_some_iff.mp H
      obtain ⟨t593, A34, H⟩ := H
      (try dsimp only at H)
      replace A34 := Aside0.mk A34
      have H' := Aside0.mk H
      clear H
      have hnb35 := NB580_581.out
      have hnc35 := NB581_580.out
      have hnb36 := NB580_582.out
      have hnc36 := NB582_580.out
      obtain ⟨hcz37_0, hcz37_1, hfz37_0, hfz37_1⟩ := blk_c2 BK580.out
      go_wp2_with (first | ((with_reducible refine gate_dst (N := 17) rfl ?_); (try (refine gate_guard (by rfl) ?_; dsimp only)); refine Kd.N_lit k31 _ 31 ?hg (N' := 17) ?hd (xs := ([(⟨a0_0, l0_1⟩ : S31)] : List (S31))) (inner := [.string a0_0, .slice A0_1 l0_1.length c0_1]) (ok := (fun k_ => (P0_1_ k_ ∨ w.heap.size ≤ k_) ∧ k_ ≠ gb580 ∧ k_ ≠ gb581 ∧ k_ ≠ gb582)) (okp := (fun k_ => (P0_1_ k_ ∨ w.heap.size ≤ k_) ∧ k_ ≠ gb580 ∧ k_ ≠ gb581 ∧ k_ ≠ gb582)) ?hr ?hp (fun _ hk => hk) ((show ∀ k_, w10.heap.size ≤ k_ → (fun k_ => (P0_1_ k_ ∨ w.heap.size ≤ k_) ∧ k_ ≠ gb580 ∧ k_ ≠ gb581 ∧ k_ ≠ gb582) k_ from fun k_ hk => ⟨(.inr (Nat.le_trans (below_size (pl_below HB.out)) hk)), Kd.freshB (g := gb580) (o := .cells #[.string a0_0, .slice A0_1 l0_1.length c0_1] 31 (0, 0)) (pl_blk BK580.out) k_ hk, Kd.freshB (g := gb581) (o := .cells #[.int .i64 a1_0, .int .i64 a1_1, .int .i64 a1_2, .string a1_3, .slice A1_4 l1_4.length c1_4] 25 (0, 0)) (pl_blk BK581.out) k_ hk, Kd.freshB (g := gb582) (o := .cells #[.int .i64 a3_0, .int .i64 a3_1, .string a3_2] 52 (0, 0)) (pl_blk BK582.out) k_ hk⟩) _ (Nat.le_refl _)) (Below.refl _ _) (Nat.le_refl _) (by simp) ?_; (case hd => rfl); (case hg => rfl); (case hr => first | (go_simp; done) | (go_simp; rfl)); (case hp => exact (Reps.c2 (show Kd.FK k31 _ _ (⟨a0_0, l0_1⟩ : S31) [.string a0_0, .slice A0_1 l0_1.length c0_1] from (k31_mkF _ _ (⟨a0_0, l0_1⟩ : S31) (Kd.V_reads' (Kd.V_mono (ok' := (fun k_ => (P0_1_ k_ ∨ w.heap.size ≤ k_) ∧ k_ ≠ gb580 ∧ k_ ≠ gb581 ∧ k_ ≠ gb582)) (HO0_1.out) (fun k_ hk => ⟨hk.1.1.1, ⟨hk.1.1.2, ⟨hk.1.2, hk.2⟩⟩⟩))).2.1 (Kd.V_F (Kd.V_mono (ok' := (fun k_ => (P0_1_ k_ ∨ w.heap.size ≤ k_) ∧ k_ ≠ gb580 ∧ k_ ≠ gb581 ∧ k_ ≠ gb582)) (HO0_1.out) (fun k_ hk => ⟨hk.1.1.1, ⟨hk.1.1.2, ⟨hk.1.2, hk.2⟩⟩⟩))))) (Reps.none _ _))); intro v585 w38 ho39 hb hg_ hnew_; clear hg_ hnew_; (first | rw [← Ny584.out] at ho39 | (simp only [Int.reduceToNat] at ho39; rw [← Ny584.out] at ho39)); replace HO0_1 := Aside0.mk (Kd.V_elder' (Kd.pl_V HO0_1.out) (Kd.N_base ho39) hb); have HO586 := Aside0.mk (Kd.N_lower ho39 (below_size (pl_below HB.out))); replace BK580 := bb BK580 hb; replace BK581 := bb BK581 hb; replace BK582 := bb BK582 hb; replace HB := hB HB hb; clear hb ho39; obtain ⟨Ao40, co40, eo40⟩ := Kd.N_slice HO586.out; subst eo40) | ((with_reducible refine gate_callee (f := 10) rfl ?_); refine goesL_ (some 18) rfl rfl Try.func10 (by kernel_rfl) rfl #[.slice Ao40 y584.length co40] rfl (by (try simp only [List.map_toArray, List.map_cons, List.map_nil]); first | done | rfl | (simp only [List.length_drop, List.length_take]; rfl)) ?_; (with_reducible refine (augurylaw05_GreatSchemas.calls k _ _ y584 false _ ?side1 ?side2 A11.out).mono ?_); (case side1 => repeat (first | exact (Kd.N_reads' HO586.out).2.2 | (with_reducible refine Kd.C_alloc ?_ _) | (with_reducible refine Kd.C_drewN ?_ _) | (with_reducible refine Kd.C_drew ?_))); (case side2 => exact (Kd.N_reads' HO586.out).2.1); rintro e w41 ⟨rfl, hb⟩; refine ⟨_, rfl, ?_⟩; replace HO0_1 := Aside0.mk (Kd.V_below (Kd.pl_V HO0_1.out) hb); replace HO586 := Aside0.mk (Kd.N_below (Kd.pl_N HO586.out) hb); replace BK580 := bb BK580 hb; replace BK581 := bb BK581 hb; replace BK582 := bb BK582 hb; replace HB := hB HB hb; (try clear hb); (try clear hb2); (try clear hk); (try clear hi); have hnb42 := NB581_582.out; have hnc42 := NB582_581.out; obtain ⟨hcz43_0, hcz43_1, hcz43_2, hcz43_3, hcz43_4, hfz43_0, hfz43_1, hfz43_2, hfz43_3, hfz43_4⟩ := blk_c5 BK581.out) | (go_at_call 11; (with_reducible refine (augurylaw05_GreatEvent.calls k a1_0 a1_1 a1_2 a1_3 _ _ l1_4 false _ ?side1 ?side2 A20.out).mono ?_); (case side1 => repeat (first | exact (Kd.C_below HR1_4.out HB.out) | (with_reducible refine Kd.C_alloc ?_ _) | (with_reducible refine Kd.C_drewN ?_ _) | (with_reducible refine Kd.C_drew ?_))); (case side2 => exact HC1_4.out); rintro e w44 ⟨rfl, hb⟩; replace HO0_1 := Aside0.mk (Kd.V_below (Kd.pl_V HO0_1.out) hb); replace HO586 := Aside0.mk (Kd.N_below (Kd.pl_N HO586.out) hb); replace BK580 := bb BK580 hb; replace BK581 := bb BK581 hb; replace BK582 := bb BK582 hb; replace HB := hB HB hb; (try clear hb); (try clear hb2); (try clear hk); (try clear hi); obtain ⟨hcz45_0, hcz45_1, hcz45_2, hfz45_0, hfz45_1, hfz45_2⟩ := blk_c3 BK582.out) | (go_at_call 30; (with_reducible refine (auguryref04_Right.calls a3_0 a3_1 a3_2 true _ A32.out).mono ?_); rintro e w46 ⟨rfl, hb⟩; replace HO0_1 := Aside0.mk (Kd.V_below (Kd.pl_V HO0_1.out) hb); replace HO586 := Aside0.mk (Kd.N_below (Kd.pl_N HO586.out) hb); replace BK580 := bb BK580 hb; replace BK581 := bb BK581 hb; replace BK582 := bb BK582 hb; replace HB := hB HB hb; (try clear hb); (try clear hb2); (try clear hk); (try clear hi); obtain ⟨hcz47_0, hcz47_1, hfz47_0, hfz47_1⟩ := blk_c2 BK580.out) | ((with_reducible refine gate_dst (N := 30) rfl ?_); (try (refine gate_guard (by rfl) ?_; dsimp only)); refine Kd.N_lit k31 _ 31 ?hg (N' := 30) ?hd (xs := ([(⟨a0_0, l0_1⟩ : S31)] : List (S31))) (inner := [.string a0_0, .slice A0_1 l0_1.length c0_1]) (ok := (fun k_ => (P0_1_ k_ ∨ w.heap.size ≤ k_) ∧ some k_ ≠ (.slice Ao40 y584.length co40 : Value).ownBlock ∧ k_ ≠ gb580 ∧ k_ ≠ gb581 ∧ k_ ≠ gb582)) (okp := (fun k_ => (P0_1_ k_ ∨ w.heap.size ≤ k_) ∧ some k_ ≠ (.slice Ao40 y584.length co40 : Value).ownBlock ∧ k_ ≠ gb580 ∧ k_ ≠ gb581 ∧ k_ ≠ gb582)) ?hr ?hp (fun _ hk => hk) ((show ∀ k_, w46.heap.size ≤ k_ → (fun k_ => (P0_1_ k_ ∨ w.heap.size ≤ k_) ∧ some k_ ≠ (.slice Ao40 y584.length co40 : Value).ownBlock ∧ k_ ≠ gb580 ∧ k_ ≠ gb581 ∧ k_ ≠ gb582) k_ from fun k_ hk => ⟨(.inr (Nat.le_trans (below_size (pl_below HB.out)) hk)), Kd.fresh' (Kd.N_lt (Kd.pl_N HO586.out)) k_ hk, Kd.freshB (g := gb580) (o := .cells #[.string a0_0, .slice A0_1 l0_1.length c0_1] 31 (0, 0)) (pl_blk BK580.out) k_ hk, Kd.freshB (g := gb581) (o := .cells #[.int .i64 a1_0, .int .i64 a1_1, .int .i64 a1_2, .string a1_3, .slice A1_4 l1_4.length c1_4] 25 (0, 0)) (pl_blk BK581.out) k_ hk, Kd.freshB (g := gb582) (o := .cells #[.int .i64 a3_0, .int .i64 a3_1, .string a3_2] 52 (0, 0)) (pl_blk BK582.out) k_ hk⟩) _ (Nat.le_refl _)) (Below.refl _ _) (Nat.le_refl _) (by simp) ?_; (case hd => rfl); (case hg => rfl); (case hr => first | (go_simp; done) | (go_simp; rfl)); (case hp => exact (Reps.c2 (show Kd.FK k31 _ _ (⟨a0_0, l0_1⟩ : S31) [.string a0_0, .slice A0_1 l0_1.length c0_1] from (k31_mkF _ _ (⟨a0_0, l0_1⟩ : S31) (Kd.V_reads' (Kd.V_mono (ok' := (fun k_ => (P0_1_ k_ ∨ w.heap.size ≤ k_) ∧ some k_ ≠ (.slice Ao40 y584.length co40 : Value).ownBlock ∧ k_ ≠ gb580 ∧ k_ ≠ gb581 ∧ k_ ≠ gb582)) (HO0_1.out) (fun k_ hk => ⟨hk.1.1.1.1, ⟨hk.2, ⟨hk.1.1.1.2, ⟨hk.1.1.2, hk.1.2⟩⟩⟩⟩))).2.1 (Kd.V_F (Kd.V_mono (ok' := (fun k_ => (P0_1_ k_ ∨ w.heap.size ≤ k_) ∧ some k_ ≠ (.slice Ao40 y584.length co40 : Value).ownBlock ∧ k_ ≠ gb580 ∧ k_ ≠ gb581 ∧ k_ ≠ gb582)) (HO0_1.out) (fun k_ hk => ⟨hk.1.1.1.1, ⟨hk.2, ⟨hk.1.1.1.2, ⟨hk.1.1.2, hk.1.2⟩⟩⟩⟩))))) (Reps.none _ _))); intro v591 w48 ho49 hb hg_ hnew_; clear hg_ hnew_; (first | rw [← Ny590.out] at ho49 | (simp only [Int.reduceToNat] at ho49; rw [← Ny590.out] at ho49)); replace HO0_1 := Aside0.mk (Kd.V_elder' (Kd.pl_V HO0_1.out) (Kd.N_base ho49) hb); replace HO586 := Aside0.mk (Kd.N_elder' (Kd.pl_N HO586.out) (Kd.N_base ho49) hb); have HO592 := Aside0.mk (Kd.N_lower ho49 (below_size (pl_below HB.out))); replace BK580 := bb BK580 hb; replace BK581 := bb BK581 hb; replace BK582 := bb BK582 hb; replace HB := hB HB hb; clear hb ho49; obtain ⟨hcz50_0, hcz50_1, hcz50_2, hcz50_3, hcz50_4, hfz50_0, hfz50_1, hfz50_2, hfz50_3, hfz50_4⟩ := blk_c5 BK581.out; obtain ⟨Ao51, co51, eo51⟩ := Kd.N_slice HO592.out; subst eo51) | (go_at_call 19; (with_reducible refine (event_Fits.calls k _ _ y590 a1_0 a1_1 a1_2 a1_3 _ _ l1_4 t593 _ ?side1 ?side2 ?side3 ?side4 A34.out).mono ?_); (case side1 => repeat (first | exact (Kd.N_reads' HO592.out).2.2 | (with_reducible refine Kd.C_alloc ?_ _) | (with_reducible refine Kd.C_drewN ?_ _) | (with_reducible refine Kd.C_drew ?_))); (case side2 => exact (Kd.N_reads' HO592.out).2.1); (case side3 => repeat (first | exact (Kd.C_below HR1_4.out HB.out) | (with_reducible refine Kd.C_alloc ?_ _) | (with_reducible refine Kd.C_drewN ?_ _) | (with_reducible refine Kd.C_drew ?_))); (case side4 => exact HC1_4.out); rintro e w52 ⟨rfl, hb⟩; replace HO0_1 := Aside0.mk (Kd.V_below (Kd.pl_V HO0_1.out) hb); replace HO586 := Aside0.mk (Kd.N_below (Kd.pl_N HO586.out) hb); replace HO592 := Aside0.mk (Kd.N_below (Kd.pl_N HO592.out) hb); replace BK580 := bb BK580 hb; replace BK581 := bb BK581 hb; replace BK582 := bb BK582 hb; replace HB := hB HB hb; (try clear hb); (try clear hb2); (try clear hk); (try clear hi)))
      go_meet
      case rel => exact ⟨_, ((t593 != 0)), (by first | rfl | (simp; done) | (simp [*]; done) | grind), H', ⟨by first | omega | exact Nat.le_refl _⟩, ⟨by (with_reducible repeat (first | apply Kd.V_alloc | apply Kd.V_drewN | apply Kd.V_drew)); exact Kd.V_mono HO0_1.out (fun _ hk => ⟨hk.1.1.1.1.1, ⟨hk.1.1.1.1.2, ⟨hk.1.1.1.2, hk.1.1.2⟩⟩⟩)⟩, ⟨pl_blk BK580.out⟩, ⟨pl_blk BK581.out⟩, ⟨pl_blk BK582.out⟩, ⟨pl_below HB.out⟩⟩
     ·replace c33 := Bool.eq_false_iff.mpr c33
      subst c33
      rw [if_neg (show ¬ (false = true) by decide)] at H
      have H' := Aside0.mk H
      clear H
      have hnb53 := NB580_581.out
      have hnc53 := NB581_580.out
      have hnb54 := NB580_582.out
      have hnc54 := NB582_580.out
      obtain ⟨hcz55_0, hcz55_1, hfz55_0, hfz55_1⟩ := blk_c2 BK580.out
      go_wp2_with (first | ((with_reducible refine gate_dst (N := 17) rfl ?_); (try (refine gate_guard (by rfl) ?_; dsimp only)); refine Kd.N_lit k31 _ 31 ?hg (N' := 17) ?hd (xs := ([(⟨a0_0, l0_1⟩ : S31)] : List (S31))) (inner := [.string a0_0, .slice A0_1 l0_1.length c0_1]) (ok := (fun k_ => (P0_1_ k_ ∨ w.heap.size ≤ k_) ∧ k_ ≠ gb580 ∧ k_ ≠ gb581 ∧ k_ ≠ gb582)) (okp := (fun k_ => (P0_1_ k_ ∨ w.heap.size ≤ k_) ∧ k_ ≠ gb580 ∧ k_ ≠ gb581 ∧ k_ ≠ gb582)) ?hr ?hp (fun _ hk => hk) ((show ∀ k_, w10.heap.size ≤ k_ → (fun k_ => (P0_1_ k_ ∨ w.heap.size ≤ k_) ∧ k_ ≠ gb580 ∧ k_ ≠ gb581 ∧ k_ ≠ gb582) k_ from fun k_ hk => ⟨(.inr (Nat.le_trans (below_size (pl_below HB.out)) hk)), Kd.freshB (g := gb580) (o := .cells #[.string a0_0, .slice A0_1 l0_1.length c0_1] 31 (0, 0)) (pl_blk BK580.out) k_ hk, Kd.freshB (g := gb581) (o := .cells #[.int .i64 a1_0, .int .i64 a1_1, .int .i64 a1_2, .string a1_3, .slice A1_4 l1_4.length c1_4] 25 (0, 0)) (pl_blk BK581.out) k_ hk, Kd.freshB (g := gb582) (o := .cells #[.int .i64 a3_0, .int .i64 a3_1, .string a3_2] 52 (0, 0)) (pl_blk BK582.out) k_ hk⟩) _ (Nat.le_refl _)) (Below.refl _ _) (Nat.le_refl _) (by simp) ?_; (case hd => rfl); (case hg => rfl); (case hr => first | (go_simp; done) | (go_simp; rfl)); (case hp => exact (Reps.c2 (show Kd.FK k31 _ _ (⟨a0_0, l0_1⟩ : S31) [.string a0_0, .slice A0_1 l0_1.length c0_1] from (k31_mkF _ _ (⟨a0_0, l0_1⟩ : S31) (Kd.V_reads' (Kd.V_mono (ok' := (fun k_ => (P0_1_ k_ ∨ w.heap.size ≤ k_) ∧ k_ ≠ gb580 ∧ k_ ≠ gb581 ∧ k_ ≠ gb582)) (HO0_1.out) (fun k_ hk => ⟨hk.1.1.1, ⟨hk.1.1.2, ⟨hk.1.2, hk.2⟩⟩⟩))).2.1 (Kd.V_F (Kd.V_mono (ok' := (fun k_ => (P0_1_ k_ ∨ w.heap.size ≤ k_) ∧ k_ ≠ gb580 ∧ k_ ≠ gb581 ∧ k_ ≠ gb582)) (HO0_1.out) (fun k_ hk => ⟨hk.1.1.1, ⟨hk.1.1.2, ⟨hk.1.2, hk.2⟩⟩⟩))))) (Reps.none _ _))); intro v585 w56 ho57 hb hg_ hnew_; clear hg_ hnew_; (first | rw [← Ny584.out] at ho57 | (simp only [Int.reduceToNat] at ho57; rw [← Ny584.out] at ho57)); replace HO0_1 := Aside0.mk (Kd.V_elder' (Kd.pl_V HO0_1.out) (Kd.N_base ho57) hb); have HO586 := Aside0.mk (Kd.N_lower ho57 (below_size (pl_below HB.out))); replace BK580 := bb BK580 hb; replace BK581 := bb BK581 hb; replace BK582 := bb BK582 hb; replace HB := hB HB hb; clear hb ho57; obtain ⟨Ao58, co58, eo58⟩ := Kd.N_slice HO586.out; subst eo58) | ((with_reducible refine gate_callee (f := 10) rfl ?_); refine goesL_ (some 18) rfl rfl Try.func10 (by kernel_rfl) rfl #[.slice Ao58 y584.length co58] rfl (by (try simp only [List.map_toArray, List.map_cons, List.map_nil]); first | done | rfl | (simp only [List.length_drop, List.length_take]; rfl)) ?_; (with_reducible refine (augurylaw05_GreatSchemas.calls k _ _ y584 false _ ?side1 ?side2 A11.out).mono ?_); (case side1 => repeat (first | exact (Kd.N_reads' HO586.out).2.2 | (with_reducible refine Kd.C_alloc ?_ _) | (with_reducible refine Kd.C_drewN ?_ _) | (with_reducible refine Kd.C_drew ?_))); (case side2 => exact (Kd.N_reads' HO586.out).2.1); rintro e w59 ⟨rfl, hb⟩; refine ⟨_, rfl, ?_⟩; replace HO0_1 := Aside0.mk (Kd.V_below (Kd.pl_V HO0_1.out) hb); replace HO586 := Aside0.mk (Kd.N_below (Kd.pl_N HO586.out) hb); replace BK580 := bb BK580 hb; replace BK581 := bb BK581 hb; replace BK582 := bb BK582 hb; replace HB := hB HB hb; (try clear hb); (try clear hb2); (try clear hk); (try clear hi); have hnb60 := NB581_582.out; have hnc60 := NB582_581.out; obtain ⟨hcz61_0, hcz61_1, hcz61_2, hcz61_3, hcz61_4, hfz61_0, hfz61_1, hfz61_2, hfz61_3, hfz61_4⟩ := blk_c5 BK581.out) | (go_at_call 11; (with_reducible refine (augurylaw05_GreatEvent.calls k a1_0 a1_1 a1_2 a1_3 _ _ l1_4 false _ ?side1 ?side2 A20.out).mono ?_); (case side1 => repeat (first | exact (Kd.C_below HR1_4.out HB.out) | (with_reducible refine Kd.C_alloc ?_ _) | (with_reducible refine Kd.C_drewN ?_ _) | (with_reducible refine Kd.C_drew ?_))); (case side2 => exact HC1_4.out); rintro e w62 ⟨rfl, hb⟩; replace HO0_1 := Aside0.mk (Kd.V_below (Kd.pl_V HO0_1.out) hb); replace HO586 := Aside0.mk (Kd.N_below (Kd.pl_N HO586.out) hb); replace BK580 := bb BK580 hb; replace BK581 := bb BK581 hb; replace BK582 := bb BK582 hb; replace HB := hB HB hb; (try clear hb); (try clear hb2); (try clear hk); (try clear hi); obtain ⟨hcz63_0, hcz63_1, hcz63_2, hfz63_0, hfz63_1, hfz63_2⟩ := blk_c3 BK582.out) | (go_at_call 30; (with_reducible refine (auguryref04_Right.calls a3_0 a3_1 a3_2 false _ A32.out).mono ?_); rintro e w64 ⟨rfl, hb⟩; replace HO0_1 := Aside0.mk (Kd.V_below (Kd.pl_V HO0_1.out) hb); replace HO586 := Aside0.mk (Kd.N_below (Kd.pl_N HO586.out) hb); replace BK580 := bb BK580 hb; replace BK581 := bb BK581 hb; replace BK582 := bb BK582 hb; replace HB := hB HB hb; (try clear hb); (try clear hb2); (try clear hk); (try clear hi)))
      go_meet
      case rel => exact ⟨_, (true), (by first | rfl | (simp; done) | (simp [*]; done) | grind), H', ⟨by first | omega | exact Nat.le_refl _⟩, ⟨by (with_reducible repeat (first | apply Kd.V_alloc | apply Kd.V_drewN | apply Kd.V_drew)); exact Kd.V_mono HO0_1.out (fun _ hk => ⟨hk.1.1.1.1, ⟨hk.1.1.1.2, ⟨hk.1.1.2, hk.1.2⟩⟩⟩)⟩, ⟨pl_blk BK580.out⟩, ⟨pl_blk BK581.out⟩, ⟨pl_blk BK582.out⟩, ⟨pl_below HB.out⟩⟩
  case rest =>
   clear HC6
   (try clear c1); (try clear c2); (try clear p2); (try clear c3); (try clear c4); (try clear c5); (try clear c6); (try clear c7); (try clear c9); (try clear c10); (try clear c12); (try clear c13); (try clear c14); (try clear c21); (try clear c22); (try clear c23); (try clear c29); (try clear c33); (try clear c35); (try clear c36); (try clear c42); (try clear c53); (try clear c54); (try clear c60); (try clear hcz15_0 hcz15_1 hfz15_0 hfz15_1); (try clear hcz24_0 hcz24_1 hfz24_0 hfz24_1); (try clear hcz30_0 hcz30_1 hcz30_2 hcz30_3 hcz30_4 hfz30_0 hfz30_1 hfz30_2 hfz30_3 hfz30_4); (try clear hcz37_0 hcz37_1 hfz37_0 hfz37_1); (try clear hcz43_0 hcz43_1 hcz43_2 hcz43_3 hcz43_4 hfz43_0 hfz43_1 hfz43_2 hfz43_3 hfz43_4); (try clear hcz45_0 hcz45_1 hcz45_2 hfz45_0 hfz45_1 hfz45_2); (try clear hcz47_0 hcz47_1 hfz47_0 hfz47_1); (try clear hcz50_0 hcz50_1 hcz50_2 hcz50_3 hcz50_4 hfz50_0 hfz50_1 hfz50_2 hfz50_3 hfz50_4); (try clear hcz55_0 hcz55_1 hfz55_0 hfz55_1); (try clear hcz61_0 hcz61_1 hcz61_2 hcz61_3 hcz61_4 hfz61_0 hfz61_1 hfz61_2 hfz61_3 hfz61_4); (try clear hcz63_0 hcz63_1 hcz63_2 hfz63_0 hfz63_1 hfz63_2)
   obtain ⟨kq, x34_5, rfl, HA, HJ5, HO_581001, BK580, BK581, BK582, HB⟩ := hcut
   cases kq with
   | zero => exact absurd HA.out (by simp [augurylaw05_EventFits.j0])
   | succ kj5 =>
    have H := HA.out
    clear HA
    simp only [augurylaw05_EventFits.j0] at H
    by_cases c65 : x34_5 = true
    ·subst c65
     rw [if_pos rfl] at H
     by_cases c66 : t583 = true; rotate_left
     ·rw [if_neg c66] at H; cases H
     subst c66
     rw [if_pos rfl] at H
     obtain rfl := Option.some.inj H
     go_wp2
     go_ret
     exact ⟨by first | rfl | (simp [errW_none, errW_some] <;> rfl) | (simp [*, errW_none, errW_some] <;> rfl), pl_below HB.out⟩
    ·replace c65 := Bool.eq_false_iff.mpr c65
     subst c65
     rw [if_neg (show ¬ (false = true) by decide)] at H
     replace H := Option.bind_eq_some_iff.mp H
     obtain ⟨y595, hy595, H⟩ := H
     replace hy595 := (Option.some.inj hy595).symm
     (try dsimp only at H)
     have Ny595 := Aside0.mk hy595
     clear hy595
     by_cases c67 : y595.length + l1_4.length < 4398046511104; rotate_left
     ·rw [if_neg c67] at H; cases H
     rw [if_pos c67] at H
     have LMc67 := Aside0.mk c67
     clear c67
     replace H := Option.bind_eq_some_iff.mp H
     obtain ⟨y598, hy598, H⟩ := H
     replace hy598 := (Option.some.inj hy598).symm
     (try dsimp only at H)
     have Ny598 := Aside0.mk hy598
     clear hy598
     replace H := Option.bind_eq_some_iff.mp H
     obtain ⟨y601, hy601, H⟩ := H
     replace hy601 := (Option.some.inj hy601).symm
     (try dsimp only at H)
     have Ny601 := Aside0.mk hy601
     clear hy601
     by_cases c68 : y598.length + y601.length < 4398046511104; rotate_left
     ·rw [if_neg c68] at H; cases H
     rw [if_pos c68] at H
     have LMc68 := Aside0.mk c68
     clear c68
     obtain ⟨y604, hy604⟩ : ∃ y_ : List (S52), y_ = (y598 ++ y601) := ⟨_, rfl⟩
     replace H : (if (l1_4.length : Int) = (l0_1.length : Int) then ((event_Fits.f kj5 (([(⟨a0_0, l0_1⟩ : S31)] : List (S31))) a1_0 a1_1 a1_2 a1_3 y604).bind fun t610 => (augurylaw05_EventFits.j1 kj5 a2 t583 (t610 == 0) a0_0 l0_1 a1_0 a1_1 a1_2 a1_3 l1_4 a3_0 a3_1 a3_2)) else (augurylaw05_EventFits.j1 kj5 a2 t583 true a0_0 l0_1 a1_0 a1_1 a1_2 a1_3 l1_4 a3_0 a3_1 a3_2)) = some r := by first | (rw [hy604]; with_reducible exact H) | (have H2_ := (Option.bind_some _ _).symm.trans H; rw [hy604]; with_reducible exact H2_) | (have H2_ := (Option.bind_some _ _).symm.trans H; with_reducible exact H2_) | with_reducible exact H | (rw [hy604]; exact H) | exact H
     have Ny604 := Aside0.mk hy604
     clear hy604
     have HC69 := Aside0.mk H
     clear H
     have hnb70 := NB581_580.out
     have hnc70 := NB580_581.out
     have hnb71 := NB581_582.out
     have hnc71 := NB582_581.out
     obtain ⟨hcz72_0, hcz72_1, hcz72_2, hcz72_3, hcz72_4, hfz72_0, hfz72_1, hfz72_2, hfz72_3, hfz72_4⟩ := blk_c5 BK581.out
     try go_wp2_with (first | ((with_reducible refine gate_dst (N := 10) rfl ?_); (try (refine gate_guard (by rfl) ?_; dsimp only)); refine box_event ?hg (N := 10) ?hd (cs := #[.int .i64 0, .int .i64 0, .int .i64 0, .string (⟨#[]⟩ : ByteArray), .slice none 0 0]) (t := 25) ?hr ?_; (case hd => rfl); (case hg => rfl); (case hr => first | (go_simp; done) | (go_simp; rfl)); intro gb594 hg w73 hbox hb; replace HO_581001 := Aside0.mk (Kd.V_below (Kd.V_elderB (Kd.pl_V HO_581001.out) gb594 (Nat.le_of_eq hg.symm)) hb); have BK594 := Aside0.mk (hbox); have GW594 := hG HB hg; have GE594 := hG HB hg; replace HB := hB HB hb; have NB580_594 := hN BK580 hg; have NB594_580 := hM BK580 hg; replace BK580 := bb BK580 hb; have NB581_594 := hN BK581 hg; have NB594_581 := hM BK581 hg; replace BK581 := bb BK581 hb; have NB582_594 := hN BK582 hg; have NB594_582 := hM BK582 hg; replace BK582 := bb BK582 hb; clear hb hbox hg; have hnb74 := NB594_580.out; have hnc74 := NB580_594.out; have hnb75 := NB594_581.out; have hnc75 := NB581_594.out; have hnb76 := NB594_582.out; have hnc76 := NB582_594.out; obtain ⟨hcz77_0, hcz77_1, hcz77_2, hcz77_3, hcz77_4, hfz77_0, hfz77_1, hfz77_2, hfz77_3, hfz77_4⟩ := blk_c5 BK594.out))
     generalize hw_ : (((((w73.setCell ⟨gb594, 0, none⟩ (.int .i64 a1_0)).setCell ⟨gb594, 1, none⟩ (.int .i64 a1_1)).setCell ⟨gb594, 2, none⟩ (.int .i64 a1_2)).setCell ⟨gb594, 3, none⟩ (.string a1_3)).setCell ⟨gb594, 4, none⟩ (.slice A1_4 l1_4.length c1_4)) = w78
     have n0_ : Aside0 (Kd.V k55 55 w78 w.heap.size (fun k_ => (P0_1_ k_ ∨ w.heap.size ≤ k_) ∧ k_ ≠ gb580 ∧ k_ ≠ gb581 ∧ k_ ≠ gb582 ∧ k_ ≠ gb594) (.slice A0_1 l0_1.length c0_1) l0_1) := ⟨by rw [← hw_]; exact (by (with_reducible repeat (first | apply Kd.V_alloc | apply Kd.V_drewN | apply Kd.V_drew)); exact Kd.V_mono (Kd.V_far (p := ⟨gb594, 4, none⟩) (Kd.V_far (p := ⟨gb594, 3, none⟩) (Kd.V_far (p := ⟨gb594, 2, none⟩) (Kd.V_far (p := ⟨gb594, 1, none⟩) (Kd.V_far (p := ⟨gb594, 0, none⟩) (Kd.V_mono HO_581001.out (fun k_ hk => (⟨hk, hk.2⟩ : _ ∧ k_ ≠ gb594))) (fun _ hk => hk.2) (.int .i64 a1_0)) (fun _ hk => hk.2) (.int .i64 a1_1)) (fun _ hk => hk.2) (.int .i64 a1_2)) (fun _ hk => hk.2) (.string a1_3)) (fun _ hk => hk.2) (.slice A1_4 l1_4.length c1_4)) (fun _ hk => ⟨hk.1.1.1, ⟨hk.1.1.2.1, ⟨hk.1.1.2.2.1, ⟨hk.1.1.2.2.2, hk.1.2⟩⟩⟩⟩))⟩
     have n1_ : Aside0 (w78.heap[gb580]? = some (.cells #[.string a0_0, .slice A0_1 l0_1.length c0_1] 31 (0, 0))) := ⟨by rw [← hw_]; exact (pl_blk (blk_far (p := ⟨gb594, 4, none⟩) (blk_far (p := ⟨gb594, 3, none⟩) (blk_far (p := ⟨gb594, 2, none⟩) (blk_far (p := ⟨gb594, 1, none⟩) (blk_far (p := ⟨gb594, 0, none⟩) BK580.out NB580_594.out (.int .i64 a1_0)) NB580_594.out (.int .i64 a1_1)) NB580_594.out (.int .i64 a1_2)) NB580_594.out (.string a1_3)) NB580_594.out (.slice A1_4 l1_4.length c1_4)))⟩
     have n2_ : Aside0 (w78.heap[gb581]? = some (.cells #[.int .i64 a1_0, .int .i64 a1_1, .int .i64 a1_2, .string a1_3, .slice A1_4 l1_4.length c1_4] 25 (0, 0))) := ⟨by rw [← hw_]; exact (pl_blk (blk_far (p := ⟨gb594, 4, none⟩) (blk_far (p := ⟨gb594, 3, none⟩) (blk_far (p := ⟨gb594, 2, none⟩) (blk_far (p := ⟨gb594, 1, none⟩) (blk_far (p := ⟨gb594, 0, none⟩) BK581.out NB581_594.out (.int .i64 a1_0)) NB581_594.out (.int .i64 a1_1)) NB581_594.out (.int .i64 a1_2)) NB581_594.out (.string a1_3)) NB581_594.out (.slice A1_4 l1_4.length c1_4)))⟩
     have n3_ : Aside0 (w78.heap[gb582]? = some (.cells #[.int .i64 a3_0, .int .i64 a3_1, .string a3_2] 52 (0, 0))) := ⟨by rw [← hw_]; exact (pl_blk (blk_far (p := ⟨gb594, 4, none⟩) (blk_far (p := ⟨gb594, 3, none⟩) (blk_far (p := ⟨gb594, 2, none⟩) (blk_far (p := ⟨gb594, 1, none⟩) (blk_far (p := ⟨gb594, 0, none⟩) BK582.out NB582_594.out (.int .i64 a1_0)) NB582_594.out (.int .i64 a1_1)) NB582_594.out (.int .i64 a1_2)) NB582_594.out (.string a1_3)) NB582_594.out (.slice A1_4 l1_4.length c1_4)))⟩
     have n4_ : Aside0 (w78.heap[gb594]? = some (.cells #[.int .i64 a1_0, .int .i64 a1_1, .int .i64 a1_2, .string a1_3, .slice A1_4 l1_4.length c1_4] 25 (0, 0))) := ⟨by rw [← hw_]; exact (pl_blk (blk_put (blk_put (blk_put (blk_put (blk_put BK594.out 0 (.int .i64 a1_0) rfl) 1 (.int .i64 a1_1) rfl) 2 (.int .i64 a1_2) rfl) 3 (.string a1_3) rfl) 4 (.slice A1_4 l1_4.length c1_4) rfl))⟩
     have n5_ : Aside0 (Below w.heap.size w w78) := ⟨by rw [← hw_]; exact (by repeat (first | (with_reducible first | exact HB.out | apply below_alloc | apply pw_below_drewN | apply below_drew1 | refine below_set ?_ GE594.out) | exact HB.out))⟩
     (try clear HO_581001)
     (try clear BK580)
     (try clear BK581)
     (try clear BK582)
     (try clear BK594)
     (try clear HB)
     clear hw_
     have HO_581001 := n0_
     have BK580 := n1_
     have BK581 := n2_
     have BK582 := n3_
     have BK594 := n4_
     have HB := n5_
     clear n0_ n1_ n2_ n3_ n4_ n5_
     replace HO_581001 := Aside0.mk (Kd.V_drew HO_581001.out)
     replace BK580 := Aside0.mk (blk_drew BK580.out)
     replace BK581 := Aside0.mk (blk_drew BK581.out)
     replace BK582 := Aside0.mk (blk_drew BK582.out)
     replace BK594 := Aside0.mk (blk_drew BK594.out)
     replace HB := Aside0.mk (below_drew1 HB.out)
     refine start_ (n := 9) (S := fun w' => w'.cell? ⟨gb581, 0, none⟩ = some (.int .i64 a1_0) ∧ w'.cell? ⟨gb581, 1, none⟩ = some (.int .i64 a1_1) ∧ w'.cell? ⟨gb581, 2, none⟩ = some (.int .i64 a1_2) ∧ w'.cell? ⟨gb581, 3, none⟩ = some (.string a1_3) ∧ w'.cell? ⟨gb581, 4, none⟩ = some (.slice A1_4 l1_4.length c1_4) ∧ w'.cell? ⟨gb582, 0, none⟩ = some (.int .i64 a3_0) ∧ w'.cell? ⟨gb582, 1, none⟩ = some (.int .i64 a3_1) ∧ w'.cell? ⟨gb582, 2, none⟩ = some (.string a3_2)) (ds := []) #[false, false, false, false, false, false, false, false, false] (by kernel_rfl) rfl rfl ⟨(blk_cell BK581.out 0).trans rfl, (blk_cell BK581.out 1).trans rfl, (blk_cell BK581.out 2).trans rfl, (blk_cell BK581.out 3).trans rfl, (blk_cell BK581.out 4).trans rfl, (blk_cell BK582.out 0).trans rfl, (blk_cell BK582.out 1).trans rfl, (blk_cell BK582.out 2).trans rfl⟩ (fun hHeld => ?_); refine with_tabW augurylaw05_EventFits.tab5 augurylaw05_EventFits.bits5 (fun HT_ HW_ => ?_)
     generalize w78.drew = w79 at HO_581001 BK580 BK581 BK582 BK594 HB hHeld ⊢
     refine pure_ (i := 1) (N := some 38) (v := ?_) (a' := ?_) #[false, true, false, false, false, false, false, false, false] rfl rfl (any_of HT_.out (by kernel_rfl)) (fun _ _ _ h => h) (Or.inl ⟨by rfl, ?_⟩) ?_ ?_
     rotate_left
     ·intro w'
      go_simp
      with_reducible rfl
     rotate_left
     ·simp only [Act.put, List.setIfInBounds_toArray, List.set_cons_zero, List.set_cons_succ, i64_w, i32_w]
      rfl
     refine take_ (i := 2) (N := some 39) (v := ?_) (a' := ?_) #[false, true, true, false, false, false, false, false, false] rfl rfl (take_ofW HT_.out HW_.out (by kernel_rfl)) (fun _ _ _ h => h) (Or.inl ⟨by rfl, ?_⟩) hHeld ?_ ?_
     rotate_left
     ·rintro w' ⟨s0, s1, s2, s3, s4, s5, s6, s7⟩
      go_simp
      with_reducible rfl
     rotate_left
     ·simp only [Act.put, List.setIfInBounds_toArray, List.set_cons_zero, List.set_cons_succ, i64_w, i32_w]
      rfl
     refine take_ (i := 4) (N := some 41) (v := ?_) (a' := ?_) #[false, true, true, false, true, false, false, false, false] rfl rfl (take_ofW HT_.out HW_.out (by kernel_rfl)) (fun _ _ _ h => h) (Or.inl ⟨by rfl, ?_⟩) hHeld ?_ ?_
     rotate_left
     ·rintro w' ⟨s0, s1, s2, s3, s4, s5, s6, s7⟩
      go_simp
      with_reducible rfl
     rotate_left
     ·simp only [Act.put, List.setIfInBounds_toArray, List.set_cons_zero, List.set_cons_succ, i64_w, i32_w]
      rfl
     refine join_ (σ := Value × Value × Value) 3 #[true, true, true, true, true, true, false, false, false] (fun s_ => [(37, s_.1), (40, s_.2.1), (42, s_.2.2)]) (fun s_ w' => (w'.cell? ⟨gb581, 0, none⟩ = some (.int .i64 a1_0) ∧ w'.cell? ⟨gb581, 1, none⟩ = some (.int .i64 a1_1) ∧ w'.cell? ⟨gb581, 2, none⟩ = some (.int .i64 a1_2) ∧ w'.cell? ⟨gb581, 3, none⟩ = some (.string a1_3) ∧ w'.cell? ⟨gb581, 4, none⟩ = some (.slice A1_4 l1_4.length c1_4) ∧ w'.cell? ⟨gb582, 0, none⟩ = some (.int .i64 a3_0) ∧ w'.cell? ⟨gb582, 1, none⟩ = some (.int .i64 a3_1) ∧ w'.cell? ⟨gb582, 2, none⟩ = some (.string a3_2)) ∧ (Kd.R k52 52 w' w.heap.size (fun k_ => (w.heap.size ≤ k_) ∧ some k_ ≠ (s_.2.2 : Value).ownBlock ∧ k_ ≠ gb582) s_.2.1 y598) ∧ (Kd.R k52 52 w' w.heap.size (fun k_ => (w.heap.size ≤ k_) ∧ some k_ ≠ (s_.2.1 : Value).ownBlock ∧ k_ ≠ gb582) s_.2.2 y601) ∧ (Kd.V k55 55 w' w.heap.size (fun k_ => (P0_1_ k_ ∨ w.heap.size ≤ k_) ∧ some k_ ≠ (s_.2.1 : Value).ownBlock ∧ some k_ ≠ (s_.2.2 : Value).ownBlock ∧ k_ ≠ gb580 ∧ k_ ≠ gb581 ∧ k_ ≠ gb582 ∧ k_ ≠ gb594) (.slice A0_1 l0_1.length c0_1) l0_1) ∧ (w'.heap[gb580]? = some (.cells #[.string a0_0, .slice A0_1 l0_1.length c0_1] 31 (0, 0))) ∧ (w'.heap[gb581]? = some (.cells #[.int .i64 a1_0, .int .i64 a1_1, .int .i64 a1_2, .string a1_3, .slice A1_4 l1_4.length c1_4] 25 (0, 0))) ∧ (w'.heap[gb582]? = some (.cells #[.int .i64 a3_0, .int .i64 a3_1, .string a3_2] 52 (0, 0))) ∧ (w'.heap[gb594]? = some (.cells #[.int .i64 a1_0, .int .i64 a1_1, .int .i64 a1_2, .string a1_3, .slice A1_4 l1_4.length c1_4] 25 (0, 0))) ∧ (Below w.heap.size w w')) ?_ ?_
     rotate_left
     ·intro hCont
      refine two_ (i := 0) (j := 5) (Ni := some 37) (Nj := some 42) #[true, true, true, false, true, false, false, false, false] #[false, true, true, false, true, true, false, false, false] rfl rfl rfl rfl (two_of HT_.out (by kernel_rfl)) (by decide) (by decide) (fun K hK => ?_) (fun K hK => ?_)
      ·skip
       refine Kd.R_lit_step k52 _ 52 ?hg (N := 37) ?hd (xs := ([] : List (S52))) (inner := []) (ok := fun _ => True) (okp := fun _ => True) ?hr ?hp (fun _ hk => hk) trivial (Below.refl _ _) (Nat.le_refl _) (by simp) ?_; (case hd => rfl); (case hg => rfl); (case hr => first | (go_simp; done) | (go_simp; rfl)); (case hp => exact (Reps.none _ _))
       intro v596 w80 ho81 hb hg_ hnew_
       clear hg_ hnew_
       (first | rw [← Ny595.out] at ho81 | (simp only [Int.reduceToNat] at ho81; rw [← Ny595.out] at ho81))
       replace HO_581001 := Aside0.mk (Kd.V_elder' (Kd.pl_V HO_581001.out) (Kd.R_base ho81) hb)
       have HO597 := Aside0.mk (Kd.R_lower (Kd.R_newB (Kd.R_newM (M := fun k_ => (w.heap.size ≤ k_)) ho81 (below_size (pl_below HB.out)) (fun k_ h_ => h_)) (pl_blk BK582.out)) (below_size (pl_below HB.out)))
       replace BK580 := bb BK580 hb
       replace BK581 := bb BK581 hb
       replace BK582 := bb BK582 hb
       replace BK594 := bb BK594 hb
       replace HB := hB HB hb
       clear hb ho81
       refine hK.out _ _ ⟨(blk_cell BK581.out 0).trans rfl, (blk_cell BK581.out 1).trans rfl, (blk_cell BK581.out 2).trans rfl, (blk_cell BK581.out 3).trans rfl, (blk_cell BK581.out 4).trans rfl, (blk_cell BK582.out 0).trans rfl, (blk_cell BK582.out 1).trans rfl, (blk_cell BK582.out 2).trans rfl⟩ (fun hHeld => ?_)
       clear hK K
       refine norm_ (a' := ?_) ?_ ?_
       rotate_left
       ·show Act.put _ (some 37) _ = _
        simp only [Act.put, List.setIfInBounds_toArray, List.set_cons_zero, List.set_cons_succ, i64_w, i32_w]
        rfl
       refine two_ (i := 3) (j := 5) (Ni := some 40) (Nj := some 42) #[true, true, true, true, true, false, false, false, false] #[true, true, true, false, true, true, false, false, false] rfl rfl rfl rfl (two_of HT_.out (by kernel_rfl)) (by decide) (by decide) (fun K hK => ?_) (fun K hK => ?_)
       ·skip
        refine Kd.R_append_rows_step k52 (w0 := w) w.heap.size (by rfl) (.tmp 37) (.tmp 39) 23 52 (.agg #[(.int .i64 0), (.int .i64 0), (.string ⟨#[]⟩)]) 32 rfl Try.underlying23 info52 rfl (by decide) (by omega) v596 y595 l1_4 _ _ _ (fun k_ => (w.heap.size ≤ k_) ∧ k_ ≠ gb582) (fun _ => False) rfl rfl ?aO ?aR (fun _ _ h => h) (fun _ h => h.elim) ?aF ?aB ?aS ?aL ?_
        (case aR => repeat (first | exact (Kd.C_below HR1_4.out HB.out) | (with_reducible refine Kd.C_alloc ?_ _) | (with_reducible refine Kd.C_drewN ?_ _) | (with_reducible refine Kd.C_drew ?_)))
        (case aB => exact (pl_below HB.out))
        (case aF => exact (fun k_ hk => ⟨(Nat.le_trans (below_size (pl_below HB.out)) hk), Kd.freshB (g := gb582) (o := .cells #[.int .i64 a3_0, .int .i64 a3_1, .string a3_2] 52 (0, 0)) (pl_blk BK582.out) k_ hk⟩))
        (case aO => exact (by (with_reducible repeat (first | apply Kd.R_alloc | apply Kd.R_drewN | apply Kd.R_drew)); exact Kd.R_mono HO597.out (fun _ hk => ⟨hk.1.1, hk.2⟩)))
        (case aS => exact (below_size (pl_below HB.out)))
        (case aL => have := LMc67.out; omega)
        intro v599 w82 ho hb hg hat
        rw [← Ny598.out] at ho
        replace HO_581001 := Aside0.mk (Kd.V_afterv (ok := (fun k_ => (P0_1_ k_ ∨ w.heap.size ≤ k_) ∧ k_ ≠ gb580 ∧ k_ ≠ gb581 ∧ k_ ≠ gb582 ∧ k_ ≠ gb594)) (Kd.pl_V HO_581001.out) hg hat)
        replace BK580 := Aside0.mk (blk_grown (pl_blk BK580.out) hg (Kd.R_ne HO597.out BK580.out (by decide)))
        replace BK581 := Aside0.mk (blk_grown (pl_blk BK581.out) hg (Kd.R_ne HO597.out BK581.out (by decide)))
        replace BK582 := Aside0.mk (blk_grown (pl_blk BK582.out) hg (Kd.R_away HO597.out (fun _ hk => hk.2)))
        replace BK594 := Aside0.mk (blk_grown (pl_blk BK594.out) hg (Kd.R_ne HO597.out BK594.out (by decide)))
        replace HB := Aside0.mk (hb)
        have HO600 := Aside0.mk (ho)
        clear HO597
        clear ho hb hg hat
        refine hK.out _ _ ⟨(blk_cell BK581.out 0).trans rfl, (blk_cell BK581.out 1).trans rfl, (blk_cell BK581.out 2).trans rfl, (blk_cell BK581.out 3).trans rfl, (blk_cell BK581.out 4).trans rfl, (blk_cell BK582.out 0).trans rfl, (blk_cell BK582.out 1).trans rfl, (blk_cell BK582.out 2).trans rfl⟩ (fun hHeld => ?_)
        clear hK K
        refine norm_ (a' := ?_) ?_ ?_
        rotate_left
        ·show Act.put _ (some 40) _ = _
         simp only [Act.put, List.setIfInBounds_toArray, List.set_cons_zero, List.set_cons_succ, i64_w, i32_w]
         rfl
        refine one_ (i := 5) (N := some 42) #[true, true, true, true, true, true, false, false, false] rfl rfl (one_of HT_.out (by kernel_rfl)) (by decide) (fun K hK => ?_)
        refine Kd.R_lit_step k52 _ 52 ?hg (N := 42) ?hd (xs := ([(⟨a3_0, a3_1, a3_2⟩ : S52)] : List (S52))) (inner := [.int .i64 a3_0, .int .i64 a3_1, .string a3_2]) (ok := fun _ => True) (okp := fun _ => True) ?hr ?hp (fun _ hk => hk) trivial (Below.refl _ _) (Nat.le_refl _) (by simp) ?_; (case hd => rfl); (case hg => rfl); (case hr => first | (go_simp; done) | (go_simp; rfl)); (case hp => exact (Reps.c3 (show Kd.M k52 _ _ _ (⟨a3_0, a3_1, a3_2⟩ : S52) [.int .i64 a3_0, .int .i64 a3_1, .string a3_2] from (k52_mkM _ _ _ (⟨a3_0, a3_1, a3_2⟩ : S52) )) (Reps.none _ _)))
        intro v602 w83 ho84 hb hg_ hnew_
        clear hg_ hnew_
        (first | rw [← Ny601.out] at ho84 | (simp only [Int.reduceToNat] at ho84; rw [← Ny601.out] at ho84))
        replace HO_581001 := Aside0.mk (Kd.V_elder' (Kd.pl_V HO_581001.out) (Kd.R_base ho84) hb)
        have HO603 := Aside0.mk (Kd.R_lower (Kd.R_newB (Kd.R_new' (Kd.R_newM (M := fun k_ => (w.heap.size ≤ k_)) ho84 (below_size (pl_below HB.out)) (fun k_ h_ => h_)) (Kd.R_lt (Kd.pl_R HO600.out))) (pl_blk BK582.out)) (below_size (pl_below HB.out)))
        replace HO600 := Aside0.mk (Kd.R_elder' (Kd.pl_R HO600.out) (Kd.R_base ho84) hb)
        replace BK580 := bb BK580 hb
        replace BK581 := bb BK581 hb
        replace BK582 := bb BK582 hb
        replace BK594 := bb BK594 hb
        replace HB := hB HB hb
        clear hb ho84
        refine hK.out _ _ ⟨(blk_cell BK581.out 0).trans rfl, (blk_cell BK581.out 1).trans rfl, (blk_cell BK581.out 2).trans rfl, (blk_cell BK581.out 3).trans rfl, (blk_cell BK581.out 4).trans rfl, (blk_cell BK582.out 0).trans rfl, (blk_cell BK582.out 1).trans rfl, (blk_cell BK582.out 2).trans rfl⟩ (fun hHeld => ?_)
        clear hK K
        refine norm_ (a' := ?_) ?_ ?_
        rotate_left
        ·show Act.put _ (some 42) _ = _
         simp only [Act.put, List.setIfInBounds_toArray, List.set_cons_zero, List.set_cons_succ, i64_w, i32_w]
         rfl
        exact norm_ (by simp only [putAll, Act.put, List.setIfInBounds_toArray, List.set_cons_zero, List.set_cons_succ]) (hCont (v596, v599, v602) _ ⟨hHeld, (by (with_reducible repeat (first | apply Kd.R_alloc | apply Kd.R_drewN | apply Kd.R_drew)); exact Kd.R_mono HO600.out (fun _ hk => ⟨hk.1.1, ⟨hk.2, hk.1.2⟩⟩)), (by (with_reducible repeat (first | apply Kd.R_alloc | apply Kd.R_drewN | apply Kd.R_drew)); exact Kd.R_mono HO603.out (fun _ hk => ⟨hk.1.1.1, ⟨hk.1.2, hk.2⟩⟩)), (by (with_reducible repeat (first | apply Kd.V_alloc | apply Kd.V_drewN | apply Kd.V_drew)); exact Kd.V_mono HO_581001.out (fun _ hk => ⟨hk.1.1.1, ⟨hk.1.2, ⟨hk.2, ⟨hk.1.1.2.1, ⟨hk.1.1.2.2.1, ⟨hk.1.1.2.2.2.1, hk.1.1.2.2.2.2⟩⟩⟩⟩⟩⟩)), (pl_blk BK580.out), (pl_blk BK581.out), (pl_blk BK582.out), (pl_blk BK594.out), (pl_below HB.out)⟩)
       ·skip
        refine Kd.R_lit_step k52 _ 52 ?hg (N := 42) ?hd (xs := ([(⟨a3_0, a3_1, a3_2⟩ : S52)] : List (S52))) (inner := [.int .i64 a3_0, .int .i64 a3_1, .string a3_2]) (ok := fun _ => True) (okp := fun _ => True) ?hr ?hp (fun _ hk => hk) trivial (Below.refl _ _) (Nat.le_refl _) (by simp) ?_; (case hd => rfl); (case hg => rfl); (case hr => first | (go_simp; done) | (go_simp; rfl)); (case hp => exact (Reps.c3 (show Kd.M k52 _ _ _ (⟨a3_0, a3_1, a3_2⟩ : S52) [.int .i64 a3_0, .int .i64 a3_1, .string a3_2] from (k52_mkM _ _ _ (⟨a3_0, a3_1, a3_2⟩ : S52) )) (Reps.none _ _)))
        intro v602 w82 ho83 hb hg_ hnew_
        clear hg_ hnew_
        (first | rw [← Ny601.out] at ho83 | (simp only [Int.reduceToNat] at ho83; rw [← Ny601.out] at ho83))
        replace HO_581001 := Aside0.mk (Kd.V_elder' (Kd.pl_V HO_581001.out) (Kd.R_base ho83) hb)
        have HO603 := Aside0.mk (Kd.R_lower (Kd.R_newB (Kd.R_new' (Kd.R_newM (M := fun k_ => (w.heap.size ≤ k_)) ho83 (below_size (pl_below HB.out)) (fun k_ h_ => h_)) (Kd.R_lt (Kd.pl_R HO597.out))) (pl_blk BK582.out)) (below_size (pl_below HB.out)))
        replace HO597 := Aside0.mk (Kd.R_elder' (Kd.pl_R HO597.out) (Kd.R_base ho83) hb)
        replace BK580 := bb BK580 hb
        replace BK581 := bb BK581 hb
        replace BK582 := bb BK582 hb
        replace BK594 := bb BK594 hb
        replace HB := hB HB hb
        clear hb ho83
        refine hK.out _ _ ⟨(blk_cell BK581.out 0).trans rfl, (blk_cell BK581.out 1).trans rfl, (blk_cell BK581.out 2).trans rfl, (blk_cell BK581.out 3).trans rfl, (blk_cell BK581.out 4).trans rfl, (blk_cell BK582.out 0).trans rfl, (blk_cell BK582.out 1).trans rfl, (blk_cell BK582.out 2).trans rfl⟩ (fun hHeld => ?_)
        clear hK K
        refine norm_ (a' := ?_) ?_ ?_
        rotate_left
        ·show Act.put _ (some 42) _ = _
         simp only [Act.put, List.setIfInBounds_toArray, List.set_cons_zero, List.set_cons_succ, i64_w, i32_w]
         rfl
        refine one_ (i := 3) (N := some 40) #[true, true, true, true, true, true, false, false, false] rfl rfl (one_of HT_.out (by kernel_rfl)) (by decide) (fun K hK => ?_)
        refine Kd.R_append_rows_step k52 (w0 := w) w.heap.size (by rfl) (.tmp 37) (.tmp 39) 23 52 (.agg #[(.int .i64 0), (.int .i64 0), (.string ⟨#[]⟩)]) 32 rfl Try.underlying23 info52 rfl (by decide) (by omega) v596 y595 l1_4 _ _ _ (fun k_ => (w.heap.size ≤ k_) ∧ some k_ ≠ (v602 : Value).ownBlock ∧ k_ ≠ gb582) (fun _ => False) rfl rfl ?aO ?aR (fun _ _ h => h) (fun _ h => h.elim) ?aF ?aB ?aS ?aL ?_
        (case aR => repeat (first | exact (Kd.C_below HR1_4.out HB.out) | (with_reducible refine Kd.C_alloc ?_ _) | (with_reducible refine Kd.C_drewN ?_ _) | (with_reducible refine Kd.C_drew ?_)))
        (case aB => exact (pl_below HB.out))
        (case aF => exact (fun k_ hk => ⟨(Nat.le_trans (below_size (pl_below HB.out)) hk), Kd.fresh' (Kd.R_lt (Kd.pl_R HO603.out)) k_ hk, Kd.freshB (g := gb582) (o := .cells #[.int .i64 a3_0, .int .i64 a3_1, .string a3_2] 52 (0, 0)) (pl_blk BK582.out) k_ hk⟩))
        (case aO => exact (by (with_reducible repeat (first | apply Kd.R_alloc | apply Kd.R_drewN | apply Kd.R_drew)); exact Kd.R_mono HO597.out (fun _ hk => ⟨hk.1.1.1, ⟨hk.2, hk.1.2⟩⟩)))
        (case aS => exact (below_size (pl_below HB.out)))
        (case aL => have := LMc67.out; omega)
        intro v599 w84 ho hb hg hat
        rw [← Ny598.out] at ho
        replace HO_581001 := Aside0.mk (Kd.V_afterv (ok := (fun k_ => (P0_1_ k_ ∨ w.heap.size ≤ k_) ∧ some k_ ≠ (v602 : Value).ownBlock ∧ k_ ≠ gb580 ∧ k_ ≠ gb581 ∧ k_ ≠ gb582 ∧ k_ ≠ gb594)) (by (with_reducible repeat (first | apply Kd.V_alloc | apply Kd.V_drewN | apply Kd.V_drew)); exact Kd.V_mono HO_581001.out (fun _ hk => ⟨⟨hk.1.1.1, ⟨hk.2, ⟨hk.1.1.2.1, ⟨hk.1.1.2.2.1, ⟨hk.1.1.2.2.2.1, hk.1.1.2.2.2.2⟩⟩⟩⟩⟩, hk.1.2⟩)) hg hat)
        replace BK580 := Aside0.mk (blk_grown (pl_blk BK580.out) hg (Kd.R_ne HO597.out BK580.out (by decide)))
        replace BK581 := Aside0.mk (blk_grown (pl_blk BK581.out) hg (Kd.R_ne HO597.out BK581.out (by decide)))
        replace BK582 := Aside0.mk (blk_grown (pl_blk BK582.out) hg (Kd.R_away HO597.out (fun _ hk => hk.1.2)))
        replace BK594 := Aside0.mk (blk_grown (pl_blk BK594.out) hg (Kd.R_ne HO597.out BK594.out (by decide)))
        replace HO603 := Aside0.mk (Kd.R_after (ok := (fun k_ => (w.heap.size ≤ k_) ∧ k_ ≠ gb582)) (by (with_reducible repeat (first | apply Kd.R_alloc | apply Kd.R_drewN | apply Kd.R_drew)); exact Kd.R_mono HO603.out (fun _ hk => ⟨⟨hk.1.1.1, hk.2⟩, hk.1.2⟩)) hg hat)
        replace HB := Aside0.mk (hb)
        have HO600 := Aside0.mk (ho)
        clear HO597
        clear ho hb hg hat
        refine hK.out _ _ ⟨(blk_cell BK581.out 0).trans rfl, (blk_cell BK581.out 1).trans rfl, (blk_cell BK581.out 2).trans rfl, (blk_cell BK581.out 3).trans rfl, (blk_cell BK581.out 4).trans rfl, (blk_cell BK582.out 0).trans rfl, (blk_cell BK582.out 1).trans rfl, (blk_cell BK582.out 2).trans rfl⟩ (fun hHeld => ?_)
        clear hK K
        refine norm_ (a' := ?_) ?_ ?_
        rotate_left
        ·show Act.put _ (some 40) _ = _
         simp only [Act.put, List.setIfInBounds_toArray, List.set_cons_zero, List.set_cons_succ, i64_w, i32_w]
         rfl
        exact norm_ (by simp only [putAll, Act.put, List.setIfInBounds_toArray, List.set_cons_zero, List.set_cons_succ]) (hCont (v596, v599, v602) _ ⟨hHeld, (Kd.pl_R HO600.out), (by (with_reducible repeat (first | apply Kd.R_alloc | apply Kd.R_drewN | apply Kd.R_drew)); exact Kd.R_mono HO603.out (fun _ hk => ⟨hk.1.1, ⟨hk.2, hk.1.2⟩⟩)), (by (with_reducible repeat (first | apply Kd.V_alloc | apply Kd.V_drewN | apply Kd.V_drew)); exact Kd.V_mono HO_581001.out (fun _ hk => ⟨hk.1.1, ⟨hk.2, ⟨hk.1.2.1, ⟨hk.1.2.2.1, ⟨hk.1.2.2.2.1, ⟨hk.1.2.2.2.2.1, hk.1.2.2.2.2.2⟩⟩⟩⟩⟩⟩)), (pl_blk BK580.out), (pl_blk BK581.out), (pl_blk BK582.out), (pl_blk BK594.out), (pl_below HB.out)⟩)
      ·skip
       refine Kd.R_lit_step k52 _ 52 ?hg (N := 42) ?hd (xs := ([(⟨a3_0, a3_1, a3_2⟩ : S52)] : List (S52))) (inner := [.int .i64 a3_0, .int .i64 a3_1, .string a3_2]) (ok := fun _ => True) (okp := fun _ => True) ?hr ?hp (fun _ hk => hk) trivial (Below.refl _ _) (Nat.le_refl _) (by simp) ?_; (case hd => rfl); (case hg => rfl); (case hr => first | (go_simp; done) | (go_simp; rfl)); (case hp => exact (Reps.c3 (show Kd.M k52 _ _ _ (⟨a3_0, a3_1, a3_2⟩ : S52) [.int .i64 a3_0, .int .i64 a3_1, .string a3_2] from (k52_mkM _ _ _ (⟨a3_0, a3_1, a3_2⟩ : S52) )) (Reps.none _ _)))
       intro v602 w80 ho81 hb hg_ hnew_
       clear hg_ hnew_
       (first | rw [← Ny601.out] at ho81 | (simp only [Int.reduceToNat] at ho81; rw [← Ny601.out] at ho81))
       replace HO_581001 := Aside0.mk (Kd.V_elder' (Kd.pl_V HO_581001.out) (Kd.R_base ho81) hb)
       have HO603 := Aside0.mk (Kd.R_lower (Kd.R_newB (Kd.R_newM (M := fun k_ => (w.heap.size ≤ k_)) ho81 (below_size (pl_below HB.out)) (fun k_ h_ => h_)) (pl_blk BK582.out)) (below_size (pl_below HB.out)))
       replace BK580 := bb BK580 hb
       replace BK581 := bb BK581 hb
       replace BK582 := bb BK582 hb
       replace BK594 := bb BK594 hb
       replace HB := hB HB hb
       clear hb ho81
       refine hK.out _ _ ⟨(blk_cell BK581.out 0).trans rfl, (blk_cell BK581.out 1).trans rfl, (blk_cell BK581.out 2).trans rfl, (blk_cell BK581.out 3).trans rfl, (blk_cell BK581.out 4).trans rfl, (blk_cell BK582.out 0).trans rfl, (blk_cell BK582.out 1).trans rfl, (blk_cell BK582.out 2).trans rfl⟩ (fun hHeld => ?_)
       clear hK K
       refine norm_ (a' := ?_) ?_ ?_
       rotate_left
       ·show Act.put _ (some 42) _ = _
        simp only [Act.put, List.setIfInBounds_toArray, List.set_cons_zero, List.set_cons_succ, i64_w, i32_w]
        rfl
       refine one_ (i := 0) (N := some 37) #[true, true, true, false, true, true, false, false, false] rfl rfl (one_of HT_.out (by kernel_rfl)) (by decide) (fun K hK => ?_)
       refine Kd.R_lit_step k52 _ 52 ?hg (N := 37) ?hd (xs := ([] : List (S52))) (inner := []) (ok := fun _ => True) (okp := fun _ => True) ?hr ?hp (fun _ hk => hk) trivial (Below.refl _ _) (Nat.le_refl _) (by simp) ?_; (case hd => rfl); (case hg => rfl); (case hr => first | (go_simp; done) | (go_simp; rfl)); (case hp => exact (Reps.none _ _))
       intro v596 w82 ho83 hb hg_ hnew_
       clear hg_ hnew_
       (first | rw [← Ny595.out] at ho83 | (simp only [Int.reduceToNat] at ho83; rw [← Ny595.out] at ho83))
       replace HO_581001 := Aside0.mk (Kd.V_elder' (Kd.pl_V HO_581001.out) (Kd.R_base ho83) hb)
       have HO597 := Aside0.mk (Kd.R_lower (Kd.R_newB (Kd.R_new' (Kd.R_newM (M := fun k_ => (w.heap.size ≤ k_)) ho83 (below_size (pl_below HB.out)) (fun k_ h_ => h_)) (Kd.R_lt (Kd.pl_R HO603.out))) (pl_blk BK582.out)) (below_size (pl_below HB.out)))
       replace HO603 := Aside0.mk (Kd.R_elder' (Kd.pl_R HO603.out) (Kd.R_base ho83) hb)
       replace BK580 := bb BK580 hb
       replace BK581 := bb BK581 hb
       replace BK582 := bb BK582 hb
       replace BK594 := bb BK594 hb
       replace HB := hB HB hb
       clear hb ho83
       refine hK.out _ _ ⟨(blk_cell BK581.out 0).trans rfl, (blk_cell BK581.out 1).trans rfl, (blk_cell BK581.out 2).trans rfl, (blk_cell BK581.out 3).trans rfl, (blk_cell BK581.out 4).trans rfl, (blk_cell BK582.out 0).trans rfl, (blk_cell BK582.out 1).trans rfl, (blk_cell BK582.out 2).trans rfl⟩ (fun hHeld => ?_)
       clear hK K
       refine norm_ (a' := ?_) ?_ ?_
       rotate_left
       ·show Act.put _ (some 37) _ = _
        simp only [Act.put, List.setIfInBounds_toArray, List.set_cons_zero, List.set_cons_succ, i64_w, i32_w]
        rfl
       refine one_ (i := 3) (N := some 40) #[true, true, true, true, true, true, false, false, false] rfl rfl (one_of HT_.out (by kernel_rfl)) (by decide) (fun K hK => ?_)
       refine Kd.R_append_rows_step k52 (w0 := w) w.heap.size (by rfl) (.tmp 37) (.tmp 39) 23 52 (.agg #[(.int .i64 0), (.int .i64 0), (.string ⟨#[]⟩)]) 32 rfl Try.underlying23 info52 rfl (by decide) (by omega) v596 y595 l1_4 _ _ _ (fun k_ => (w.heap.size ≤ k_) ∧ some k_ ≠ (v602 : Value).ownBlock ∧ k_ ≠ gb582) (fun _ => False) rfl rfl ?aO ?aR (fun _ _ h => h) (fun _ h => h.elim) ?aF ?aB ?aS ?aL ?_
       (case aR => repeat (first | exact (Kd.C_below HR1_4.out HB.out) | (with_reducible refine Kd.C_alloc ?_ _) | (with_reducible refine Kd.C_drewN ?_ _) | (with_reducible refine Kd.C_drew ?_)))
       (case aB => exact (pl_below HB.out))
       (case aF => exact (fun k_ hk => ⟨(Nat.le_trans (below_size (pl_below HB.out)) hk), Kd.fresh' (Kd.R_lt (Kd.pl_R HO603.out)) k_ hk, Kd.freshB (g := gb582) (o := .cells #[.int .i64 a3_0, .int .i64 a3_1, .string a3_2] 52 (0, 0)) (pl_blk BK582.out) k_ hk⟩))
       (case aO => exact (by (with_reducible repeat (first | apply Kd.R_alloc | apply Kd.R_drewN | apply Kd.R_drew)); exact Kd.R_mono HO597.out (fun _ hk => ⟨hk.1.1.1, ⟨hk.1.2, hk.2⟩⟩)))
       (case aS => exact (below_size (pl_below HB.out)))
       (case aL => have := LMc67.out; omega)
       intro v599 w84 ho hb hg hat
       rw [← Ny598.out] at ho
       replace HO_581001 := Aside0.mk (Kd.V_afterv (ok := (fun k_ => (P0_1_ k_ ∨ w.heap.size ≤ k_) ∧ some k_ ≠ (v602 : Value).ownBlock ∧ k_ ≠ gb580 ∧ k_ ≠ gb581 ∧ k_ ≠ gb582 ∧ k_ ≠ gb594)) (by (with_reducible repeat (first | apply Kd.V_alloc | apply Kd.V_drewN | apply Kd.V_drew)); exact Kd.V_mono HO_581001.out (fun _ hk => ⟨⟨hk.1.1.1, ⟨hk.1.2, ⟨hk.1.1.2.1, ⟨hk.1.1.2.2.1, ⟨hk.1.1.2.2.2.1, hk.1.1.2.2.2.2⟩⟩⟩⟩⟩, hk.2⟩)) hg hat)
       replace BK580 := Aside0.mk (blk_grown (pl_blk BK580.out) hg (Kd.R_ne HO597.out BK580.out (by decide)))
       replace BK581 := Aside0.mk (blk_grown (pl_blk BK581.out) hg (Kd.R_ne HO597.out BK581.out (by decide)))
       replace BK582 := Aside0.mk (blk_grown (pl_blk BK582.out) hg (Kd.R_away HO597.out (fun _ hk => hk.2)))
       replace BK594 := Aside0.mk (blk_grown (pl_blk BK594.out) hg (Kd.R_ne HO597.out BK594.out (by decide)))
       replace HO603 := Aside0.mk (Kd.R_after (ok := (fun k_ => (w.heap.size ≤ k_) ∧ k_ ≠ gb582)) (by (with_reducible repeat (first | apply Kd.R_alloc | apply Kd.R_drewN | apply Kd.R_drew)); exact Kd.R_mono HO603.out (fun _ hk => ⟨⟨hk.1.1.1, hk.1.2⟩, hk.2⟩)) hg hat)
       replace HB := Aside0.mk (hb)
       have HO600 := Aside0.mk (ho)
       clear HO597
       clear ho hb hg hat
       refine hK.out _ _ ⟨(blk_cell BK581.out 0).trans rfl, (blk_cell BK581.out 1).trans rfl, (blk_cell BK581.out 2).trans rfl, (blk_cell BK581.out 3).trans rfl, (blk_cell BK581.out 4).trans rfl, (blk_cell BK582.out 0).trans rfl, (blk_cell BK582.out 1).trans rfl, (blk_cell BK582.out 2).trans rfl⟩ (fun hHeld => ?_)
       clear hK K
       refine norm_ (a' := ?_) ?_ ?_
       rotate_left
       ·show Act.put _ (some 40) _ = _
        simp only [Act.put, List.setIfInBounds_toArray, List.set_cons_zero, List.set_cons_succ, i64_w, i32_w]
        rfl
       exact norm_ (by simp only [putAll, Act.put, List.setIfInBounds_toArray, List.set_cons_zero, List.set_cons_succ]) (hCont (v596, v599, v602) _ ⟨hHeld, (Kd.pl_R HO600.out), (by (with_reducible repeat (first | apply Kd.R_alloc | apply Kd.R_drewN | apply Kd.R_drew)); exact Kd.R_mono HO603.out (fun _ hk => ⟨hk.1.1, ⟨hk.2, hk.1.2⟩⟩)), (by (with_reducible repeat (first | apply Kd.V_alloc | apply Kd.V_drewN | apply Kd.V_drew)); exact Kd.V_mono HO_581001.out (fun _ hk => ⟨hk.1.1, ⟨hk.2, ⟨hk.1.2.1, ⟨hk.1.2.2.1, ⟨hk.1.2.2.2.1, ⟨hk.1.2.2.2.2.1, hk.1.2.2.2.2.2⟩⟩⟩⟩⟩⟩)), (pl_blk BK580.out), (pl_blk BK581.out), (pl_blk BK582.out), (pl_blk BK594.out), (pl_below HB.out)⟩)
     rintro ⟨v596, v599, v602⟩ w85 ⟨hS_, h0_, h1_, h2_, h3_, h4_, h5_, h6_, h7_⟩
     have n0_ : Aside0 (Kd.R k52 52 w85 w.heap.size (fun k_ => (w.heap.size ≤ k_) ∧ some k_ ≠ (v602 : Value).ownBlock ∧ k_ ≠ gb582) v599 y598) := ⟨h0_⟩
     have n1_ : Aside0 (Kd.R k52 52 w85 w.heap.size (fun k_ => (w.heap.size ≤ k_) ∧ some k_ ≠ (v599 : Value).ownBlock ∧ k_ ≠ gb582) v602 y601) := ⟨h1_⟩
     have n2_ : Aside0 (Kd.V k55 55 w85 w.heap.size (fun k_ => (P0_1_ k_ ∨ w.heap.size ≤ k_) ∧ some k_ ≠ (v599 : Value).ownBlock ∧ some k_ ≠ (v602 : Value).ownBlock ∧ k_ ≠ gb580 ∧ k_ ≠ gb581 ∧ k_ ≠ gb582 ∧ k_ ≠ gb594) (.slice A0_1 l0_1.length c0_1) l0_1) := ⟨h2_⟩
     have n3_ : Aside0 (w85.heap[gb580]? = some (.cells #[.string a0_0, .slice A0_1 l0_1.length c0_1] 31 (0, 0))) := ⟨h3_⟩
     have n4_ : Aside0 (w85.heap[gb581]? = some (.cells #[.int .i64 a1_0, .int .i64 a1_1, .int .i64 a1_2, .string a1_3, .slice A1_4 l1_4.length c1_4] 25 (0, 0))) := ⟨h4_⟩
     have n5_ : Aside0 (w85.heap[gb582]? = some (.cells #[.int .i64 a3_0, .int .i64 a3_1, .string a3_2] 52 (0, 0))) := ⟨h5_⟩
     have n6_ : Aside0 (w85.heap[gb594]? = some (.cells #[.int .i64 a1_0, .int .i64 a1_1, .int .i64 a1_2, .string a1_3, .slice A1_4 l1_4.length c1_4] 25 (0, 0))) := ⟨h6_⟩
     have n7_ : Aside0 (Below w.heap.size w w85) := ⟨h7_⟩
     clear HO_581001
     clear BK580
     clear BK581
     clear BK582
     clear BK594
     clear HB
     clear h0_ h1_ h2_ h3_ h4_ h5_ h6_ h7_
     have HO600 := n0_
     have HO603 := n1_
     have HO_581001 := n2_
     have BK580 := n3_
     have BK581 := n4_
     have BK582 := n5_
     have BK594 := n6_
     have HB := n7_
     clear n0_ n1_ n2_ n3_ n4_ n5_ n6_ n7_
     have hHeld : w85.cell? ⟨gb581, 0, none⟩ = some (.int .i64 a1_0) ∧ w85.cell? ⟨gb581, 1, none⟩ = some (.int .i64 a1_1) ∧ w85.cell? ⟨gb581, 2, none⟩ = some (.int .i64 a1_2) ∧ w85.cell? ⟨gb581, 3, none⟩ = some (.string a1_3) ∧ w85.cell? ⟨gb581, 4, none⟩ = some (.slice A1_4 l1_4.length c1_4) ∧ w85.cell? ⟨gb582, 0, none⟩ = some (.int .i64 a3_0) ∧ w85.cell? ⟨gb582, 1, none⟩ = some (.int .i64 a3_1) ∧ w85.cell? ⟨gb582, 2, none⟩ = some (.string a3_2) := hS_
     obtain ⟨Ao87, co87, eo87⟩ := Kd.R_slice HO603.out
     (first | subst eo87 | (injection eo87 with f1_ f2_ f3_; have f4_ := f1_.symm; have f5_ := f3_.symm; clear f1_ f2_ f3_; subst f4_; subst f5_))
     refine norm_ (a' := ?_) ?_ ?_
     rotate_left
     ·simp only [putAll, Act.put, List.setIfInBounds_toArray, List.set_cons_zero, List.set_cons_succ]
      rfl
     refine one_ (i := 6) (N := some 43) #[true, true, true, true, true, true, true, false, false] rfl rfl (one_of HT_.out (by kernel_rfl)) (by decide) (fun K hK => ?_)
     refine Kd.R_append_rows_step k52 (w0 := w) w.heap.size (by rfl) (.tmp 40) (.tmp 42) 23 52 (.agg #[(.int .i64 0), (.int .i64 0), (.string ⟨#[]⟩)]) 32 rfl Try.underlying23 info52 rfl (by decide) (by omega) v599 y598 y601 _ _ _ (fun k_ => (w.heap.size ≤ k_) ∧ some k_ ≠ (.slice Ao87 y601.length co87 : Value).ownBlock ∧ k_ ≠ gb582) (fun _ => False) rfl rfl ?aO ?aR (fun _ _ h => h) (fun _ h => h.elim) ?aF ?aB ?aS ?aL ?_
     (case aR => repeat (first | exact (Kd.R_reads' HO603.out).2.2 | (with_reducible refine Kd.C_alloc ?_ _) | (with_reducible refine Kd.C_drewN ?_ _) | (with_reducible refine Kd.C_drew ?_)))
     (case aB => exact (pl_below HB.out))
     (case aF => exact (fun k_ hk => ⟨(Nat.le_trans (below_size (pl_below HB.out)) hk), Kd.fresh' (Kd.R_lt (Kd.pl_R HO603.out)) k_ hk, Kd.freshB (g := gb582) (o := .cells #[.int .i64 a3_0, .int .i64 a3_1, .string a3_2] 52 (0, 0)) (pl_blk BK582.out) k_ hk⟩))
     (case aO => exact (Kd.pl_R HO600.out))
     (case aS => exact (below_size (pl_below HB.out)))
     (case aL => have := LMc68.out; omega)
     intro v605 w86 ho hb hg hat
     rw [← Ny604.out] at ho
     replace HO_581001 := Aside0.mk (Kd.V_afterv (ok := (fun k_ => (P0_1_ k_ ∨ w.heap.size ≤ k_) ∧ some k_ ≠ (.slice Ao87 y601.length co87 : Value).ownBlock ∧ k_ ≠ gb580 ∧ k_ ≠ gb581 ∧ k_ ≠ gb582 ∧ k_ ≠ gb594)) (by (with_reducible repeat (first | apply Kd.V_alloc | apply Kd.V_drewN | apply Kd.V_drew)); exact Kd.V_mono HO_581001.out (fun _ hk => ⟨⟨hk.1, ⟨hk.2.2.1, ⟨hk.2.2.2.1, ⟨hk.2.2.2.2.1, ⟨hk.2.2.2.2.2.1, hk.2.2.2.2.2.2⟩⟩⟩⟩⟩, hk.2.1⟩)) hg hat)
     replace BK580 := Aside0.mk (blk_grown (pl_blk BK580.out) hg (Kd.R_ne HO600.out BK580.out (by decide)))
     replace BK581 := Aside0.mk (blk_grown (pl_blk BK581.out) hg (Kd.R_ne HO600.out BK581.out (by decide)))
     replace BK582 := Aside0.mk (blk_grown (pl_blk BK582.out) hg (Kd.R_away HO600.out (fun _ hk => hk.2.2)))
     replace BK594 := Aside0.mk (blk_grown (pl_blk BK594.out) hg (Kd.R_ne HO600.out BK594.out (by decide)))
     replace HO603 := Aside0.mk (Kd.R_after (ok := (fun k_ => (w.heap.size ≤ k_) ∧ k_ ≠ gb582)) (by (with_reducible repeat (first | apply Kd.R_alloc | apply Kd.R_drewN | apply Kd.R_drew)); exact Kd.R_mono HO603.out (fun _ hk => ⟨⟨hk.1, hk.2.2⟩, hk.2.1⟩)) hg hat)
     replace HB := Aside0.mk (hb)
     have HO606 := Aside0.mk (ho)
     clear HO600
     clear ho hb hg hat
     obtain ⟨Ao88, co88, eo88⟩ := Kd.R_slice HO606.out
     (first | subst eo88 | (injection eo88 with f1_ f2_ f3_; have f4_ := f1_.symm; have f5_ := f3_.symm; clear f1_ f2_ f3_; subst f4_; subst f5_))
     refine hK.out _ _ ⟨(blk_cell BK581.out 0).trans rfl, (blk_cell BK581.out 1).trans rfl, (blk_cell BK581.out 2).trans rfl, (blk_cell BK581.out 3).trans rfl, (blk_cell BK581.out 4).trans rfl, (blk_cell BK582.out 0).trans rfl, (blk_cell BK582.out 1).trans rfl, (blk_cell BK582.out 2).trans rfl⟩ (fun hHeld => ?_)
     clear hK K
     refine norm_ (a' := ?_) ?_ ?_
     rotate_left
     ·show Act.put _ (some 43) _ = _
      simp only [Act.put, List.setIfInBounds_toArray, List.set_cons_zero, List.set_cons_succ, i64_w, i32_w]
      rfl
     refine pure_ (i := 7) (N := some 44) (v := ?_) (a' := ?_) #[true, true, true, true, true, true, true, true, false] rfl rfl (any_of HT_.out (by kernel_rfl)) (fun _ _ _ h => h) (Or.inl ⟨by rfl, ?_⟩) ?_ ?_
     rotate_left
     ·intro w'
      go_simp
      with_reducible rfl
     rotate_left
     ·simp only [Act.put, List.setIfInBounds_toArray, List.set_cons_zero, List.set_cons_succ, i64_w, i32_w]
      rfl
     refine one_ (i := 8) (N := none) #[true, true, true, true, true, true, true, true, true] rfl rfl (one_of HT_.out (by kernel_rfl)) (by decide) (fun K hK => ?_)
     have hs89 : w86.cell? ⟨gb594, 4, none⟩ = some (.slice A1_4 l1_4.length c1_4) := (blk_cell BK594.out 4).trans rfl
     have hfs89 := blk_frozen BK594.out 4
     have hns89_0 := NB580_594.out
     have hns89_1 := NB581_594.out
     have hns89_2 := NB582_594.out
     have hms89_0 := NB594_580.out
     have hms89_1 := NB594_581.out
     have hms89_2 := NB594_582.out
     refine skip_ (w1 := ?_) (by rfl) rfl ?_ ?_
     rotate_left
     ·go_simp
      rfl
     refine hK.out _ _ ⟨((cell_far (p := ⟨gb594, _, none⟩) NB581_594.out _).trans (hHeld.1)), ((cell_far (p := ⟨gb594, _, none⟩) NB581_594.out _).trans (hHeld.2.1)), ((cell_far (p := ⟨gb594, _, none⟩) NB581_594.out _).trans (hHeld.2.2.1)), ((cell_far (p := ⟨gb594, _, none⟩) NB581_594.out _).trans (hHeld.2.2.2.1)), ((cell_far (p := ⟨gb594, _, none⟩) NB581_594.out _).trans (hHeld.2.2.2.2.1)), ((cell_far (p := ⟨gb594, _, none⟩) NB582_594.out _).trans (hHeld.2.2.2.2.2.1)), ((cell_far (p := ⟨gb594, _, none⟩) NB582_594.out _).trans (hHeld.2.2.2.2.2.2.1)), ((cell_far (p := ⟨gb594, _, none⟩) NB582_594.out _).trans (hHeld.2.2.2.2.2.2.2))⟩ (fun hHeld => ?_)
     clear hK K
     refine done_ (done_of HT_.out (by kernel_rfl)) ?_
     generalize hw_ : (w86.setCell ⟨gb594, 4, none⟩ (.slice Ao88 y604.length co88)) = w90
     have n0_ : Aside0 (Kd.V k55 55 w90 w.heap.size (fun k_ => (P0_1_ k_ ∨ w.heap.size ≤ k_) ∧ some k_ ≠ (.slice Ao87 y601.length co87 : Value).ownBlock ∧ some k_ ≠ (.slice Ao88 y604.length co88 : Value).ownBlock ∧ k_ ≠ gb580 ∧ k_ ≠ gb581 ∧ k_ ≠ gb582 ∧ k_ ≠ gb594) (.slice A0_1 l0_1.length c0_1) l0_1) := ⟨by rw [← hw_]; exact (by (with_reducible repeat (first | apply Kd.V_alloc | apply Kd.V_drewN | apply Kd.V_drew)); exact Kd.V_mono (Kd.V_far (p := ⟨gb594, 4, none⟩) (Kd.V_mono HO_581001.out (fun k_ hk => (⟨hk, hk.1.2.2.2.2.2⟩ : _ ∧ k_ ≠ gb594))) (fun _ hk => hk.2) (.slice Ao88 y604.length co88)) (fun _ hk => ⟨hk.1.1.1, ⟨hk.1.1.2.1, ⟨hk.1.2, ⟨hk.1.1.2.2.1, ⟨hk.1.1.2.2.2.1, ⟨hk.1.1.2.2.2.2.1, hk.1.1.2.2.2.2.2⟩⟩⟩⟩⟩⟩))⟩
     have n1_ : Aside0 (Kd.R k52 52 w90 w.heap.size (fun k_ => (w.heap.size ≤ k_) ∧ some k_ ≠ (.slice Ao88 y604.length co88 : Value).ownBlock ∧ k_ ≠ gb582) (.slice Ao87 y601.length co87) y601) := ⟨by rw [← hw_]; exact (by (with_reducible repeat (first | apply Kd.R_alloc | apply Kd.R_drewN | apply Kd.R_drew)); exact Kd.R_mono (Kd.R_far (p := ⟨gb594, 4, none⟩) (Kd.R_types HO603.out BK594.out (by decide)) (fun _ hk => hk.2) (.slice Ao88 y604.length co88)) (fun _ hk => ⟨hk.1.1.1, ⟨hk.1.2, hk.1.1.2⟩⟩))⟩
     have n2_ : Aside0 (Kd.R k52 52 w90 w.heap.size (fun k_ => (w.heap.size ≤ k_) ∧ some k_ ≠ (.slice Ao87 y601.length co87 : Value).ownBlock ∧ k_ ≠ gb582) (.slice Ao88 y604.length co88) y604) := ⟨by rw [← hw_]; exact (by (with_reducible repeat (first | apply Kd.R_alloc | apply Kd.R_drewN | apply Kd.R_drew)); exact Kd.R_mono (Kd.R_far (p := ⟨gb594, 4, none⟩) (Kd.R_types HO606.out BK594.out (by decide)) (fun _ hk => hk.2) (.slice Ao88 y604.length co88)) (fun _ hk => ⟨hk.1.1, ⟨hk.1.2.1, hk.1.2.2⟩⟩))⟩
     have n3_ : Aside0 (w90.heap[gb580]? = some (.cells #[.string a0_0, .slice A0_1 l0_1.length c0_1] 31 (0, 0))) := ⟨by rw [← hw_]; exact (pl_blk (blk_far (p := ⟨gb594, 4, none⟩) BK580.out NB580_594.out (.slice Ao88 y604.length co88)))⟩
     have n4_ : Aside0 (w90.heap[gb581]? = some (.cells #[.int .i64 a1_0, .int .i64 a1_1, .int .i64 a1_2, .string a1_3, .slice A1_4 l1_4.length c1_4] 25 (0, 0))) := ⟨by rw [← hw_]; exact (pl_blk (blk_far (p := ⟨gb594, 4, none⟩) BK581.out NB581_594.out (.slice Ao88 y604.length co88)))⟩
     have n5_ : Aside0 (w90.heap[gb582]? = some (.cells #[.int .i64 a3_0, .int .i64 a3_1, .string a3_2] 52 (0, 0))) := ⟨by rw [← hw_]; exact (pl_blk (blk_far (p := ⟨gb594, 4, none⟩) BK582.out NB582_594.out (.slice Ao88 y604.length co88)))⟩
     have n6_ : Aside0 (w90.heap[gb594]? = some (.cells #[.int .i64 a1_0, .int .i64 a1_1, .int .i64 a1_2, .string a1_3, .slice Ao88 y604.length co88] 25 (0, 0))) := ⟨by rw [← hw_]; exact (pl_blk (blk_put BK594.out 4 (.slice Ao88 y604.length co88) rfl))⟩
     have n7_ : Aside0 (Below w.heap.size w w90) := ⟨by rw [← hw_]; exact (by repeat (first | (with_reducible first | exact HB.out | apply below_alloc | apply pw_below_drewN | apply below_drew1 | refine below_set ?_ GE594.out) | exact HB.out))⟩
     (try clear HO_581001)
     (try clear HO603)
     (try clear HO606)
     (try clear BK580)
     (try clear BK581)
     (try clear BK582)
     (try clear BK594)
     (try clear HB)
     clear hw_
     have HO_581001 := n0_
     have HO603 := n1_
     have HO606 := n2_
     have BK580 := n3_
     have BK581 := n4_
     have BK582 := n5_
     have BK594 := n6_
     have HB := n7_
     clear n0_ n1_ n2_ n3_ n4_ n5_ n6_ n7_
     go_upto_region 6 with (fail)
     go_cut [58] (fun v58 wc => ∃ (kq : Nat) (x58_68 : Bool), v58 = .bool x58_68 ∧ Aside0 (augurylaw05_EventFits.j1 kq a2 t583 x58_68 a0_0 l0_1 a1_0 a1_1 a1_2 a1_3 l1_4 a3_0 a3_1 a3_2 = some r) ∧ Aside0 (kq ≤ kj5) ∧ Aside0 (Kd.V k55 55 wc w.heap.size (fun k_ => (P0_1_ k_ ∨ w.heap.size ≤ k_) ∧ some k_ ≠ ((.slice Ao88 y604.length co88) : Value).ownBlock ∧ k_ ≠ gb580 ∧ k_ ≠ gb581 ∧ k_ ≠ gb582 ∧ k_ ≠ gb594) (.slice A0_1 l0_1.length c0_1) l0_1) ∧ Aside0 (Kd.R k52 52 wc w.heap.size (fun k_ => (w.heap.size ≤ k_) ∧ k_ ≠ gb582) (.slice Ao88 y604.length co88) y604) ∧ Aside0 (wc.heap[gb580]? = some (.cells #[.string a0_0, (.slice A0_1 l0_1.length c0_1)] 31 (0, 0))) ∧ Aside0 (wc.heap[gb581]? = some (.cells #[.int .i64 a1_0, .int .i64 a1_1, .int .i64 a1_2, .string a1_3, (.slice A1_4 l1_4.length c1_4)] 25 (0, 0))) ∧ Aside0 (wc.heap[gb582]? = some (.cells #[.int .i64 a3_0, .int .i64 a3_1, .string a3_2] 52 (0, 0))) ∧ Aside0 (wc.heap[gb594]? = some (.cells #[.int .i64 a1_0, .int .i64 a1_1, .int .i64 a1_2, .string a1_3, (.slice Ao88 y604.length co88)] 25 (0, 0))) ∧ Aside0 (Below w.heap.size w wc))
     case first =>
      have H := HC69.out
      clear HC69
      by_cases c91 : (l1_4.length : Int) = (l0_1.length : Int)
      ·rw [if_pos c91] at H
       have c91b0 : ((l1_4.length : Int) == (l0_1.length : Int)) = true := beq_iff_eq.mpr c91
       have c91b1 : ((l1_4.length : Int) != (l0_1.length : Int)) = false := bne_eq_false_iff_eq.mpr c91
       have c91b2 : (l1_4.length == l0_1.length) = true := by first | simpa using c91 | (simp at c91 ⊢; omega)
       clear c91
       (first | rw [c91b0] | (simp only [i64_w, i32_w]; rw [c91b0]) | rw [c91b1] | skip)
       obtain ⟨y607, hy607⟩ : ∃ y_ : List (S31), y_ = (([(⟨a0_0, l0_1⟩ : S31)] : List (S31))) := ⟨_, rfl⟩
       replace H : ((event_Fits.f kj5 y607 a1_0 a1_1 a1_2 a1_3 y604).bind fun t610 => (augurylaw05_EventFits.j1 kj5 a2 t583 (t610 == 0) a0_0 l0_1 a1_0 a1_1 a1_2 a1_3 l1_4 a3_0 a3_1 a3_2)) = some r := by first | (rw [hy607]; with_reducible exact H) | (have H2_ := (Option.bind_some _ _).symm.trans H; rw [hy607]; with_reducible exact H2_) | (have H2_ := (Option.bind_some _ _).symm.trans H; with_reducible exact H2_) | with_reducible exact H | (rw [hy607]; exact H) | exact H
       have Ny607 := Aside0.mk hy607
       clear hy607
       replace H := Option.bind_eq_some_iff.mp H
       obtain ⟨t610, A92, H⟩ := H
       (try dsimp only at H)
       replace A92 := Aside0.mk A92
       have H' := Aside0.mk H
       clear H
       have hnb93 := NB581_580.out
       have hnc93 := NB580_581.out
       have hnb94 := NB581_582.out
       have hnc94 := NB582_581.out
       have hnb95 := NB581_594.out
       have hnc95 := NB594_581.out
       obtain ⟨hcz96_0, hcz96_1, hcz96_2, hcz96_3, hcz96_4, hfz96_0, hfz96_1, hfz96_2, hfz96_3, hfz96_4⟩ := blk_c5 BK581.out
       have hnb97 := NB580_582.out
       have hnc97 := NB582_580.out
       have hnb98 := NB580_594.out
       have hnc98 := NB594_580.out
       obtain ⟨hcz99_0, hcz99_1, hfz99_0, hfz99_1⟩ := blk_c2 BK580.out
       go_wp2_with (first | ((with_reducible refine gate_dst (N := 54) rfl ?_); (try (refine gate_guard (by rfl) ?_; dsimp only)); refine Kd.N_lit k31 _ 31 ?hg (N' := 54) ?hd (xs := ([(⟨a0_0, l0_1⟩ : S31)] : List (S31))) (inner := [.string a0_0, .slice A0_1 l0_1.length c0_1]) (ok := (fun k_ => (P0_1_ k_ ∨ w.heap.size ≤ k_) ∧ some k_ ≠ (.slice Ao87 y601.length co87 : Value).ownBlock ∧ some k_ ≠ (.slice Ao88 y604.length co88 : Value).ownBlock ∧ k_ ≠ gb580 ∧ k_ ≠ gb581 ∧ k_ ≠ gb582 ∧ k_ ≠ gb594)) (okp := (fun k_ => (P0_1_ k_ ∨ w.heap.size ≤ k_) ∧ some k_ ≠ (.slice Ao87 y601.length co87 : Value).ownBlock ∧ some k_ ≠ (.slice Ao88 y604.length co88 : Value).ownBlock ∧ k_ ≠ gb580 ∧ k_ ≠ gb581 ∧ k_ ≠ gb582 ∧ k_ ≠ gb594)) ?hr ?hp (fun _ hk => hk) ((show ∀ k_, w90.heap.size ≤ k_ → (fun k_ => (P0_1_ k_ ∨ w.heap.size ≤ k_) ∧ some k_ ≠ (.slice Ao87 y601.length co87 : Value).ownBlock ∧ some k_ ≠ (.slice Ao88 y604.length co88 : Value).ownBlock ∧ k_ ≠ gb580 ∧ k_ ≠ gb581 ∧ k_ ≠ gb582 ∧ k_ ≠ gb594) k_ from fun k_ hk => ⟨(.inr (Nat.le_trans (below_size (pl_below HB.out)) hk)), Kd.fresh' (Kd.R_lt (Kd.pl_R HO603.out)) k_ hk, Kd.fresh' (Kd.R_lt (Kd.pl_R HO606.out)) k_ hk, Kd.freshB (g := gb580) (o := .cells #[.string a0_0, .slice A0_1 l0_1.length c0_1] 31 (0, 0)) (pl_blk BK580.out) k_ hk, Kd.freshB (g := gb581) (o := .cells #[.int .i64 a1_0, .int .i64 a1_1, .int .i64 a1_2, .string a1_3, .slice A1_4 l1_4.length c1_4] 25 (0, 0)) (pl_blk BK581.out) k_ hk, Kd.freshB (g := gb582) (o := .cells #[.int .i64 a3_0, .int .i64 a3_1, .string a3_2] 52 (0, 0)) (pl_blk BK582.out) k_ hk, Kd.freshB (g := gb594) (o := .cells #[.int .i64 a1_0, .int .i64 a1_1, .int .i64 a1_2, .string a1_3, .slice Ao88 y604.length co88] 25 (0, 0)) (pl_blk BK594.out) k_ hk⟩) _ (Nat.le_refl _)) (Below.refl _ _) (Nat.le_refl _) (by simp) ?_; (case hd => rfl); (case hg => rfl); (case hr => first | (go_simp; done) | (go_simp; rfl)); (case hp => exact (Reps.c2 (show Kd.FK k31 _ _ (⟨a0_0, l0_1⟩ : S31) [.string a0_0, .slice A0_1 l0_1.length c0_1] from (k31_mkF _ _ (⟨a0_0, l0_1⟩ : S31) (Kd.V_reads' (Kd.V_mono (ok' := (fun k_ => (P0_1_ k_ ∨ w.heap.size ≤ k_) ∧ some k_ ≠ (.slice Ao87 y601.length co87 : Value).ownBlock ∧ some k_ ≠ (.slice Ao88 y604.length co88 : Value).ownBlock ∧ k_ ≠ gb580 ∧ k_ ≠ gb581 ∧ k_ ≠ gb582 ∧ k_ ≠ gb594)) (HO_581001.out) (fun k_ hk => ⟨hk.1, ⟨hk.2.1, ⟨hk.2.2.1, ⟨hk.2.2.2.1, ⟨hk.2.2.2.2.1, ⟨hk.2.2.2.2.2.1, hk.2.2.2.2.2.2⟩⟩⟩⟩⟩⟩))).2.1 (Kd.V_F (Kd.V_mono (ok' := (fun k_ => (P0_1_ k_ ∨ w.heap.size ≤ k_) ∧ some k_ ≠ (.slice Ao87 y601.length co87 : Value).ownBlock ∧ some k_ ≠ (.slice Ao88 y604.length co88 : Value).ownBlock ∧ k_ ≠ gb580 ∧ k_ ≠ gb581 ∧ k_ ≠ gb582 ∧ k_ ≠ gb594)) (HO_581001.out) (fun k_ hk => ⟨hk.1, ⟨hk.2.1, ⟨hk.2.2.1, ⟨hk.2.2.2.1, ⟨hk.2.2.2.2.1, ⟨hk.2.2.2.2.2.1, hk.2.2.2.2.2.2⟩⟩⟩⟩⟩⟩))))) (Reps.none _ _))); intro v608 w100 ho101 hb hg_ hnew_; clear hg_ hnew_; (first | rw [← Ny607.out] at ho101 | (simp only [Int.reduceToNat] at ho101; rw [← Ny607.out] at ho101)); replace HO_581001 := Aside0.mk (Kd.V_elder' (Kd.pl_V HO_581001.out) (Kd.N_base ho101) hb); replace HO603 := Aside0.mk (Kd.R_below (Kd.pl_R HO603.out) hb); replace HO606 := Aside0.mk (Kd.R_below (Kd.pl_R HO606.out) hb); have HO609 := Aside0.mk (Kd.N_lower ho101 (below_size (pl_below HB.out))); replace BK580 := bb BK580 hb; replace BK581 := bb BK581 hb; replace BK582 := bb BK582 hb; replace BK594 := bb BK594 hb; replace HB := hB HB hb; clear hb ho101; have hnb102 := NB594_582.out; have hnc102 := NB582_594.out; obtain ⟨hcz103_0, hcz103_1, hcz103_2, hcz103_3, hcz103_4, hfz103_0, hfz103_1, hfz103_2, hfz103_3, hfz103_4⟩ := blk_c5 BK594.out; obtain ⟨Ao104, co104, eo104⟩ := Kd.N_slice HO609.out; subst eo104) | (go_at_call 19; (with_reducible refine (event_Fits.calls kj5 _ _ y607 a1_0 a1_1 a1_2 a1_3 _ _ y604 t610 _ ?side1 ?side2 ?side3 ?side4 A92.out).mono ?_); (case side1 => repeat (first | exact (Kd.N_reads' HO609.out).2.2 | (with_reducible refine Kd.C_alloc ?_ _) | (with_reducible refine Kd.C_drewN ?_ _) | (with_reducible refine Kd.C_drew ?_))); (case side2 => exact (Kd.N_reads' HO609.out).2.1); (case side3 => repeat (first | exact (Kd.R_reads' HO606.out).2.2 | (with_reducible refine Kd.C_alloc ?_ _) | (with_reducible refine Kd.C_drewN ?_ _) | (with_reducible refine Kd.C_drew ?_))); (case side4 => exact (Kd.R_reads' HO606.out).2.1); rintro e w105 ⟨rfl, hb⟩; replace HO_581001 := Aside0.mk (Kd.V_below (Kd.pl_V HO_581001.out) hb); replace HO603 := Aside0.mk (Kd.R_below (Kd.pl_R HO603.out) hb); replace HO606 := Aside0.mk (Kd.R_below (Kd.pl_R HO606.out) hb); replace HO609 := Aside0.mk (Kd.N_below (Kd.pl_N HO609.out) hb); replace BK580 := bb BK580 hb; replace BK581 := bb BK581 hb; replace BK582 := bb BK582 hb; replace BK594 := bb BK594 hb; replace HB := hB HB hb; (try clear hb); (try clear hb2); (try clear hk); (try clear hi)))
       go_meet
       case rel => exact ⟨_, ((t610 == 0)), (by first | rfl | (simp; done) | (simp [*]; done) | grind), H', ⟨by have := HJ5.out; first | omega | exact Nat.le_refl _⟩, ⟨by (with_reducible repeat (first | apply Kd.V_alloc | apply Kd.V_drewN | apply Kd.V_drew)); exact Kd.V_mono HO_581001.out (fun _ hk => ⟨hk.1.1, ⟨hk.1.2.2.1, ⟨hk.1.2.2.2.1, ⟨hk.1.2.2.2.2.1, ⟨hk.1.2.2.2.2.2.1, hk.1.2.2.2.2.2.2⟩⟩⟩⟩⟩)⟩, ⟨by (with_reducible repeat (first | apply Kd.R_alloc | apply Kd.R_drewN | apply Kd.R_drew)); exact Kd.R_mono HO606.out (fun _ hk => ⟨hk.1, hk.2.2⟩)⟩, ⟨pl_blk BK580.out⟩, ⟨pl_blk BK581.out⟩, ⟨pl_blk BK582.out⟩, ⟨pl_blk BK594.out⟩, ⟨pl_below HB.out⟩⟩
      ·rw [if_neg c91] at H
       have c91b0 : ((l1_4.length : Int) == (l0_1.length : Int)) = false := beq_eq_false_iff_ne.mpr c91
       have c91b1 : ((l1_4.length : Int) != (l0_1.length : Int)) = true := bne_iff_ne.mpr c91
       have c91b2 : (l1_4.length == l0_1.length) = false := by first | simpa using c91 | (simp at c91 ⊢; omega)
       (first | rw [c91b0] | (simp only [i64_w, i32_w]; rw [c91b0]) | rw [c91b1] | skip)
       have H' := Aside0.mk H
       clear H
       have hnb106 := NB581_580.out
       have hnc106 := NB580_581.out
       have hnb107 := NB581_582.out
       have hnc107 := NB582_581.out
       have hnb108 := NB581_594.out
       have hnc108 := NB594_581.out
       obtain ⟨hcz109_0, hcz109_1, hcz109_2, hcz109_3, hcz109_4, hfz109_0, hfz109_1, hfz109_2, hfz109_3, hfz109_4⟩ := blk_c5 BK581.out
       have hnb110 := NB580_582.out
       have hnc110 := NB582_580.out
       have hnb111 := NB580_594.out
       have hnc111 := NB594_580.out
       obtain ⟨hcz112_0, hcz112_1, hfz112_0, hfz112_1⟩ := blk_c2 BK580.out
       go_wp2
       go_meet
       case rel => exact ⟨_, (true), (by first | rfl | (simp; done) | (simp [*]; done) | grind), H', ⟨by have := HJ5.out; first | omega | exact Nat.le_refl _⟩, ⟨by (with_reducible repeat (first | apply Kd.V_alloc | apply Kd.V_drewN | apply Kd.V_drew)); exact Kd.V_mono HO_581001.out (fun _ hk => ⟨hk.1, ⟨hk.2.2.1, ⟨hk.2.2.2.1, ⟨hk.2.2.2.2.1, ⟨hk.2.2.2.2.2.1, hk.2.2.2.2.2.2⟩⟩⟩⟩⟩)⟩, ⟨by (with_reducible repeat (first | apply Kd.R_alloc | apply Kd.R_drewN | apply Kd.R_drew)); exact Kd.R_mono HO606.out (fun _ hk => ⟨hk.1, hk.2.2⟩)⟩, ⟨pl_blk BK580.out⟩, ⟨pl_blk BK581.out⟩, ⟨pl_blk BK582.out⟩, ⟨pl_blk BK594.out⟩, ⟨pl_below HB.out⟩⟩
     case rest =>
      clear HC69
      (try clear c1); (try clear c2); (try clear p2); (try clear c3); (try clear c4); (try clear c5); (try clear c6); (try clear c7); (try clear c9); (try clear c10); (try clear c11); (try clear c12); (try clear c13); (try clear c14); (try clear c21); (try clear c22); (try clear c23); (try clear c29); (try clear c33); (try clear c35); (try clear c36); (try clear c42); (try clear c53); (try clear c54); (try clear c60); (try clear c65); (try clear c66); (try clear c67); (try clear c68); (try clear c70); (try clear c71); (try clear c74); (try clear c75); (try clear c76); (try clear c91); (try clear c91b0); (try clear c91b1); (try clear c91b2); (try clear c93); (try clear c94); (try clear c95); (try clear c97); (try clear c98); (try clear c102); (try clear c106); (try clear c107); (try clear c108); (try clear c110); (try clear c111); (try clear hcz103_0 hcz103_1 hcz103_2 hcz103_3 hcz103_4 hfz103_0 hfz103_1 hfz103_2 hfz103_3 hfz103_4); (try clear hcz109_0 hcz109_1 hcz109_2 hcz109_3 hcz109_4 hfz109_0 hfz109_1 hfz109_2 hfz109_3 hfz109_4); (try clear hcz112_0 hcz112_1 hfz112_0 hfz112_1); (try clear hcz15_0 hcz15_1 hfz15_0 hfz15_1); (try clear hcz24_0 hcz24_1 hfz24_0 hfz24_1); (try clear hcz30_0 hcz30_1 hcz30_2 hcz30_3 hcz30_4 hfz30_0 hfz30_1 hfz30_2 hfz30_3 hfz30_4); (try clear hcz37_0 hcz37_1 hfz37_0 hfz37_1); (try clear hcz43_0 hcz43_1 hcz43_2 hcz43_3 hcz43_4 hfz43_0 hfz43_1 hfz43_2 hfz43_3 hfz43_4); (try clear hcz45_0 hcz45_1 hcz45_2 hfz45_0 hfz45_1 hfz45_2); (try clear hcz47_0 hcz47_1 hfz47_0 hfz47_1); (try clear hcz50_0 hcz50_1 hcz50_2 hcz50_3 hcz50_4 hfz50_0 hfz50_1 hfz50_2 hfz50_3 hfz50_4); (try clear hcz55_0 hcz55_1 hfz55_0 hfz55_1); (try clear hcz61_0 hcz61_1 hcz61_2 hcz61_3 hcz61_4 hfz61_0 hfz61_1 hfz61_2 hfz61_3 hfz61_4); (try clear hcz63_0 hcz63_1 hcz63_2 hfz63_0 hfz63_1 hfz63_2); (try clear hcz72_0 hcz72_1 hcz72_2 hcz72_3 hcz72_4 hfz72_0 hfz72_1 hfz72_2 hfz72_3 hfz72_4); (try clear hcz77_0 hcz77_1 hcz77_2 hcz77_3 hcz77_4 hfz77_0 hfz77_1 hfz77_2 hfz77_3 hfz77_4); (try clear hcz96_0 hcz96_1 hcz96_2 hcz96_3 hcz96_4 hfz96_0 hfz96_1 hfz96_2 hfz96_3 hfz96_4); (try clear hcz99_0 hcz99_1 hfz99_0 hfz99_1)
      obtain ⟨kq, x58_68, rfl, HA, HJ68, HO_581001, HO_595004, BK580, BK581, BK582, BK594, HB⟩ := hcut
      cases kq with
      | zero => exact absurd HA.out (by simp [augurylaw05_EventFits.j1])
      | succ kj68 =>
       have H := HA.out
       clear HA
       simp only [augurylaw05_EventFits.j1] at H
       by_cases c113 : x58_68 = true
       ·rw [if_pos c113] at H; cases H
       replace c113 := Bool.eq_false_iff.mpr c113
       subst c113
       rw [if_neg (show ¬ (false = true) by decide)] at H
       have H' := Aside0.mk H
       clear H
       go_wp2
       go_loopg [11] kj68 (fun kq v11 w' => ∃ (x11_3 : Int), v11 = .int .i64 x11_3 ∧ Aside0 (augurylaw05_EventFits.l0 kq a2 t583 x11_3 a0_0 l0_1 a1_0 a1_1 a1_2 a1_3 l1_4 a3_0 a3_1 a3_2 = some r) ∧ Aside0 (kq ≤ kj68) ∧ Aside0 (Kd.V k55 55 w' w.heap.size (fun k_ => (P0_1_ k_ ∨ w.heap.size ≤ k_) ∧ some k_ ≠ ((.slice Ao88 y604.length co88) : Value).ownBlock ∧ k_ ≠ gb580 ∧ k_ ≠ gb581 ∧ k_ ≠ gb582 ∧ k_ ≠ gb594) (.slice A0_1 l0_1.length c0_1) l0_1) ∧ Aside0 (Kd.R k52 52 w' w.heap.size (fun k_ => (w.heap.size ≤ k_) ∧ k_ ≠ gb582) (.slice Ao88 y604.length co88) y604) ∧ Aside0 (w'.heap[gb580]? = some (.cells #[.string a0_0, (.slice A0_1 l0_1.length c0_1)] 31 (0, 0))) ∧ Aside0 (w'.heap[gb581]? = some (.cells #[.int .i64 a1_0, .int .i64 a1_1, .int .i64 a1_2, .string a1_3, (.slice A1_4 l1_4.length c1_4)] 25 (0, 0))) ∧ Aside0 (w'.heap[gb582]? = some (.cells #[.int .i64 a3_0, .int .i64 a3_1, .string a3_2] 52 (0, 0))) ∧ Aside0 (w'.heap[gb594]? = some (.cells #[.int .i64 a1_0, .int .i64 a1_1, .int .i64 a1_2, .string a1_3, (.slice Ao88 y604.length co88)] 25 (0, 0))) ∧ Aside0 (Below w.heap.size w w'))
       case atStart => exact ⟨(0), (by first | rfl | (simp; done) | (simp [*]; done) | grind), H', ⟨Nat.le_refl _⟩, ⟨Kd.pl_V HO_581001.out⟩, ⟨Kd.pl_R HO_595004.out⟩, ⟨pl_blk BK580.out⟩, ⟨pl_blk BK581.out⟩, ⟨pl_blk BK582.out⟩, ⟨pl_blk BK594.out⟩, ⟨pl_below HB.out⟩⟩
       case round =>
        clear H'
        (try clear c1); (try clear c2); (try clear p2); (try clear c3); (try clear c4); (try clear c5); (try clear c6); (try clear c7); (try clear c9); (try clear c10); (try clear c11); (try clear c12); (try clear c13); (try clear c14); (try clear c21); (try clear c22); (try clear c23); (try clear c29); (try clear c33); (try clear c35); (try clear c36); (try clear c42); (try clear c53); (try clear c54); (try clear c60); (try clear c65); (try clear c66); (try clear c67); (try clear c68); (try clear c70); (try clear c71); (try clear c74); (try clear c75); (try clear c76); (try clear c91); (try clear c91b0); (try clear c91b1); (try clear c91b2); (try clear c93); (try clear c94); (try clear c95); (try clear c97); (try clear c98); (try clear c102); (try clear c106); (try clear c107); (try clear c108); (try clear c110); (try clear c111); (try clear c113); (try clear hcz103_0 hcz103_1 hcz103_2 hcz103_3 hcz103_4 hfz103_0 hfz103_1 hfz103_2 hfz103_3 hfz103_4); (try clear hcz109_0 hcz109_1 hcz109_2 hcz109_3 hcz109_4 hfz109_0 hfz109_1 hfz109_2 hfz109_3 hfz109_4); (try clear hcz112_0 hcz112_1 hfz112_0 hfz112_1); (try clear hcz15_0 hcz15_1 hfz15_0 hfz15_1); (try clear hcz24_0 hcz24_1 hfz24_0 hfz24_1); (try clear hcz30_0 hcz30_1 hcz30_2 hcz30_3 hcz30_4 hfz30_0 hfz30_1 hfz30_2 hfz30_3 hfz30_4); (try clear hcz37_0 hcz37_1 hfz37_0 hfz37_1); (try clear hcz43_0 hcz43_1 hcz43_2 hcz43_3 hcz43_4 hfz43_0 hfz43_1 hfz43_2 hfz43_3 hfz43_4); (try clear hcz45_0 hcz45_1 hcz45_2 hfz45_0 hfz45_1 hfz45_2); (try clear hcz47_0 hcz47_1 hfz47_0 hfz47_1); (try clear hcz50_0 hcz50_1 hcz50_2 hcz50_3 hcz50_4 hfz50_0 hfz50_1 hfz50_2 hfz50_3 hfz50_4); (try clear hcz55_0 hcz55_1 hfz55_0 hfz55_1); (try clear hcz61_0 hcz61_1 hcz61_2 hcz61_3 hcz61_4 hfz61_0 hfz61_1 hfz61_2 hfz61_3 hfz61_4); (try clear hcz63_0 hcz63_1 hcz63_2 hfz63_0 hfz63_1 hfz63_2); (try clear hcz72_0 hcz72_1 hcz72_2 hcz72_3 hcz72_4 hfz72_0 hfz72_1 hfz72_2 hfz72_3 hfz72_4); (try clear hcz77_0 hcz77_1 hcz77_2 hcz77_3 hcz77_4 hfz77_0 hfz77_1 hfz77_2 hfz77_3 hfz77_4); (try clear hcz96_0 hcz96_1 hcz96_2 hcz96_3 hcz96_4 hfz96_0 hfz96_1 hfz96_2 hfz96_3 hfz96_4); (try clear hcz99_0 hcz99_1 hfz99_0 hfz99_1)
        obtain ⟨x11_3, rfl, HA, HK3, HO_581001, HO_595004, BK580, BK581, BK582, BK594, HB⟩ := hrel
        cases gk with
        | zero => exact absurd HA.out (by simp [augurylaw05_EventFits.l0])
        | succ k3 =>
         have H := HA.out
         clear HA
         simp only [augurylaw05_EventFits.l0] at H
         by_cases c114 : x11_3 < (l1_4.length : Int)
         ·rw [if_pos c114] at H
          have c114b0 : decide (x11_3 < (l1_4.length : Int)) = true := decide_eq_true c114
          clear c114
          by_cases c115 : 0 ≤ x11_3; rotate_left
          ·rw [if_neg c115] at H; cases H
          rw [if_pos c115] at H
          have c115b0 : decide (0 ≤ x11_3) = true := decide_eq_true c115
          clear c115
          by_cases c116 : x11_3 < (l0_1.length : Int); rotate_left
          ·rw [if_neg c116] at H; cases H
          rw [if_pos c116] at H
          have c116b0 : decide (x11_3 < (l0_1.length : Int)) = true := decide_eq_true c116
          clear c116
          by_cases c117 : ((rd_T52 l1_4 x11_3).f0) = ((rd_T55 l0_1 x11_3).f1); rotate_left
          ·rw [if_neg c117] at H; cases H
          rw [if_pos c117] at H
          have c117b0 : (((rd_T52 l1_4 x11_3).f0) == ((rd_T55 l0_1 x11_3).f1)) = true := beq_iff_eq.mpr c117
          have c117b1 : (((rd_T52 l1_4 x11_3).f0) != ((rd_T55 l0_1 x11_3).f1)) = false := bne_eq_false_iff_eq.mpr c117
          clear c117
          have H' := Aside0.mk H
          clear H
          have hnb118 := NB581_580.out
          have hnc118 := NB580_581.out
          have hnb119 := NB581_582.out
          have hnc119 := NB582_581.out
          have hnb120 := NB581_594.out
          have hnc120 := NB594_581.out
          obtain ⟨hcz121_0, hcz121_1, hcz121_2, hcz121_3, hcz121_4, hfz121_0, hfz121_1, hfz121_2, hfz121_3, hfz121_4⟩ := blk_c5 BK581.out
          try go_wp2
          replace HO_581001 := Aside0.mk (Kd.V_drew HO_581001.out)
          replace HO_595004 := Aside0.mk (Kd.R_drew HO_595004.out)
          replace BK580 := Aside0.mk (blk_drew BK580.out)
          replace BK581 := Aside0.mk (blk_drew BK581.out)
          replace BK582 := Aside0.mk (blk_drew BK582.out)
          replace BK594 := Aside0.mk (blk_drew BK594.out)
          replace HB := Aside0.mk (below_drew1 HB.out)
          have p611 : 0 ≤ (x11_3 : Int) := of_decide_eq_true (by first | (with_reducible assumption) | assumption)
          have q611 : x11_3 < (l1_4.length : Int) := of_decide_eq_true (by first | (with_reducible assumption) | assumption)
          obtain ⟨ad611, e611, hx611_0, hx611_1, hx611_2⟩ := at_T52 HR1_4.out x11_3 p611 q611
          have hw611_2 := hx611_2
          have hw611_1 := hx611_1
          have hw611_0 := hx611_0
          cases e611
          replace hx611_0 := (HB.out.cell (World.block_lt_of_cell? w _ hx611_0)).trans hx611_0
          replace hx611_1 := (HB.out.cell (World.block_lt_of_cell? w _ hx611_1)).trans hx611_1
          replace hx611_2 := (HB.out.cell (World.block_lt_of_cell? w _ hx611_2)).trans hx611_2
          replace p611 := eq_true p611
          replace q611 := eq_true q611
          have p612 : 0 ≤ (x11_3 : Int) := of_decide_eq_true (by first | (with_reducible assumption) | assumption)
          have q612 : x11_3 < (l0_1.length : Int) := of_decide_eq_true (by first | (with_reducible assumption) | assumption)
          obtain ⟨ad612, e612, hx612_0, hx612_1⟩ := at_T55 (Kd.V_reads' HO_581001.out).2.2 x11_3 p612 q612
          cases e612
          replace p612 := eq_true p612
          replace q612 := eq_true q612
          refine start_ (n := 13) (S := fun w' => w'.cell? ⟨gb581, 0, none⟩ = some (.int .i64 a1_0) ∧ w'.cell? ⟨gb581, 1, none⟩ = some (.int .i64 a1_1) ∧ w'.cell? ⟨gb581, 2, none⟩ = some (.int .i64 a1_2) ∧ w'.cell? ⟨gb581, 3, none⟩ = some (.string a1_3) ∧ w'.cell? ⟨gb581, 4, none⟩ = some (.slice (some ad611) l1_4.length c1_4) ∧ w'.cell? ⟨gb580, 0, none⟩ = some (.string a0_0) ∧ w'.cell? ⟨gb580, 1, none⟩ = some (.slice (some ad612) l0_1.length c0_1) ∧ w'.cell? (ad611.add ((x11_3).toNat * 3)) = some (.int .i64 ((rd_T52 l1_4 x11_3).f0)) ∧ w'.cell? ⟨(ad611.add ((x11_3).toNat * 3)).block, (ad611.add ((x11_3).toNat * 3)).off + 1, none⟩ = some (.int .i64 ((rd_T52 l1_4 x11_3).f1)) ∧ w'.cell? ⟨(ad611.add ((x11_3).toNat * 3)).block, (ad611.add ((x11_3).toNat * 3)).off + 2, none⟩ = some (.string ((rd_T52 l1_4 x11_3).f2)) ∧ w'.cell? (ad612.add ((x11_3).toNat * 2)) = some (.string ((rd_T55 l0_1 x11_3).f0)) ∧ w'.cell? ⟨(ad612.add ((x11_3).toNat * 2)).block, (ad612.add ((x11_3).toNat * 2)).off + 1, none⟩ = some (.int .i64 ((rd_T55 l0_1 x11_3).f1))) (ds := []) #[false, false, false, false, false, false, false, false, false, false, false, false, false] (by kernel_rfl) rfl rfl ⟨(blk_cell BK581.out 0).trans rfl, (blk_cell BK581.out 1).trans rfl, (blk_cell BK581.out 2).trans rfl, (blk_cell BK581.out 3).trans rfl, (blk_cell BK581.out 4).trans rfl, (blk_cell BK580.out 0).trans rfl, (blk_cell BK580.out 1).trans rfl, ((HB.out.cell (World.block_lt_of_cell? w _ hw611_0)).trans hw611_0), ((HB.out.cell (World.block_lt_of_cell? w _ hw611_1)).trans hw611_1), ((HB.out.cell (World.block_lt_of_cell? w _ hw611_2)).trans hw611_2), hx612_0, hx612_1⟩ (fun hHeld => ?_); refine with_tabW augurylaw05_EventFits.tab11 augurylaw05_EventFits.bits11 (fun HT_ HW_ => ?_)
          generalize wr.drew = w122 at HO_581001 HO_595004 BK580 BK581 BK582 BK594 HB hx611_0 hx611_1 hx611_2 hx612_0 hx612_1 hHeld ⊢
          refine pure_ (i := 0) (N := some 66) (v := ?_) (a' := ?_) #[true, false, false, false, false, false, false, false, false, false, false, false, false] rfl rfl (any_of HT_.out (by kernel_rfl)) (fun _ _ _ h => h) (Or.inl ⟨by rfl, ?_⟩) ?_ ?_
          rotate_left
          ·intro w'
           go_simp
           with_reducible rfl
          rotate_left
          ·simp only [Act.put, List.setIfInBounds_toArray, List.set_cons_zero, List.set_cons_succ, i64_w, i32_w]
           rfl
          refine pure_ (i := 2) (N := some 68) (v := ?_) (a' := ?_) #[true, false, true, false, false, false, false, false, false, false, false, false, false] rfl rfl (any_of HT_.out (by kernel_rfl)) (fun _ _ _ h => h) (Or.inl ⟨by rfl, ?_⟩) ?_ ?_
          rotate_left
          ·intro w'
           go_simp
           with_reducible rfl
          rotate_left
          ·simp only [Act.put, List.setIfInBounds_toArray, List.set_cons_zero, List.set_cons_succ, i64_w, i32_w]
           rfl
          refine pure_ (i := 6) (N := some 72) (v := ?_) (a' := ?_) #[true, false, true, false, false, false, true, false, false, false, false, false, false] rfl rfl (any_of HT_.out (by kernel_rfl)) (fun _ _ _ h => h) (Or.inl ⟨by rfl, ?_⟩) ?_ ?_
          rotate_left
          ·intro w'
           go_simp
           with_reducible rfl
          rotate_left
          ·simp only [Act.put, List.setIfInBounds_toArray, List.set_cons_zero, List.set_cons_succ, i64_w, i32_w]
           rfl
          refine pure_ (i := 8) (N := some 74) (v := ?_) (a' := ?_) #[true, false, true, false, false, false, true, false, true, false, false, false, false] rfl rfl (any_of HT_.out (by kernel_rfl)) (fun _ _ _ h => h) (Or.inl ⟨by rfl, ?_⟩) ?_ ?_
          rotate_left
          ·intro w'
           go_simp
           with_reducible rfl
          rotate_left
          ·simp only [Act.put, List.setIfInBounds_toArray, List.set_cons_zero, List.set_cons_succ, i64_w, i32_w]
           rfl
          refine take_ (i := 1) (N := some 67) (v := ?_) (a' := ?_) #[true, true, true, false, false, false, true, false, true, false, false, false, false] rfl rfl (take_ofW HT_.out HW_.out (by kernel_rfl)) (fun _ _ _ h => h) (Or.inl ⟨by rfl, ?_⟩) hHeld ?_ ?_
          rotate_left
          ·rintro w' ⟨s0, s1, s2, s3, s4, s5, s6, s7, s8, s9, s10, s11⟩
           go_simp
           with_reducible rfl
          rotate_left
          ·simp only [Act.put, List.setIfInBounds_toArray, List.set_cons_zero, List.set_cons_succ, i64_w, i32_w]
           rfl
          refine pure_ (i := 3) (N := some 69) (v := ?_) (a' := ?_) #[true, true, true, true, false, false, true, false, true, false, false, false, false] rfl rfl (any_of HT_.out (by kernel_rfl)) (fun _ _ _ h => h) (Or.inl ⟨by rfl, ?_⟩) ?_ ?_
          rotate_left
          ·intro w'
           go_simp
           with_reducible rfl
          rotate_left
          ·simp only [Act.put, List.setIfInBounds_toArray, List.set_cons_zero, List.set_cons_succ, i64_w, i32_w]
           rfl
          refine pure_ (i := 4) (N := some 70) (v := ?_) (a' := ?_) #[true, true, true, true, true, false, true, false, true, false, false, false, false] rfl rfl (any_of HT_.out (by kernel_rfl)) (fun _ _ _ h => h) (Or.inl ⟨by rfl, ?_⟩) ?_ ?_
          rotate_left
          ·intro w'
           go_simp
           with_reducible rfl
          rotate_left
          ·simp only [Act.put, List.setIfInBounds_toArray, List.set_cons_zero, List.set_cons_succ, i64_w, i32_w]
           rfl
          refine take_ (i := 5) (N := some 71) (v := ?_) (a' := ?_) #[true, true, true, true, true, true, true, false, true, false, false, false, false] rfl rfl (take_ofW HT_.out HW_.out (by kernel_rfl)) (fun _ _ _ h => h) (Or.inl ⟨by rfl, ?_⟩) hHeld ?_ ?_
          rotate_left
          ·rintro w' ⟨s0, s1, s2, s3, s4, s5, s6, s7, s8, s9, s10, s11⟩
           go_simp
           with_reducible rfl
          rotate_left
          ·simp only [Act.put, List.setIfInBounds_toArray, List.set_cons_zero, List.set_cons_succ, i64_w, i32_w]
           rfl
          refine take_ (i := 7) (N := some 73) (v := ?_) (a' := ?_) #[true, true, true, true, true, true, true, true, true, false, false, false, false] rfl rfl (take_ofW HT_.out HW_.out (by kernel_rfl)) (fun _ _ _ h => h) (Or.inl ⟨by rfl, ?_⟩) hHeld ?_ ?_
          rotate_left
          ·rintro w' ⟨s0, s1, s2, s3, s4, s5, s6, s7, s8, s9, s10, s11⟩
           go_simp
           with_reducible rfl
          rotate_left
          ·simp only [Act.put, List.setIfInBounds_toArray, List.set_cons_zero, List.set_cons_succ, i64_w, i32_w]
           rfl
          refine pure_ (i := 9) (N := some 75) (v := ?_) (a' := ?_) #[true, true, true, true, true, true, true, true, true, true, false, false, false] rfl rfl (any_of HT_.out (by kernel_rfl)) (fun _ _ _ h => h) (Or.inl ⟨by rfl, ?_⟩) ?_ ?_
          rotate_left
          ·intro w'
           go_simp
           with_reducible rfl
          rotate_left
          ·simp only [Act.put, List.setIfInBounds_toArray, List.set_cons_zero, List.set_cons_succ, i64_w, i32_w]
           rfl
          refine pure_ (i := 10) (N := some 76) (v := ?_) (a' := ?_) #[true, true, true, true, true, true, true, true, true, true, true, false, false] rfl rfl (any_of HT_.out (by kernel_rfl)) (fun _ _ _ h => h) (Or.inl ⟨by rfl, ?_⟩) ?_ ?_
          rotate_left
          ·intro w'
           go_simp
           with_reducible rfl
          rotate_left
          ·simp only [Act.put, List.setIfInBounds_toArray, List.set_cons_zero, List.set_cons_succ, i64_w, i32_w]
           rfl
          refine take_ (i := 11) (N := some 77) (v := ?_) (a' := ?_) #[true, true, true, true, true, true, true, true, true, true, true, true, false] rfl rfl (take_ofW HT_.out HW_.out (by kernel_rfl)) (fun _ _ _ h => h) (Or.inl ⟨by rfl, ?_⟩) hHeld ?_ ?_
          rotate_left
          ·rintro w' ⟨s0, s1, s2, s3, s4, s5, s6, s7, s8, s9, s10, s11⟩
           go_simp
           with_reducible rfl
          rotate_left
          ·simp only [Act.put, List.setIfInBounds_toArray, List.set_cons_zero, List.set_cons_succ, i64_w, i32_w]
           rfl
          refine pure_ (i := 12) (N := some 78) (v := ?_) (a' := ?_) #[true, true, true, true, true, true, true, true, true, true, true, true, true] rfl rfl (any_of HT_.out (by kernel_rfl)) (fun _ _ _ h => h) (Or.inl ⟨by rfl, ?_⟩) ?_ ?_
          rotate_left
          ·intro w'
           go_simp
           with_reducible rfl
          rotate_left
          ·simp only [Act.put, List.setIfInBounds_toArray, List.set_cons_zero, List.set_cons_succ, i64_w, i32_w]
           rfl
          refine done_ (done_of HT_.out (by kernel_rfl)) ?_
          try go_wp2
          go_roundg k3
          case measure => have := HJ5.out; have := HJ68.out; have := HK3.out; omega
          case rel => exact ⟨(wrap64 (x11_3 + 1)), (by first | rfl | (simp; done) | (simp [*]; done) | grind), H', ⟨by have := HJ5.out; have := HJ68.out; have := HK3.out; omega⟩, ⟨Kd.pl_V HO_581001.out⟩, ⟨Kd.pl_R HO_595004.out⟩, ⟨pl_blk BK580.out⟩, ⟨pl_blk BK581.out⟩, ⟨pl_blk BK582.out⟩, ⟨pl_blk BK594.out⟩, ⟨pl_below HB.out⟩⟩
         ·rw [if_neg c114] at H
          have c114b0 : decide (x11_3 < (l1_4.length : Int)) = false := decide_eq_false c114
          clear c114
          by_cases c123 : (l1_4.length : Int) = 0
          ·rw [if_pos c123] at H
           have c123b0 : ((l1_4.length : Int) == 0) = true := beq_iff_eq.mpr c123
           have c123b1 : ((l1_4.length : Int) != 0) = false := bne_eq_false_iff_eq.mpr c123
           clear c123
           by_cases c124 : t583 = true; rotate_left
           ·rw [if_neg c124] at H; cases H
           subst c124
           rw [if_pos rfl] at H
           obtain rfl := Option.some.inj H
           have hnb125 := NB581_580.out
           have hnc125 := NB580_581.out
           have hnb126 := NB581_582.out
           have hnc126 := NB582_581.out
           have hnb127 := NB581_594.out
           have hnc127 := NB594_581.out
           obtain ⟨hcz128_0, hcz128_1, hcz128_2, hcz128_3, hcz128_4, hfz128_0, hfz128_1, hfz128_2, hfz128_3, hfz128_4⟩ := blk_c5 BK581.out
           go_wp2
           go_ret
           exact ⟨by first | rfl | (simp [errW_none, errW_some] <;> rfl) | (simp [*, errW_none, errW_some] <;> rfl), pl_below HB.out⟩
          ·rw [if_neg c123] at H
           have c123b0 : ((l1_4.length : Int) == 0) = false := beq_eq_false_iff_ne.mpr c123
           have c123b1 : ((l1_4.length : Int) != 0) = true := bne_iff_ne.mpr c123
           have c123b2 : ¬ (l1_4 = []) := fun h_ => c123 (by rw [h_]; rfl)
           replace H := Option.bind_eq_some_iff.mp H
           obtain ⟨y614, hy614, H⟩ := H
           replace hy614 := (Option.some.inj hy614).symm
           (try dsimp only at H)
           have Ny614 := Aside0.mk hy614
           clear hy614
           obtain ⟨ji129, hji129⟩ : ∃ j_ : Int, (Int.tmod (wrap64 (a2)) (l1_4.length : Int)) = j_ := ⟨_, rfl⟩
           first | rw [hji129] at H | simp only [hji129] at H
           by_cases c130 : 0 ≤ (ji129); rotate_left
           ·rw [if_neg c130] at H; cases H
           rw [if_pos c130] at H
           have c130b0 := eq_true c130
           have c130b1 : decide (0 ≤ (ji129)) = true := decide_eq_true c130
           clear c130
           by_cases c131 : (ji129) ≤ (l1_4.length : Int); rotate_left
           ·rw [if_neg c131] at H; cases H
           rw [if_pos c131] at H
           have c131b0 := eq_true c131
           have c131b1 : decide ((ji129) ≤ (l1_4.length : Int)) = true := decide_eq_true c131
           clear c131
           replace H := Option.bind_eq_some_iff.mp H
           obtain ⟨y617, hy617, H⟩ := H
           replace hy617 := (Option.some.inj hy617).symm
           (try dsimp only at H)
           have Ny617 := Aside0.mk hy617
           clear hy617
           by_cases c132 : y614.length + y617.length < 4398046511104; rotate_left
           ·rw [if_neg c132] at H; cases H
           rw [if_pos c132] at H
           have LMc132 := Aside0.mk c132
           clear c132
           replace H := Option.bind_eq_some_iff.mp H
           obtain ⟨y621, hy621, H⟩ := H
           replace hy621 := (Option.some.inj hy621).symm
           (try dsimp only at H)
           have Ny621 := Aside0.mk hy621
           clear hy621
           obtain ⟨ji133, hji133⟩ : ∃ j_ : Int, (wrap64 ((ji129) + 1)) = j_ := ⟨_, rfl⟩
           first | rw [hji133] at H | simp only [hji133] at H
           have hji133w : (IntKind.i64.wrap ((ji129) + 1)) = ji133 := (i64_w _).trans hji133
           by_cases c134 : 0 ≤ (ji133); rotate_left
           ·rw [if_neg c134] at H; cases H
           rw [if_pos c134] at H
           have c134b0 := eq_true c134
           have c134b1 : decide (0 ≤ (ji133)) = true := decide_eq_true c134
           clear c134
           by_cases c135 : (ji133) ≤ (l1_4.length : Int); rotate_left
           ·rw [if_neg c135] at H; cases H
           rw [if_pos c135] at H
           have c135b0 := eq_true c135
           have c135b1 : decide ((ji133) ≤ (l1_4.length : Int)) = true := decide_eq_true c135
           clear c135
           replace H := Option.bind_eq_some_iff.mp H
           obtain ⟨y624, hy624, H⟩ := H
           replace hy624 := (Option.some.inj hy624).symm
           (try dsimp only at H)
           have Ny624 := Aside0.mk hy624
           clear hy624
           by_cases c136 : y621.length + y624.length < 4398046511104; rotate_left
           ·rw [if_neg c136] at H; cases H
           rw [if_pos c136] at H
           have LMc136 := Aside0.mk c136
           clear c136
           obtain ⟨y628, hy628⟩ : ∃ y_ : List (S52), y_ = (y621 ++ y624) := ⟨_, rfl⟩
           replace H : ((some (([] : List (S52)) : List (S52))).bind fun y632 => (if y632.length + y617.length < 4398046511104 then ((some (y632 ++ y617 : List (S52))).bind fun y639 => ((some (([(⟨a3_0, a3_1, a3_2⟩ : S52)] : List (S52)) : List (S52))).bind fun y642 => (if y639.length + y642.length < 4398046511104 then ((some (y639 ++ y642 : List (S52))).bind fun y645 => (if y645.length + y624.length < 4398046511104 then (if t583 = true then ((event_Fits.f k3 (([(⟨a0_0, l0_1⟩ : S31)] : List (S31))) a1_0 a1_1 a1_2 a1_3 y628).bind fun t658 => (if t658 = 42 then ((event_Fits.f k3 (([(⟨a0_0, l0_1⟩ : S31)] : List (S31))) a1_0 a1_1 a1_2 a1_3 (y645 ++ y624)).bind fun t662 => (if (ji129) < (l0_1.length : Int) then (if ((t662 == 0) == (a3_0 == ((rd_T55 l0_1 (ji129)).f1))) = true then (some true) else (none)) else (none))) else (none))) else (none)) else (none))) else (none)))) else (none))) = some r := by first | (rw [hy628]; with_reducible exact H) | (have H2_ := (Option.bind_some _ _).symm.trans H; rw [hy628]; with_reducible exact H2_) | (have H2_ := (Option.bind_some _ _).symm.trans H; with_reducible exact H2_) | with_reducible exact H | (rw [hy628]; exact H) | exact H
           have Ny628 := Aside0.mk hy628
           clear hy628
           replace H := Option.bind_eq_some_iff.mp H
           obtain ⟨y632, hy632, H⟩ := H
           replace hy632 := (Option.some.inj hy632).symm
           (try dsimp only at H)
           have Ny632 := Aside0.mk hy632
           clear hy632
           by_cases c137 : y632.length + y617.length < 4398046511104; rotate_left
           ·rw [if_neg c137] at H; cases H
           rw [if_pos c137] at H
           have LMc137 := Aside0.mk c137
           clear c137
           replace H := Option.bind_eq_some_iff.mp H
           obtain ⟨y639, hy639, H⟩ := H
           replace hy639 := (Option.some.inj hy639).symm
           (try dsimp only at H)
           have Ny639 := Aside0.mk hy639
           clear hy639
           replace H := Option.bind_eq_some_iff.mp H
           obtain ⟨y642, hy642, H⟩ := H
           replace hy642 := (Option.some.inj hy642).symm
           (try dsimp only at H)
           have Ny642 := Aside0.mk hy642
           clear hy642
           by_cases c138 : y639.length + y642.length < 4398046511104; rotate_left
           ·rw [if_neg c138] at H; cases H
           rw [if_pos c138] at H
           have LMc138 := Aside0.mk c138
           clear c138
           replace H := Option.bind_eq_some_iff.mp H
           obtain ⟨y645, hy645, H⟩ := H
           replace hy645 := (Option.some.inj hy645).symm
           (try dsimp only at H)
           have Ny645 := Aside0.mk hy645
           clear hy645
           by_cases c139 : y645.length + y624.length < 4398046511104; rotate_left
           ·rw [if_neg c139] at H; cases H
           rw [if_pos c139] at H
           have LMc139 := Aside0.mk c139
           clear c139
           obtain ⟨y652, hy652⟩ : ∃ y_ : List (S52), y_ = (y645 ++ y624) := ⟨_, rfl⟩
           replace H : (if t583 = true then ((event_Fits.f k3 (([(⟨a0_0, l0_1⟩ : S31)] : List (S31))) a1_0 a1_1 a1_2 a1_3 y628).bind fun t658 => (if t658 = 42 then ((event_Fits.f k3 (([(⟨a0_0, l0_1⟩ : S31)] : List (S31))) a1_0 a1_1 a1_2 a1_3 y652).bind fun t662 => (if (ji129) < (l0_1.length : Int) then (if ((t662 == 0) == (a3_0 == ((rd_T55 l0_1 (ji129)).f1))) = true then (some true) else (none)) else (none))) else (none))) else (none)) = some r := by first | (rw [hy652]; with_reducible exact H) | (have H2_ := (Option.bind_some _ _).symm.trans H; rw [hy652]; with_reducible exact H2_) | (have H2_ := (Option.bind_some _ _).symm.trans H; with_reducible exact H2_) | with_reducible exact H | (rw [hy652]; exact H) | exact H
           have Ny652 := Aside0.mk hy652
           clear hy652
           by_cases c140 : t583 = true
           ·subst c140
            rw [if_pos rfl] at H
            obtain ⟨y655, hy655⟩ : ∃ y_ : List (S31), y_ = (([(⟨a0_0, l0_1⟩ : S31)] : List (S31))) := ⟨_, rfl⟩
            replace H : ((event_Fits.f k3 y655 a1_0 a1_1 a1_2 a1_3 y628).bind fun t658 => (if t658 = 42 then ((event_Fits.f k3 (([(⟨a0_0, l0_1⟩ : S31)] : List (S31))) a1_0 a1_1 a1_2 a1_3 y652).bind fun t662 => (if (ji129) < (l0_1.length : Int) then (if ((t662 == 0) == (a3_0 == ((rd_T55 l0_1 (ji129)).f1))) = true then (some true) else (none)) else (none))) else (none))) = some r := by first | (rw [hy655]; with_reducible exact H) | (have H2_ := (Option.bind_some _ _).symm.trans H; rw [hy655]; with_reducible exact H2_) | (have H2_ := (Option.bind_some _ _).symm.trans H; with_reducible exact H2_) | with_reducible exact H | (rw [hy655]; exact H) | exact H
            have Ny655 := Aside0.mk hy655
            clear hy655
            replace H := Option.bind_eq_some_iff.mp H
            obtain ⟨t658, A141, H⟩ := H
            (try dsimp only at H)
            replace A141 := Aside0.mk A141
            by_cases c142 : t658 = 42
            ·rw [if_pos c142] at H
             have c142b0 : (t658 == 42) = true := beq_iff_eq.mpr c142
             have c142b1 : (t658 != 42) = false := bne_eq_false_iff_eq.mpr c142
             clear c142
             obtain ⟨y659, hy659⟩ : ∃ y_ : List (S31), y_ = (([(⟨a0_0, l0_1⟩ : S31)] : List (S31))) := ⟨_, rfl⟩
             replace H : ((event_Fits.f k3 y659 a1_0 a1_1 a1_2 a1_3 y652).bind fun t662 => (if (ji129) < (l0_1.length : Int) then (if ((t662 == 0) == (a3_0 == ((rd_T55 l0_1 (ji129)).f1))) = true then (some true) else (none)) else (none))) = some r := by first | (rw [hy659]; with_reducible exact H) | (have H2_ := (Option.bind_some _ _).symm.trans H; rw [hy659]; with_reducible exact H2_) | (have H2_ := (Option.bind_some _ _).symm.trans H; with_reducible exact H2_) | with_reducible exact H | (rw [hy659]; exact H) | exact H
             have Ny659 := Aside0.mk hy659
             clear hy659
             replace H := Option.bind_eq_some_iff.mp H
             obtain ⟨t662, A143, H⟩ := H
             (try dsimp only at H)
             replace A143 := Aside0.mk A143
             by_cases c144 : (ji129) < (l0_1.length : Int); rotate_left
             ·rw [if_neg c144] at H; cases H
             rw [if_pos c144] at H
             have c144b0 : decide ((ji129) < (l0_1.length : Int)) = true := decide_eq_true c144
             clear c144
             by_cases c145 : ((t662 == 0) == (a3_0 == ((rd_T55 l0_1 (ji129)).f1))) = true; rotate_left
             ·rw [if_neg c145] at H; cases H
             rw [if_pos c145] at H
             have c145b0 : ((t662 == 0) == (a3_0 == ((rd_T55 l0_1 (ji129)).f1))) = true := c145
             (try (have c145b1 : decide ((t662 == 0) = (a3_0 == ((rd_T55 l0_1 (ji129)).f1))) = true := by simpa using c145))
             (try (have c145b2 : ((t662 == 0) == (a3_0 == ((rd_T55 l0_1 (ji129)).f1))) = true := by simpa using c145))
             clear c145
             obtain rfl := Option.some.inj H
             have hnb146 := NB581_580.out
             have hnc146 := NB580_581.out
             have hnb147 := NB581_582.out
             have hnc147 := NB582_581.out
             have hnb148 := NB581_594.out
             have hnc148 := NB594_581.out
             obtain ⟨hcz149_0, hcz149_1, hcz149_2, hcz149_3, hcz149_4, hfz149_0, hfz149_1, hfz149_2, hfz149_3, hfz149_4⟩ := blk_c5 BK581.out
             try go_wp2_with (first | ((with_reducible refine gate_dst (N := 13) rfl ?_); (try (refine gate_guard (by rfl) ?_; dsimp only)); refine box_event ?hg (N := 13) ?hd (cs := #[.int .i64 0, .int .i64 0, .int .i64 0, .string (⟨#[]⟩ : ByteArray), .slice none 0 0]) (t := 25) ?hr ?_; (case hd => rfl); (case hg => rfl); (case hr => first | (go_simp; done) | (go_simp; rfl)); intro gb613 hg w150 hbox hb; replace HO_581001 := Aside0.mk (Kd.V_below (Kd.V_elderB (Kd.pl_V HO_581001.out) gb613 (Nat.le_of_eq hg.symm)) hb); replace HO_595004 := Aside0.mk (Kd.R_below (Kd.pl_R HO_595004.out) hb); have BK613 := Aside0.mk (hbox); have GW613 := hG HB hg; have GE613 := hG HB hg; replace HB := hB HB hb; have NB580_613 := hN BK580 hg; have NB613_580 := hM BK580 hg; replace BK580 := bb BK580 hb; have NB581_613 := hN BK581 hg; have NB613_581 := hM BK581 hg; replace BK581 := bb BK581 hb; have NB582_613 := hN BK582 hg; have NB613_582 := hM BK582 hg; replace BK582 := bb BK582 hb; have NB594_613 := hN BK594 hg; have NB613_594 := hM BK594 hg; replace BK594 := bb BK594 hb; clear hb hbox hg; have hnb151 := NB613_580.out; have hnc151 := NB580_613.out; have hnb152 := NB613_581.out; have hnc152 := NB581_613.out; have hnb153 := NB613_582.out; have hnc153 := NB582_613.out; have hnb154 := NB613_594.out; have hnc154 := NB594_613.out; obtain ⟨hcz155_0, hcz155_1, hcz155_2, hcz155_3, hcz155_4, hfz155_0, hfz155_1, hfz155_2, hfz155_3, hfz155_4⟩ := blk_c5 BK613.out))
             generalize hw_ : (((((w150.setCell ⟨gb613, 0, none⟩ (.int .i64 a1_0)).setCell ⟨gb613, 1, none⟩ (.int .i64 a1_1)).setCell ⟨gb613, 2, none⟩ (.int .i64 a1_2)).setCell ⟨gb613, 3, none⟩ (.string a1_3)).setCell ⟨gb613, 4, none⟩ (.slice A1_4 l1_4.length c1_4)) = w156
             have n0_ : Aside0 (Kd.V k55 55 w156 w.heap.size (fun k_ => (P0_1_ k_ ∨ w.heap.size ≤ k_) ∧ some k_ ≠ (.slice Ao88 y604.length co88 : Value).ownBlock ∧ k_ ≠ gb580 ∧ k_ ≠ gb581 ∧ k_ ≠ gb582 ∧ k_ ≠ gb594 ∧ k_ ≠ gb613) (.slice A0_1 l0_1.length c0_1) l0_1) := ⟨by rw [← hw_]; exact (by (with_reducible repeat (first | apply Kd.V_alloc | apply Kd.V_drewN | apply Kd.V_drew)); exact Kd.V_mono (Kd.V_far (p := ⟨gb613, 4, none⟩) (Kd.V_far (p := ⟨gb613, 3, none⟩) (Kd.V_far (p := ⟨gb613, 2, none⟩) (Kd.V_far (p := ⟨gb613, 1, none⟩) (Kd.V_far (p := ⟨gb613, 0, none⟩) (Kd.V_mono HO_581001.out (fun k_ hk => (⟨hk, hk.2⟩ : _ ∧ k_ ≠ gb613))) (fun _ hk => hk.2) (.int .i64 a1_0)) (fun _ hk => hk.2) (.int .i64 a1_1)) (fun _ hk => hk.2) (.int .i64 a1_2)) (fun _ hk => hk.2) (.string a1_3)) (fun _ hk => hk.2) (.slice A1_4 l1_4.length c1_4)) (fun _ hk => ⟨hk.1.1.1, ⟨hk.1.1.2.1, ⟨hk.1.1.2.2.1, ⟨hk.1.1.2.2.2.1, ⟨hk.1.1.2.2.2.2.1, ⟨hk.1.1.2.2.2.2.2, hk.1.2⟩⟩⟩⟩⟩⟩))⟩
             have n1_ : Aside0 (Kd.R k52 52 w156 w.heap.size (fun k_ => (w.heap.size ≤ k_) ∧ k_ ≠ gb582) (.slice Ao88 y604.length co88) y604) := ⟨by rw [← hw_]; exact (by (with_reducible repeat (first | apply Kd.R_alloc | apply Kd.R_drewN | apply Kd.R_drew)); exact Kd.R_mono (Kd.R_far (p := ⟨gb613, 4, none⟩) (Kd.R_far (p := ⟨gb613, 3, none⟩) (Kd.R_far (p := ⟨gb613, 2, none⟩) (Kd.R_far (p := ⟨gb613, 1, none⟩) (Kd.R_far (p := ⟨gb613, 0, none⟩) (Kd.R_types HO_595004.out BK613.out (by decide)) (fun _ hk => hk.2) (.int .i64 a1_0)) (fun _ hk => hk.2) (.int .i64 a1_1)) (fun _ hk => hk.2) (.int .i64 a1_2)) (fun _ hk => hk.2) (.string a1_3)) (fun _ hk => hk.2) (.slice A1_4 l1_4.length c1_4)) (fun _ hk => ⟨hk.1.1, hk.1.2⟩))⟩
             have n2_ : Aside0 (w156.heap[gb580]? = some (.cells #[.string a0_0, .slice A0_1 l0_1.length c0_1] 31 (0, 0))) := ⟨by rw [← hw_]; exact (pl_blk (blk_far (p := ⟨gb613, 4, none⟩) (blk_far (p := ⟨gb613, 3, none⟩) (blk_far (p := ⟨gb613, 2, none⟩) (blk_far (p := ⟨gb613, 1, none⟩) (blk_far (p := ⟨gb613, 0, none⟩) BK580.out NB580_613.out (.int .i64 a1_0)) NB580_613.out (.int .i64 a1_1)) NB580_613.out (.int .i64 a1_2)) NB580_613.out (.string a1_3)) NB580_613.out (.slice A1_4 l1_4.length c1_4)))⟩
             have n3_ : Aside0 (w156.heap[gb581]? = some (.cells #[.int .i64 a1_0, .int .i64 a1_1, .int .i64 a1_2, .string a1_3, .slice A1_4 l1_4.length c1_4] 25 (0, 0))) := ⟨by rw [← hw_]; exact (pl_blk (blk_far (p := ⟨gb613, 4, none⟩) (blk_far (p := ⟨gb613, 3, none⟩) (blk_far (p := ⟨gb613, 2, none⟩) (blk_far (p := ⟨gb613, 1, none⟩) (blk_far (p := ⟨gb613, 0, none⟩) BK581.out NB581_613.out (.int .i64 a1_0)) NB581_613.out (.int .i64 a1_1)) NB581_613.out (.int .i64 a1_2)) NB581_613.out (.string a1_3)) NB581_613.out (.slice A1_4 l1_4.length c1_4)))⟩
             have n4_ : Aside0 (w156.heap[gb582]? = some (.cells #[.int .i64 a3_0, .int .i64 a3_1, .string a3_2] 52 (0, 0))) := ⟨by rw [← hw_]; exact (pl_blk (blk_far (p := ⟨gb613, 4, none⟩) (blk_far (p := ⟨gb613, 3, none⟩) (blk_far (p := ⟨gb613, 2, none⟩) (blk_far (p := ⟨gb613, 1, none⟩) (blk_far (p := ⟨gb613, 0, none⟩) BK582.out NB582_613.out (.int .i64 a1_0)) NB582_613.out (.int .i64 a1_1)) NB582_613.out (.int .i64 a1_2)) NB582_613.out (.string a1_3)) NB582_613.out (.slice A1_4 l1_4.length c1_4)))⟩
             have n5_ : Aside0 (w156.heap[gb594]? = some (.cells #[.int .i64 a1_0, .int .i64 a1_1, .int .i64 a1_2, .string a1_3, .slice Ao88 y604.length co88] 25 (0, 0))) := ⟨by rw [← hw_]; exact (pl_blk (blk_far (p := ⟨gb613, 4, none⟩) (blk_far (p := ⟨gb613, 3, none⟩) (blk_far (p := ⟨gb613, 2, none⟩) (blk_far (p := ⟨gb613, 1, none⟩) (blk_far (p := ⟨gb613, 0, none⟩) BK594.out NB594_613.out (.int .i64 a1_0)) NB594_613.out (.int .i64 a1_1)) NB594_613.out (.int .i64 a1_2)) NB594_613.out (.string a1_3)) NB594_613.out (.slice A1_4 l1_4.length c1_4)))⟩
             have n6_ : Aside0 (w156.heap[gb613]? = some (.cells #[.int .i64 a1_0, .int .i64 a1_1, .int .i64 a1_2, .string a1_3, .slice A1_4 l1_4.length c1_4] 25 (0, 0))) := ⟨by rw [← hw_]; exact (pl_blk (blk_put (blk_put (blk_put (blk_put (blk_put BK613.out 0 (.int .i64 a1_0) rfl) 1 (.int .i64 a1_1) rfl) 2 (.int .i64 a1_2) rfl) 3 (.string a1_3) rfl) 4 (.slice A1_4 l1_4.length c1_4) rfl))⟩
             have n7_ : Aside0 (Below w.heap.size w w156) := ⟨by rw [← hw_]; exact (by repeat (first | (with_reducible first | exact HB.out | apply below_alloc | apply pw_below_drewN | apply below_drew1 | refine below_set ?_ GE613.out) | exact HB.out))⟩
             (try clear HO_581001)
             (try clear HO_595004)
             (try clear BK580)
             (try clear BK581)
             (try clear BK582)
             (try clear BK594)
             (try clear BK613)
             (try clear HB)
             clear hw_
             have HO_581001 := n0_
             have HO_595004 := n1_
             have BK580 := n2_
             have BK581 := n3_
             have BK582 := n4_
             have BK594 := n5_
             have BK613 := n6_
             have HB := n7_
             clear n0_ n1_ n2_ n3_ n4_ n5_ n6_ n7_
             replace HO_581001 := Aside0.mk (Kd.V_drew HO_581001.out)
             replace HO_595004 := Aside0.mk (Kd.R_drew HO_595004.out)
             replace BK580 := Aside0.mk (blk_drew BK580.out)
             replace BK581 := Aside0.mk (blk_drew BK581.out)
             replace BK582 := Aside0.mk (blk_drew BK582.out)
             replace BK594 := Aside0.mk (blk_drew BK594.out)
             replace BK613 := Aside0.mk (blk_drew BK613.out)
             replace HB := Aside0.mk (below_drew1 HB.out)
             have q158 : ((ji129) : Int) ≤ ((l1_4.length : Int) : Int) := of_decide_eq_true (by first | (with_reducible assumption) | assumption)
             obtain ⟨i0158, hi0158, _, hsz158, _⟩ := info_parts info52
             have hroom158 : l1_4.length ≤ c1_4 := HC1_4.out
             have hC158 : Kd.C k52 _ A1_4 l1_4.length l1_4 := HR1_4.out
             have hcut158 := cut_to (P := Try.prog) 23 52 .i64 Try.underlying23 hi0158 A1_4 l1_4.length c1_4 (ji129) (of_decide_eq_true (by first | (with_reducible assumption) | assumption)) q158 hroom158
             have hr158 := Kd.C_take (m := ((ji129) : Int).toNat) hC158 (by omega)
             have hy158 : y617.length = ((ji129) : Int).toNat := (by rw [Ny617.out, List.length_take]; omega)
             rw [← Ny617.out] at hr158
             rw [← hy158] at hcut158
             have HR620 := Aside0.mk hr158
             have HC620 := Aside0.mk (show y617.length ≤ c1_4 from by omega)
             clear hr158 hC158 hroom158 hi0158 hsz158
             have KY158 := Aside0.mk hy158
             clear hy158
             replace q158 := eq_true q158
             have q159 : ((ji133) : Int) ≤ ((l1_4.length : Int) : Int) := of_decide_eq_true (by first | (with_reducible assumption) | assumption)
             obtain ⟨i0159, hi0159, _, hsz159, _⟩ := info_parts info52
             have hroom159 : l1_4.length ≤ c1_4 := HC1_4.out
             have hC159 : Kd.C k52 _ A1_4 l1_4.length l1_4 := HR1_4.out
             have q0159 : (0 : Int) ≤ ((ji133) : Int) := of_decide_eq_true (by first | (with_reducible assumption) | assumption)
             have hcut159 := cut_from (P := Try.prog) 23 52 .i64 Try.underlying23 hi0159 3 hsz159 A1_4 l1_4.length c1_4 (ji133) q0159 q159
             have hr159 := Kd.C_drop (m := ((ji133) : Int).toNat) (c := c1_4) hC159 (by omega) hroom159
             obtain ⟨A159, hA159⟩ : ∃ A1, A1 = (if c1_4 = ((ji133) : Int).toNat then A1_4 else (A1_4 : Option Addr).map (·.add (((ji133) : Int).toNat * 3))) := ⟨_, rfl⟩
             obtain ⟨c159, hc159⟩ : ∃ c1, c1 = c1_4 - ((ji133) : Int).toNat := ⟨_, rfl⟩
             have hy159 : y624.length = l1_4.length - ((ji133) : Int).toNat := (by rw [Ny624.out, List.length_drop] <;> omega)
             rw [show (l1_4).drop ((ji133) : Int).toNat = y624 from Ny624.out.symm] at hr159
             replace hr159 : Kd.C k52 _ A159 y624.length y624 := (by rw [hA159]; exact hr159)
             rw [← hy159, ← hA159, ← hc159] at hcut159
             have HR627 := Aside0.mk hr159
             have HC627 := Aside0.mk (show y624.length ≤ c159 from by rw [hy159, hc159]; exact Nat.sub_le_sub_right hroom159 _)
             clear hr159 hC159 hroom159 hi0159 hsz159 hc159
             have KY159 := Aside0.mk hy159
             have KA159 := Aside0.mk hA159
             clear hy159 hA159
             replace q159 := eq_true q159
             refine start_ (n := 14) (S := fun w' => w'.cell? ⟨gb581, 0, none⟩ = some (.int .i64 a1_0) ∧ w'.cell? ⟨gb581, 1, none⟩ = some (.int .i64 a1_1) ∧ w'.cell? ⟨gb581, 2, none⟩ = some (.int .i64 a1_2) ∧ w'.cell? ⟨gb581, 3, none⟩ = some (.string a1_3) ∧ w'.cell? ⟨gb581, 4, none⟩ = some (.slice A1_4 l1_4.length c1_4)) (ds := []) #[false, false, false, false, false, false, false, false, false, false, false, false, false, false] (by kernel_rfl) rfl rfl ⟨(blk_cell BK581.out 0).trans rfl, (blk_cell BK581.out 1).trans rfl, (blk_cell BK581.out 2).trans rfl, (blk_cell BK581.out 3).trans rfl, (blk_cell BK581.out 4).trans rfl⟩ (fun hHeld => ?_); refine with_tabW augurylaw05_EventFits.tab17 augurylaw05_EventFits.bits17 (fun HT_ HW_ => ?_)
             generalize w156.drew = w157 at HO_581001 HO_595004 BK580 BK581 BK582 BK594 BK613 HB HR620 HR627 hHeld ⊢
             refine pure_ (i := 1) (N := some 92) (v := ?_) (a' := ?_) #[false, true, false, false, false, false, false, false, false, false, false, false, false, false] rfl rfl (any_of HT_.out (by kernel_rfl)) (fun _ _ _ h => h) (Or.inl ⟨by rfl, ?_⟩) ?_ ?_
             rotate_left
             ·intro w'
              go_simp
              with_reducible rfl
             rotate_left
             ·simp only [Act.put, List.setIfInBounds_toArray, List.set_cons_zero, List.set_cons_succ, i64_w, i32_w]
              rfl
             refine pure_ (i := 3) (N := some 94) (v := ?_) (a' := ?_) #[false, true, false, true, false, false, false, false, false, false, false, false, false, false] rfl rfl (any_of HT_.out (by kernel_rfl)) (fun _ _ _ h => h) (Or.inl ⟨by rfl, ?_⟩) ?_ ?_
             rotate_left
             ·intro w'
              go_simp
              with_reducible rfl
             rotate_left
             ·simp only [Act.put, List.setIfInBounds_toArray, List.set_cons_zero, List.set_cons_succ, i64_w, i32_w]
              rfl
             refine pure_ (i := 6) (N := some 97) (v := ?_) (a' := ?_) #[false, true, false, true, false, false, true, false, false, false, false, false, false, false] rfl rfl (any_of HT_.out (by kernel_rfl)) (fun _ _ _ h => h) (Or.inl ⟨by rfl, ?_⟩) ?_ ?_
             rotate_left
             ·intro w'
              go_simp
              with_reducible rfl
             rotate_left
             ·simp only [Act.put, List.setIfInBounds_toArray, List.set_cons_zero, List.set_cons_succ, i64_w, i32_w]
              rfl
             refine pure_ (i := 8) (N := some 99) (v := ?_) (a' := ?_) #[false, true, false, true, false, false, true, false, true, false, false, false, false, false] rfl rfl (any_of HT_.out (by kernel_rfl)) (fun _ _ _ h => h) (Or.inl ⟨by rfl, ?_⟩) ?_ ?_
             rotate_left
             ·intro w'
              go_simp
              with_reducible rfl
             rotate_left
             ·simp only [Act.put, List.setIfInBounds_toArray, List.set_cons_zero, List.set_cons_succ, i64_w, i32_w]
              rfl
             refine pure_ (i := 9) (N := some 100) (v := ?_) (a' := ?_) #[false, true, false, true, false, false, true, false, true, true, false, false, false, false] rfl rfl (any_of HT_.out (by kernel_rfl)) (fun _ _ _ h => h) (Or.inl ⟨by rfl, ?_⟩) ?_ ?_
             rotate_left
             ·intro w'
              go_simp
              with_reducible rfl
             rotate_left
             ·simp only [Act.put, List.setIfInBounds_toArray, List.set_cons_zero, List.set_cons_succ, i64_w, i32_w]
              rfl
             refine take_ (i := 2) (N := some 93) (v := ?_) (a' := ?_) #[false, true, true, true, false, false, true, false, true, true, false, false, false, false] rfl rfl (take_ofW HT_.out HW_.out (by kernel_rfl)) (fun _ _ _ h => h) (Or.inl ⟨by rfl, ?_⟩) hHeld ?_ ?_
             rotate_left
             ·rintro w' ⟨s0, s1, s2, s3, s4⟩
              go_simp
              with_reducible rfl
             rotate_left
             ·simp only [Act.put, List.setIfInBounds_toArray, List.set_cons_zero, List.set_cons_succ, i64_w, i32_w]
              rfl
             refine pure_ (i := 4) (N := some 95) (v := ?_) (a' := ?_) #[false, true, true, true, true, false, true, false, true, true, false, false, false, false] rfl rfl (any_of HT_.out (by kernel_rfl)) (fun _ _ _ h => h) (Or.inl ⟨by rfl, ?_⟩) ?_ ?_
             rotate_left
             ·intro w'
              go_simp
              with_reducible rfl
             rotate_left
             ·simp only [Act.put, List.setIfInBounds_toArray, List.set_cons_zero, List.set_cons_succ, i64_w, i32_w]
              rfl
             refine take_ (i := 7) (N := some 98) (v := ?_) (a' := ?_) #[false, true, true, true, true, false, true, true, true, true, false, false, false, false] rfl rfl (take_ofW HT_.out HW_.out (by kernel_rfl)) (fun _ _ _ h => h) (Or.inl ⟨by rfl, ?_⟩) hHeld ?_ ?_
             rotate_left
             ·rintro w' ⟨s0, s1, s2, s3, s4⟩
              go_simp
              with_reducible rfl
             rotate_left
             ·simp only [Act.put, List.setIfInBounds_toArray, List.set_cons_zero, List.set_cons_succ, i64_w, i32_w]
              rfl
             refine pure_ (i := 10) (N := some 101) (v := ?_) (a' := ?_) #[false, true, true, true, true, false, true, true, true, true, true, false, false, false] rfl rfl (any_of HT_.out (by kernel_rfl)) (fun _ _ _ h => h) (Or.inl ⟨by rfl, ?_⟩) ?_ ?_
             rotate_left
             ·intro w'
              go_simp
              with_reducible rfl
             rotate_left
             ·simp only [Act.put, List.setIfInBounds_toArray, List.set_cons_zero, List.set_cons_succ, i64_w, i32_w]
              rfl
             refine one_ (i := 0) (N := some 91) #[true, true, true, true, true, false, true, true, true, true, true, false, false, false] rfl rfl (one_of HT_.out (by kernel_rfl)) (by decide) (fun K hK => ?_)
             refine Kd.R_lit_step k52 _ 52 ?hg (N := 91) ?hd (xs := ([] : List (S52))) (inner := []) (ok := fun _ => True) (okp := fun _ => True) ?hr ?hp (fun _ hk => hk) trivial (Below.refl _ _) (Nat.le_refl _) (by simp) ?_; (case hd => rfl); (case hg => rfl); (case hr => first | (go_simp; done) | (go_simp; rfl)); (case hp => exact (Reps.none _ _))
             intro v615 w160 ho161 hb hg_ hnew_
             clear hg_ hnew_
             (first | rw [← Ny614.out] at ho161 | (simp only [Int.reduceToNat] at ho161; rw [← Ny614.out] at ho161))
             replace HO_581001 := Aside0.mk (Kd.V_elder' (Kd.pl_V HO_581001.out) (Kd.R_base ho161) hb)
             have HO616 := Aside0.mk (Kd.R_lower (Kd.R_newB (Kd.R_new' (Kd.R_newM (M := fun k_ => (w.heap.size ≤ k_)) ho161 (below_size (pl_below HB.out)) (fun k_ h_ => h_)) (Kd.R_lt (Kd.pl_R HO_595004.out))) (pl_blk BK582.out)) (below_size (pl_below HB.out)))
             replace HO_595004 := Aside0.mk (Kd.R_elder' (Kd.pl_R HO_595004.out) (Kd.R_base ho161) hb)
             replace BK580 := bb BK580 hb
             replace BK581 := bb BK581 hb
             replace BK582 := bb BK582 hb
             replace BK594 := bb BK594 hb
             replace BK613 := bb BK613 hb
             replace HB := hB HB hb
             clear hb ho161
             refine hK.out _ _ ⟨(blk_cell BK581.out 0).trans rfl, (blk_cell BK581.out 1).trans rfl, (blk_cell BK581.out 2).trans rfl, (blk_cell BK581.out 3).trans rfl, (blk_cell BK581.out 4).trans rfl⟩ (fun hHeld => ?_)
             clear hK K
             refine norm_ (a' := ?_) ?_ ?_
             rotate_left
             ·show Act.put _ (some 91) _ = _
              simp only [Act.put, List.setIfInBounds_toArray, List.set_cons_zero, List.set_cons_succ, i64_w, i32_w]
              rfl
             refine one_ (i := 5) (N := some 96) #[true, true, true, true, true, true, true, true, true, true, true, false, false, false] rfl rfl (one_of HT_.out (by kernel_rfl)) (by decide) (fun K hK => ?_)
             refine Kd.R_append_rows_step k52 (w0 := w) w.heap.size (by rfl) (.tmp 91) (.tmp 95) 23 52 (.agg #[(.int .i64 0), (.int .i64 0), (.string ⟨#[]⟩)]) 32 rfl Try.underlying23 info52 rfl (by decide) (by omega) v615 y614 y617 _ _ _ (fun k_ => (w.heap.size ≤ k_) ∧ some k_ ≠ (.slice Ao88 y604.length co88 : Value).ownBlock ∧ k_ ≠ gb582) (fun _ => False) rfl rfl ?aO ?aR (fun _ _ h => h) (fun _ h => h.elim) ?aF ?aB ?aS ?aL ?_
             (case aR => repeat (first | exact (Kd.C_below HR620.out HB.out) | (with_reducible refine Kd.C_alloc ?_ _) | (with_reducible refine Kd.C_drewN ?_ _) | (with_reducible refine Kd.C_drew ?_)))
             (case aB => exact (pl_below HB.out))
             (case aF => exact (fun k_ hk => ⟨(Nat.le_trans (below_size (pl_below HB.out)) hk), Kd.fresh' (Kd.R_lt (Kd.pl_R HO_595004.out)) k_ hk, Kd.freshB (g := gb582) (o := .cells #[.int .i64 a3_0, .int .i64 a3_1, .string a3_2] 52 (0, 0)) (pl_blk BK582.out) k_ hk⟩))
             (case aO => exact (by (with_reducible repeat (first | apply Kd.R_alloc | apply Kd.R_drewN | apply Kd.R_drew)); exact Kd.R_mono HO616.out (fun _ hk => ⟨hk.1.1.1, ⟨hk.1.2, hk.2⟩⟩)))
             (case aS => exact (below_size (pl_below HB.out)))
             (case aL => have := LMc132.out; omega)
             intro v622 w162 ho hb hg hat
             rw [← Ny621.out] at ho
             replace HO_581001 := Aside0.mk (Kd.V_afterv (ok := (fun k_ => (P0_1_ k_ ∨ w.heap.size ≤ k_) ∧ some k_ ≠ (.slice Ao88 y604.length co88 : Value).ownBlock ∧ k_ ≠ gb580 ∧ k_ ≠ gb581 ∧ k_ ≠ gb582 ∧ k_ ≠ gb594 ∧ k_ ≠ gb613)) (Kd.pl_V HO_581001.out) hg hat)
             replace HO_595004 := Aside0.mk (Kd.R_after (ok := (fun k_ => (w.heap.size ≤ k_) ∧ k_ ≠ gb582)) (Kd.pl_R HO_595004.out) hg hat)
             replace BK580 := Aside0.mk (blk_grown (pl_blk BK580.out) hg (Kd.R_ne HO616.out BK580.out (by decide)))
             replace BK581 := Aside0.mk (blk_grown (pl_blk BK581.out) hg (Kd.R_ne HO616.out BK581.out (by decide)))
             replace BK582 := Aside0.mk (blk_grown (pl_blk BK582.out) hg (Kd.R_away HO616.out (fun _ hk => hk.2)))
             replace BK594 := Aside0.mk (blk_grown (pl_blk BK594.out) hg (Kd.R_ne HO616.out BK594.out (by decide)))
             replace BK613 := Aside0.mk (blk_grown (pl_blk BK613.out) hg (Kd.R_ne HO616.out BK613.out (by decide)))
             replace HB := Aside0.mk (hb)
             have HO623 := Aside0.mk (ho)
             clear HO616
             clear ho hb hg hat
             refine hK.out _ _ ⟨(blk_cell BK581.out 0).trans rfl, (blk_cell BK581.out 1).trans rfl, (blk_cell BK581.out 2).trans rfl, (blk_cell BK581.out 3).trans rfl, (blk_cell BK581.out 4).trans rfl⟩ (fun hHeld => ?_)
             clear hK K
             refine norm_ (a' := ?_) ?_ ?_
             rotate_left
             ·show Act.put _ (some 96) _ = _
              simp only [Act.put, List.setIfInBounds_toArray, List.set_cons_zero, List.set_cons_succ, i64_w, i32_w]
              rfl
             refine one_ (i := 11) (N := some 102) #[true, true, true, true, true, true, true, true, true, true, true, true, false, false] rfl rfl (one_of HT_.out (by kernel_rfl)) (by decide) (fun K hK => ?_)
             refine Kd.R_append_rows_step k52 (w0 := w) w.heap.size (by rfl) (.tmp 96) (.tmp 101) 23 52 (.agg #[(.int .i64 0), (.int .i64 0), (.string ⟨#[]⟩)]) 32 rfl Try.underlying23 info52 rfl (by decide) (by omega) v622 y621 y624 _ _ _ (fun k_ => (w.heap.size ≤ k_) ∧ some k_ ≠ (.slice Ao88 y604.length co88 : Value).ownBlock ∧ k_ ≠ gb582) (fun _ => False) rfl rfl ?aO ?aR (fun _ _ h => h) (fun _ h => h.elim) ?aF ?aB ?aS ?aL ?_
             (case aR => repeat (first | exact (Kd.C_below HR627.out HB.out) | (with_reducible refine Kd.C_alloc ?_ _) | (with_reducible refine Kd.C_drewN ?_ _) | (with_reducible refine Kd.C_drew ?_)))
             (case aB => exact (pl_below HB.out))
             (case aF => exact (fun k_ hk => ⟨(Nat.le_trans (below_size (pl_below HB.out)) hk), Kd.fresh' (Kd.R_lt (Kd.pl_R HO_595004.out)) k_ hk, Kd.freshB (g := gb582) (o := .cells #[.int .i64 a3_0, .int .i64 a3_1, .string a3_2] 52 (0, 0)) (pl_blk BK582.out) k_ hk⟩))
             (case aO => exact (Kd.pl_R HO623.out))
             (case aS => exact (below_size (pl_below HB.out)))
             (case aL => have := LMc136.out; omega)
             intro v629 w163 ho hb hg hat
             rw [← Ny628.out] at ho
             replace HO_581001 := Aside0.mk (Kd.V_afterv (ok := (fun k_ => (P0_1_ k_ ∨ w.heap.size ≤ k_) ∧ some k_ ≠ (.slice Ao88 y604.length co88 : Value).ownBlock ∧ k_ ≠ gb580 ∧ k_ ≠ gb581 ∧ k_ ≠ gb582 ∧ k_ ≠ gb594 ∧ k_ ≠ gb613)) (Kd.pl_V HO_581001.out) hg hat)
             replace HO_595004 := Aside0.mk (Kd.R_after (ok := (fun k_ => (w.heap.size ≤ k_) ∧ k_ ≠ gb582)) (Kd.pl_R HO_595004.out) hg hat)
             replace BK580 := Aside0.mk (blk_grown (pl_blk BK580.out) hg (Kd.R_ne HO623.out BK580.out (by decide)))
             replace BK581 := Aside0.mk (blk_grown (pl_blk BK581.out) hg (Kd.R_ne HO623.out BK581.out (by decide)))
             replace BK582 := Aside0.mk (blk_grown (pl_blk BK582.out) hg (Kd.R_away HO623.out (fun _ hk => hk.2.2)))
             replace BK594 := Aside0.mk (blk_grown (pl_blk BK594.out) hg (Kd.R_ne HO623.out BK594.out (by decide)))
             replace BK613 := Aside0.mk (blk_grown (pl_blk BK613.out) hg (Kd.R_ne HO623.out BK613.out (by decide)))
             replace HB := Aside0.mk (hb)
             have HO630 := Aside0.mk (ho)
             clear HO623
             clear ho hb hg hat
             obtain ⟨Ao164, co164, eo164⟩ := Kd.R_slice HO630.out
             (first | subst eo164 | (injection eo164 with f1_ f2_ f3_; have f4_ := f1_.symm; have f5_ := f3_.symm; clear f1_ f2_ f3_; subst f4_; subst f5_))
             refine hK.out _ _ ⟨(blk_cell BK581.out 0).trans rfl, (blk_cell BK581.out 1).trans rfl, (blk_cell BK581.out 2).trans rfl, (blk_cell BK581.out 3).trans rfl, (blk_cell BK581.out 4).trans rfl⟩ (fun hHeld => ?_)
             clear hK K
             refine norm_ (a' := ?_) ?_ ?_
             rotate_left
             ·show Act.put _ (some 102) _ = _
              simp only [Act.put, List.setIfInBounds_toArray, List.set_cons_zero, List.set_cons_succ, i64_w, i32_w]
              rfl
             refine pure_ (i := 12) (N := some 103) (v := ?_) (a' := ?_) #[true, true, true, true, true, true, true, true, true, true, true, true, true, false] rfl rfl (any_of HT_.out (by kernel_rfl)) (fun _ _ _ h => h) (Or.inl ⟨by rfl, ?_⟩) ?_ ?_
             rotate_left
             ·intro w'
              go_simp
              with_reducible rfl
             rotate_left
             ·simp only [Act.put, List.setIfInBounds_toArray, List.set_cons_zero, List.set_cons_succ, i64_w, i32_w]
              rfl
             refine one_ (i := 13) (N := none) #[true, true, true, true, true, true, true, true, true, true, true, true, true, true] rfl rfl (one_of HT_.out (by kernel_rfl)) (by decide) (fun K hK => ?_)
             have hs165 : w163.cell? ⟨gb613, 4, none⟩ = some (.slice A1_4 l1_4.length c1_4) := (blk_cell BK613.out 4).trans rfl
             have hfs165 := blk_frozen BK613.out 4
             have hns165_0 := NB580_613.out
             have hns165_1 := NB581_613.out
             have hns165_2 := NB582_613.out
             have hns165_3 := NB594_613.out
             have hms165_0 := NB613_580.out
             have hms165_1 := NB613_581.out
             have hms165_2 := NB613_582.out
             have hms165_3 := NB613_594.out
             refine skip_ (w1 := ?_) (by rfl) rfl ?_ ?_
             rotate_left
             ·go_simp
              rfl
             refine hK.out _ _ ⟨((cell_far (p := ⟨gb613, _, none⟩) NB581_613.out _).trans (hHeld.1)), ((cell_far (p := ⟨gb613, _, none⟩) NB581_613.out _).trans (hHeld.2.1)), ((cell_far (p := ⟨gb613, _, none⟩) NB581_613.out _).trans (hHeld.2.2.1)), ((cell_far (p := ⟨gb613, _, none⟩) NB581_613.out _).trans (hHeld.2.2.2.1)), ((cell_far (p := ⟨gb613, _, none⟩) NB581_613.out _).trans (hHeld.2.2.2.2))⟩ (fun hHeld => ?_)
             clear hK K
             refine done_ (done_of HT_.out (by kernel_rfl)) ?_
             obtain ⟨hcz166_0, hcz166_1, hcz166_2, hcz166_3, hcz166_4, hfz166_0, hfz166_1, hfz166_2, hfz166_3, hfz166_4⟩ := blk_c5 BK581.out
             try go_wp2_with (first | ((with_reducible refine gate_dst (N := 14) rfl ?_); (try (refine gate_guard (by rfl) ?_; dsimp only)); refine box_event ?hg (N := 14) ?hd (cs := #[.int .i64 0, .int .i64 0, .int .i64 0, .string (⟨#[]⟩ : ByteArray), .slice none 0 0]) (t := 25) ?hr ?_; (case hd => rfl); (case hg => rfl); (case hr => first | (go_simp; done) | (go_simp; rfl)); intro gb631 hg w167 hbox hb; replace HO_581001 := Aside0.mk (Kd.V_below (Kd.V_elderB (by (with_reducible repeat (first | apply Kd.V_alloc | apply Kd.V_drewN | apply Kd.V_drew)); exact (Kd.V_mono (Kd.V_far (p := ⟨gb613, 4, none⟩) (Kd.V_mono HO_581001.out (fun k_ hk => (⟨hk, hk.1.2.2.2.2.2.2⟩ : _ ∧ k_ ≠ gb613))) (fun _ hk => hk.2) (.slice Ao164 y628.length co164)) (fun _ h_ => h_.1))) gb631 (Nat.le_of_eq hg.symm)) hb); replace HO_595004 := Aside0.mk (Kd.R_below (by (with_reducible repeat (first | apply Kd.R_alloc | apply Kd.R_drewN | apply Kd.R_drew)); exact (Kd.R_mono (Kd.R_far (p := ⟨gb613, 4, none⟩) (Kd.R_types HO_595004.out BK613.out (by decide)) (fun _ hk => hk.2) (.slice Ao164 y628.length co164)) (fun _ h_ => h_.1))) hb); replace HO630 := Aside0.mk (Kd.R_below (by (with_reducible repeat (first | apply Kd.R_alloc | apply Kd.R_drewN | apply Kd.R_drew)); exact (Kd.R_mono (Kd.R_far (p := ⟨gb613, 4, none⟩) (Kd.R_types HO630.out BK613.out (by decide)) (fun _ hk => hk.2) (.slice Ao164 y628.length co164)) (fun _ h_ => h_.1))) hb); have BK631 := Aside0.mk (hbox); have GW631 := Aside0.mk ((by rw [hg]; exact (below_size (by repeat (first | (with_reducible first | exact HB.out | apply below_alloc | apply pw_below_drewN | apply below_drew1 | refine below_set ?_ GE613.out) | exact HB.out))) : w.heap.size ≤ gb631)); have GE631 := Aside0.mk ((by rw [hg]; exact (below_size (by repeat (first | (with_reducible first | exact HB.out | apply below_alloc | apply pw_below_drewN | apply below_drew1 | refine below_set ?_ GE613.out) | exact HB.out))) : w.heap.size ≤ gb631)); replace HB := Aside0.mk (below_step (by repeat (first | (with_reducible first | exact HB.out | apply below_alloc | apply pw_below_drewN | apply below_drew1 | refine below_set ?_ GE613.out) | exact HB.out)) hb); have NB580_631 := Aside0.mk ((by rw [hg]; exact Nat.ne_of_lt (blk_lt (pl_blk (blk_far (p := ⟨gb613, 4, none⟩) BK580.out NB580_613.out (.slice Ao164 y628.length co164)))) : gb580 ≠ gb631)); have NB631_580 := Aside0.mk ((by rw [hg]; exact Nat.ne_of_gt (blk_lt (pl_blk (blk_far (p := ⟨gb613, 4, none⟩) BK580.out NB580_613.out (.slice Ao164 y628.length co164)))) : gb631 ≠ gb580)); replace BK580 := Aside0.mk (blk_below (pl_blk (blk_far (p := ⟨gb613, 4, none⟩) BK580.out NB580_613.out (.slice Ao164 y628.length co164))) hb); have NB581_631 := Aside0.mk ((by rw [hg]; exact Nat.ne_of_lt (blk_lt (pl_blk (blk_far (p := ⟨gb613, 4, none⟩) BK581.out NB581_613.out (.slice Ao164 y628.length co164)))) : gb581 ≠ gb631)); have NB631_581 := Aside0.mk ((by rw [hg]; exact Nat.ne_of_gt (blk_lt (pl_blk (blk_far (p := ⟨gb613, 4, none⟩) BK581.out NB581_613.out (.slice Ao164 y628.length co164)))) : gb631 ≠ gb581)); replace BK581 := Aside0.mk (blk_below (pl_blk (blk_far (p := ⟨gb613, 4, none⟩) BK581.out NB581_613.out (.slice Ao164 y628.length co164))) hb); have NB582_631 := Aside0.mk ((by rw [hg]; exact Nat.ne_of_lt (blk_lt (pl_blk (blk_far (p := ⟨gb613, 4, none⟩) BK582.out NB582_613.out (.slice Ao164 y628.length co164)))) : gb582 ≠ gb631)); have NB631_582 := Aside0.mk ((by rw [hg]; exact Nat.ne_of_gt (blk_lt (pl_blk (blk_far (p := ⟨gb613, 4, none⟩) BK582.out NB582_613.out (.slice Ao164 y628.length co164)))) : gb631 ≠ gb582)); replace BK582 := Aside0.mk (blk_below (pl_blk (blk_far (p := ⟨gb613, 4, none⟩) BK582.out NB582_613.out (.slice Ao164 y628.length co164))) hb); have NB594_631 := Aside0.mk ((by rw [hg]; exact Nat.ne_of_lt (blk_lt (pl_blk (blk_far (p := ⟨gb613, 4, none⟩) BK594.out NB594_613.out (.slice Ao164 y628.length co164)))) : gb594 ≠ gb631)); have NB631_594 := Aside0.mk ((by rw [hg]; exact Nat.ne_of_gt (blk_lt (pl_blk (blk_far (p := ⟨gb613, 4, none⟩) BK594.out NB594_613.out (.slice Ao164 y628.length co164)))) : gb631 ≠ gb594)); replace BK594 := Aside0.mk (blk_below (pl_blk (blk_far (p := ⟨gb613, 4, none⟩) BK594.out NB594_613.out (.slice Ao164 y628.length co164))) hb); have NB613_631 := Aside0.mk ((by rw [hg]; exact Nat.ne_of_lt (blk_lt (pl_blk (blk_put BK613.out 4 (.slice Ao164 y628.length co164) rfl))) : gb613 ≠ gb631)); have NB631_613 := Aside0.mk ((by rw [hg]; exact Nat.ne_of_gt (blk_lt (pl_blk (blk_put BK613.out 4 (.slice Ao164 y628.length co164) rfl))) : gb631 ≠ gb613)); replace BK613 := Aside0.mk (blk_below (pl_blk (blk_put BK613.out 4 (.slice Ao164 y628.length co164) rfl)) hb); clear hb hbox hg; have hnb168 := NB631_580.out; have hnc168 := NB580_631.out; have hnb169 := NB631_581.out; have hnc169 := NB581_631.out; have hnb170 := NB631_582.out; have hnc170 := NB582_631.out; have hnb171 := NB631_594.out; have hnc171 := NB594_631.out; have hnb172 := NB631_613.out; have hnc172 := NB613_631.out; obtain ⟨hcz173_0, hcz173_1, hcz173_2, hcz173_3, hcz173_4, hfz173_0, hfz173_1, hfz173_2, hfz173_3, hfz173_4⟩ := blk_c5 BK631.out))
             generalize hw_ : (((((w167.setCell ⟨gb631, 0, none⟩ (.int .i64 a1_0)).setCell ⟨gb631, 1, none⟩ (.int .i64 a1_1)).setCell ⟨gb631, 2, none⟩ (.int .i64 a1_2)).setCell ⟨gb631, 3, none⟩ (.string a1_3)).setCell ⟨gb631, 4, none⟩ (.slice A1_4 l1_4.length c1_4)) = w174
             have n0_ : Aside0 (Kd.V k55 55 w174 w.heap.size (fun k_ => (P0_1_ k_ ∨ w.heap.size ≤ k_) ∧ some k_ ≠ (.slice Ao88 y604.length co88 : Value).ownBlock ∧ some k_ ≠ (.slice Ao164 y628.length co164 : Value).ownBlock ∧ k_ ≠ gb580 ∧ k_ ≠ gb581 ∧ k_ ≠ gb582 ∧ k_ ≠ gb594 ∧ k_ ≠ gb613 ∧ k_ ≠ gb631) (.slice A0_1 l0_1.length c0_1) l0_1) := ⟨by rw [← hw_]; exact (by (with_reducible repeat (first | apply Kd.V_alloc | apply Kd.V_drewN | apply Kd.V_drew)); exact Kd.V_mono (Kd.V_far (p := ⟨gb631, 4, none⟩) (Kd.V_far (p := ⟨gb631, 3, none⟩) (Kd.V_far (p := ⟨gb631, 2, none⟩) (Kd.V_far (p := ⟨gb631, 1, none⟩) (Kd.V_far (p := ⟨gb631, 0, none⟩) (Kd.V_mono HO_581001.out (fun k_ hk => (⟨hk, hk.2⟩ : _ ∧ k_ ≠ gb631))) (fun _ hk => hk.2) (.int .i64 a1_0)) (fun _ hk => hk.2) (.int .i64 a1_1)) (fun _ hk => hk.2) (.int .i64 a1_2)) (fun _ hk => hk.2) (.string a1_3)) (fun _ hk => hk.2) (.slice A1_4 l1_4.length c1_4)) (fun _ hk => ⟨hk.1.1.1.1, ⟨hk.1.1.1.2.1, ⟨hk.1.1.2, ⟨hk.1.1.1.2.2.1, ⟨hk.1.1.1.2.2.2.1, ⟨hk.1.1.1.2.2.2.2.1, ⟨hk.1.1.1.2.2.2.2.2.1, ⟨hk.1.1.1.2.2.2.2.2.2, hk.1.2⟩⟩⟩⟩⟩⟩⟩⟩))⟩
             have n1_ : Aside0 (Kd.R k52 52 w174 w.heap.size (fun k_ => (w.heap.size ≤ k_) ∧ some k_ ≠ (.slice Ao164 y628.length co164 : Value).ownBlock ∧ k_ ≠ gb582) (.slice Ao88 y604.length co88) y604) := ⟨by rw [← hw_]; exact (by (with_reducible repeat (first | apply Kd.R_alloc | apply Kd.R_drewN | apply Kd.R_drew)); exact Kd.R_mono (Kd.R_far (p := ⟨gb631, 4, none⟩) (Kd.R_far (p := ⟨gb631, 3, none⟩) (Kd.R_far (p := ⟨gb631, 2, none⟩) (Kd.R_far (p := ⟨gb631, 1, none⟩) (Kd.R_far (p := ⟨gb631, 0, none⟩) (Kd.R_types HO_595004.out BK631.out (by decide)) (fun _ hk => hk.2) (.int .i64 a1_0)) (fun _ hk => hk.2) (.int .i64 a1_1)) (fun _ hk => hk.2) (.int .i64 a1_2)) (fun _ hk => hk.2) (.string a1_3)) (fun _ hk => hk.2) (.slice A1_4 l1_4.length c1_4)) (fun _ hk => ⟨hk.1.1.1, ⟨hk.1.2, hk.1.1.2⟩⟩))⟩
             have n2_ : Aside0 (Kd.R k52 52 w174 w.heap.size (fun k_ => (w.heap.size ≤ k_) ∧ some k_ ≠ (.slice Ao88 y604.length co88 : Value).ownBlock ∧ k_ ≠ gb582) (.slice Ao164 y628.length co164) y628) := ⟨by rw [← hw_]; exact (by (with_reducible repeat (first | apply Kd.R_alloc | apply Kd.R_drewN | apply Kd.R_drew)); exact Kd.R_mono (Kd.R_far (p := ⟨gb631, 4, none⟩) (Kd.R_far (p := ⟨gb631, 3, none⟩) (Kd.R_far (p := ⟨gb631, 2, none⟩) (Kd.R_far (p := ⟨gb631, 1, none⟩) (Kd.R_far (p := ⟨gb631, 0, none⟩) (Kd.R_types HO630.out BK631.out (by decide)) (fun _ hk => hk.2) (.int .i64 a1_0)) (fun _ hk => hk.2) (.int .i64 a1_1)) (fun _ hk => hk.2) (.int .i64 a1_2)) (fun _ hk => hk.2) (.string a1_3)) (fun _ hk => hk.2) (.slice A1_4 l1_4.length c1_4)) (fun _ hk => ⟨hk.1.1, ⟨hk.1.2.1, hk.1.2.2⟩⟩))⟩
             have n3_ : Aside0 (w174.heap[gb580]? = some (.cells #[.string a0_0, .slice A0_1 l0_1.length c0_1] 31 (0, 0))) := ⟨by rw [← hw_]; exact (pl_blk (blk_far (p := ⟨gb631, 4, none⟩) (blk_far (p := ⟨gb631, 3, none⟩) (blk_far (p := ⟨gb631, 2, none⟩) (blk_far (p := ⟨gb631, 1, none⟩) (blk_far (p := ⟨gb631, 0, none⟩) BK580.out NB580_631.out (.int .i64 a1_0)) NB580_631.out (.int .i64 a1_1)) NB580_631.out (.int .i64 a1_2)) NB580_631.out (.string a1_3)) NB580_631.out (.slice A1_4 l1_4.length c1_4)))⟩
             have n4_ : Aside0 (w174.heap[gb581]? = some (.cells #[.int .i64 a1_0, .int .i64 a1_1, .int .i64 a1_2, .string a1_3, .slice A1_4 l1_4.length c1_4] 25 (0, 0))) := ⟨by rw [← hw_]; exact (pl_blk (blk_far (p := ⟨gb631, 4, none⟩) (blk_far (p := ⟨gb631, 3, none⟩) (blk_far (p := ⟨gb631, 2, none⟩) (blk_far (p := ⟨gb631, 1, none⟩) (blk_far (p := ⟨gb631, 0, none⟩) BK581.out NB581_631.out (.int .i64 a1_0)) NB581_631.out (.int .i64 a1_1)) NB581_631.out (.int .i64 a1_2)) NB581_631.out (.string a1_3)) NB581_631.out (.slice A1_4 l1_4.length c1_4)))⟩
             have n5_ : Aside0 (w174.heap[gb582]? = some (.cells #[.int .i64 a3_0, .int .i64 a3_1, .string a3_2] 52 (0, 0))) := ⟨by rw [← hw_]; exact (pl_blk (blk_far (p := ⟨gb631, 4, none⟩) (blk_far (p := ⟨gb631, 3, none⟩) (blk_far (p := ⟨gb631, 2, none⟩) (blk_far (p := ⟨gb631, 1, none⟩) (blk_far (p := ⟨gb631, 0, none⟩) BK582.out NB582_631.out (.int .i64 a1_0)) NB582_631.out (.int .i64 a1_1)) NB582_631.out (.int .i64 a1_2)) NB582_631.out (.string a1_3)) NB582_631.out (.slice A1_4 l1_4.length c1_4)))⟩
             have n6_ : Aside0 (w174.heap[gb594]? = some (.cells #[.int .i64 a1_0, .int .i64 a1_1, .int .i64 a1_2, .string a1_3, .slice Ao88 y604.length co88] 25 (0, 0))) := ⟨by rw [← hw_]; exact (pl_blk (blk_far (p := ⟨gb631, 4, none⟩) (blk_far (p := ⟨gb631, 3, none⟩) (blk_far (p := ⟨gb631, 2, none⟩) (blk_far (p := ⟨gb631, 1, none⟩) (blk_far (p := ⟨gb631, 0, none⟩) BK594.out NB594_631.out (.int .i64 a1_0)) NB594_631.out (.int .i64 a1_1)) NB594_631.out (.int .i64 a1_2)) NB594_631.out (.string a1_3)) NB594_631.out (.slice A1_4 l1_4.length c1_4)))⟩
             have n7_ : Aside0 (w174.heap[gb613]? = some (.cells #[.int .i64 a1_0, .int .i64 a1_1, .int .i64 a1_2, .string a1_3, .slice Ao164 y628.length co164] 25 (0, 0))) := ⟨by rw [← hw_]; exact (pl_blk (blk_far (p := ⟨gb631, 4, none⟩) (blk_far (p := ⟨gb631, 3, none⟩) (blk_far (p := ⟨gb631, 2, none⟩) (blk_far (p := ⟨gb631, 1, none⟩) (blk_far (p := ⟨gb631, 0, none⟩) BK613.out NB613_631.out (.int .i64 a1_0)) NB613_631.out (.int .i64 a1_1)) NB613_631.out (.int .i64 a1_2)) NB613_631.out (.string a1_3)) NB613_631.out (.slice A1_4 l1_4.length c1_4)))⟩
             have n8_ : Aside0 (w174.heap[gb631]? = some (.cells #[.int .i64 a1_0, .int .i64 a1_1, .int .i64 a1_2, .string a1_3, .slice A1_4 l1_4.length c1_4] 25 (0, 0))) := ⟨by rw [← hw_]; exact (pl_blk (blk_put (blk_put (blk_put (blk_put (blk_put BK631.out 0 (.int .i64 a1_0) rfl) 1 (.int .i64 a1_1) rfl) 2 (.int .i64 a1_2) rfl) 3 (.string a1_3) rfl) 4 (.slice A1_4 l1_4.length c1_4) rfl))⟩
             have n9_ : Aside0 (Below w.heap.size w w174) := ⟨by rw [← hw_]; exact (by repeat (first | (with_reducible first | exact HB.out | apply below_alloc | apply pw_below_drewN | apply below_drew1 | refine below_set ?_ GE631.out) | exact HB.out))⟩
             (try clear HO_581001)
             (try clear HO_595004)
             (try clear HO630)
             (try clear BK580)
             (try clear BK581)
             (try clear BK582)
             (try clear BK594)
             (try clear BK613)
             (try clear BK631)
             (try clear HB)
             clear hw_
             have HO_581001 := n0_
             have HO_595004 := n1_
             have HO630 := n2_
             have BK580 := n3_
             have BK581 := n4_
             have BK582 := n5_
             have BK594 := n6_
             have BK613 := n7_
             have BK631 := n8_
             have HB := n9_
             clear n0_ n1_ n2_ n3_ n4_ n5_ n6_ n7_ n8_ n9_
             replace HO_581001 := Aside0.mk (Kd.V_drew HO_581001.out)
             replace HO_595004 := Aside0.mk (Kd.R_drew HO_595004.out)
             replace HO630 := Aside0.mk (Kd.R_drew HO630.out)
             replace BK580 := Aside0.mk (blk_drew BK580.out)
             replace BK581 := Aside0.mk (blk_drew BK581.out)
             replace BK582 := Aside0.mk (blk_drew BK582.out)
             replace BK594 := Aside0.mk (blk_drew BK594.out)
             replace BK613 := Aside0.mk (blk_drew BK613.out)
             replace BK631 := Aside0.mk (blk_drew BK631.out)
             replace HB := Aside0.mk (below_drew1 HB.out)
             refine start_ (n := 17) (S := fun w' => w'.cell? ⟨gb581, 0, none⟩ = some (.int .i64 a1_0) ∧ w'.cell? ⟨gb581, 1, none⟩ = some (.int .i64 a1_1) ∧ w'.cell? ⟨gb581, 2, none⟩ = some (.int .i64 a1_2) ∧ w'.cell? ⟨gb581, 3, none⟩ = some (.string a1_3) ∧ w'.cell? ⟨gb581, 4, none⟩ = some (.slice A1_4 l1_4.length c1_4) ∧ w'.cell? ⟨gb582, 0, none⟩ = some (.int .i64 a3_0) ∧ w'.cell? ⟨gb582, 1, none⟩ = some (.int .i64 a3_1) ∧ w'.cell? ⟨gb582, 2, none⟩ = some (.string a3_2)) (ds := []) #[false, false, false, false, false, false, false, false, false, false, false, false, false, false, false, false, false] (by kernel_rfl) rfl rfl ⟨(blk_cell BK581.out 0).trans rfl, (blk_cell BK581.out 1).trans rfl, (blk_cell BK581.out 2).trans rfl, (blk_cell BK581.out 3).trans rfl, (blk_cell BK581.out 4).trans rfl, (blk_cell BK582.out 0).trans rfl, (blk_cell BK582.out 1).trans rfl, (blk_cell BK582.out 2).trans rfl⟩ (fun hHeld => ?_); refine with_tabW augurylaw05_EventFits.tab19 augurylaw05_EventFits.bits19 (fun HT_ HW_ => ?_)
             generalize w174.drew = w175 at HO_581001 HO_595004 HO630 BK580 BK581 BK582 BK594 BK613 BK631 HB HO630 hHeld ⊢
             refine pure_ (i := 1) (N := some 106) (v := ?_) (a' := ?_) #[false, true, false, false, false, false, false, false, false, false, false, false, false, false, false, false, false] rfl rfl (any_of HT_.out (by kernel_rfl)) (fun _ _ _ h => h) (Or.inl ⟨by rfl, ?_⟩) ?_ ?_
             rotate_left
             ·intro w'
              go_simp
              with_reducible rfl
             rotate_left
             ·simp only [Act.put, List.setIfInBounds_toArray, List.set_cons_zero, List.set_cons_succ, i64_w, i32_w]
              rfl
             refine pure_ (i := 3) (N := some 108) (v := ?_) (a' := ?_) #[false, true, false, true, false, false, false, false, false, false, false, false, false, false, false, false, false] rfl rfl (any_of HT_.out (by kernel_rfl)) (fun _ _ _ h => h) (Or.inl ⟨by rfl, ?_⟩) ?_ ?_
             rotate_left
             ·intro w'
              go_simp
              with_reducible rfl
             rotate_left
             ·simp only [Act.put, List.setIfInBounds_toArray, List.set_cons_zero, List.set_cons_succ, i64_w, i32_w]
              rfl
             refine pure_ (i := 9) (N := some 114) (v := ?_) (a' := ?_) #[false, true, false, true, false, false, false, false, false, true, false, false, false, false, false, false, false] rfl rfl (any_of HT_.out (by kernel_rfl)) (fun _ _ _ h => h) (Or.inl ⟨by rfl, ?_⟩) ?_ ?_
             rotate_left
             ·intro w'
              go_simp
              with_reducible rfl
             rotate_left
             ·simp only [Act.put, List.setIfInBounds_toArray, List.set_cons_zero, List.set_cons_succ, i64_w, i32_w]
              rfl
             refine pure_ (i := 11) (N := some 116) (v := ?_) (a' := ?_) #[false, true, false, true, false, false, false, false, false, true, false, true, false, false, false, false, false] rfl rfl (any_of HT_.out (by kernel_rfl)) (fun _ _ _ h => h) (Or.inl ⟨by rfl, ?_⟩) ?_ ?_
             rotate_left
             ·intro w'
              go_simp
              with_reducible rfl
             rotate_left
             ·simp only [Act.put, List.setIfInBounds_toArray, List.set_cons_zero, List.set_cons_succ, i64_w, i32_w]
              rfl
             refine pure_ (i := 12) (N := some 117) (v := ?_) (a' := ?_) #[false, true, false, true, false, false, false, false, false, true, false, true, true, false, false, false, false] rfl rfl (any_of HT_.out (by kernel_rfl)) (fun _ _ _ h => h) (Or.inl ⟨by rfl, ?_⟩) ?_ ?_
             rotate_left
             ·intro w'
              go_simp
              with_reducible rfl
             rotate_left
             ·simp only [Act.put, List.setIfInBounds_toArray, List.set_cons_zero, List.set_cons_succ, i64_w, i32_w]
              rfl
             refine take_ (i := 2) (N := some 107) (v := ?_) (a' := ?_) #[false, true, true, true, false, false, false, false, false, true, false, true, true, false, false, false, false] rfl rfl (take_ofW HT_.out HW_.out (by kernel_rfl)) (fun _ _ _ h => h) (Or.inl ⟨by rfl, ?_⟩) hHeld ?_ ?_
             rotate_left
             ·rintro w' ⟨s0, s1, s2, s3, s4, s5, s6, s7⟩
              go_simp
              with_reducible rfl
             rotate_left
             ·simp only [Act.put, List.setIfInBounds_toArray, List.set_cons_zero, List.set_cons_succ, i64_w, i32_w]
              rfl
             refine pure_ (i := 4) (N := some 109) (v := ?_) (a' := ?_) #[false, true, true, true, true, false, false, false, false, true, false, true, true, false, false, false, false] rfl rfl (any_of HT_.out (by kernel_rfl)) (fun _ _ _ h => h) (Or.inl ⟨by rfl, ?_⟩) ?_ ?_
             rotate_left
             ·intro w'
              go_simp
              with_reducible rfl
             rotate_left
             ·simp only [Act.put, List.setIfInBounds_toArray, List.set_cons_zero, List.set_cons_succ, i64_w, i32_w]
              rfl
             refine take_ (i := 6) (N := some 111) (v := ?_) (a' := ?_) #[false, true, true, true, true, false, true, false, false, true, false, true, true, false, false, false, false] rfl rfl (take_ofW HT_.out HW_.out (by kernel_rfl)) (fun _ _ _ h => h) (Or.inl ⟨by rfl, ?_⟩) hHeld ?_ ?_
             rotate_left
             ·rintro w' ⟨s0, s1, s2, s3, s4, s5, s6, s7⟩
              go_simp
              with_reducible rfl
             rotate_left
             ·simp only [Act.put, List.setIfInBounds_toArray, List.set_cons_zero, List.set_cons_succ, i64_w, i32_w]
              rfl
             refine take_ (i := 10) (N := some 115) (v := ?_) (a' := ?_) #[false, true, true, true, true, false, true, false, false, true, true, true, true, false, false, false, false] rfl rfl (take_ofW HT_.out HW_.out (by kernel_rfl)) (fun _ _ _ h => h) (Or.inl ⟨by rfl, ?_⟩) hHeld ?_ ?_
             rotate_left
             ·rintro w' ⟨s0, s1, s2, s3, s4, s5, s6, s7⟩
              go_simp
              with_reducible rfl
             rotate_left
             ·simp only [Act.put, List.setIfInBounds_toArray, List.set_cons_zero, List.set_cons_succ, i64_w, i32_w]
              rfl
             refine pure_ (i := 13) (N := some 118) (v := ?_) (a' := ?_) #[false, true, true, true, true, false, true, false, false, true, true, true, true, true, false, false, false] rfl rfl (any_of HT_.out (by kernel_rfl)) (fun _ _ _ h => h) (Or.inl ⟨by rfl, ?_⟩) ?_ ?_
             rotate_left
             ·intro w'
              go_simp
              with_reducible rfl
             rotate_left
             ·simp only [Act.put, List.setIfInBounds_toArray, List.set_cons_zero, List.set_cons_succ, i64_w, i32_w]
              rfl
             refine join_ (σ := Value × Value × Value) 4 #[true, true, true, true, true, true, true, true, false, true, true, true, true, true, false, false, false] (fun s_ => [(105, s_.1), (110, s_.2.1), (112, s_.2.2)]) (fun s_ w' => (w'.cell? ⟨gb581, 0, none⟩ = some (.int .i64 a1_0) ∧ w'.cell? ⟨gb581, 1, none⟩ = some (.int .i64 a1_1) ∧ w'.cell? ⟨gb581, 2, none⟩ = some (.int .i64 a1_2) ∧ w'.cell? ⟨gb581, 3, none⟩ = some (.string a1_3) ∧ w'.cell? ⟨gb581, 4, none⟩ = some (.slice A1_4 l1_4.length c1_4) ∧ w'.cell? ⟨gb582, 0, none⟩ = some (.int .i64 a3_0) ∧ w'.cell? ⟨gb582, 1, none⟩ = some (.int .i64 a3_1) ∧ w'.cell? ⟨gb582, 2, none⟩ = some (.string a3_2)) ∧ (Kd.R k52 52 w' w.heap.size (fun k_ => (w.heap.size ≤ k_) ∧ some k_ ≠ (s_.2.1 : Value).ownBlock ∧ some k_ ≠ (s_.2.2 : Value).ownBlock ∧ some k_ ≠ (.slice Ao88 y604.length co88 : Value).ownBlock ∧ k_ ≠ gb582) (.slice Ao164 y628.length co164) y628) ∧ (Kd.R k52 52 w' w.heap.size (fun k_ => (w.heap.size ≤ k_) ∧ some k_ ≠ (.slice Ao164 y628.length co164 : Value).ownBlock ∧ some k_ ≠ (s_.2.2 : Value).ownBlock ∧ some k_ ≠ (.slice Ao88 y604.length co88 : Value).ownBlock ∧ k_ ≠ gb582) s_.2.1 y639) ∧ (Kd.R k52 52 w' w.heap.size (fun k_ => (w.heap.size ≤ k_) ∧ some k_ ≠ (.slice Ao164 y628.length co164 : Value).ownBlock ∧ some k_ ≠ (s_.2.1 : Value).ownBlock ∧ some k_ ≠ (.slice Ao88 y604.length co88 : Value).ownBlock ∧ k_ ≠ gb582) s_.2.2 y642) ∧ (Kd.V k55 55 w' w.heap.size (fun k_ => (P0_1_ k_ ∨ w.heap.size ≤ k_) ∧ some k_ ≠ (.slice Ao164 y628.length co164 : Value).ownBlock ∧ some k_ ≠ (s_.2.1 : Value).ownBlock ∧ some k_ ≠ (s_.2.2 : Value).ownBlock ∧ some k_ ≠ (.slice Ao88 y604.length co88 : Value).ownBlock ∧ k_ ≠ gb580 ∧ k_ ≠ gb581 ∧ k_ ≠ gb582 ∧ k_ ≠ gb594 ∧ k_ ≠ gb613 ∧ k_ ≠ gb631) (.slice A0_1 l0_1.length c0_1) l0_1) ∧ (Kd.R k52 52 w' w.heap.size (fun k_ => (w.heap.size ≤ k_) ∧ some k_ ≠ (.slice Ao164 y628.length co164 : Value).ownBlock ∧ some k_ ≠ (s_.2.1 : Value).ownBlock ∧ some k_ ≠ (s_.2.2 : Value).ownBlock ∧ k_ ≠ gb582) (.slice Ao88 y604.length co88) y604) ∧ (w'.heap[gb580]? = some (.cells #[.string a0_0, .slice A0_1 l0_1.length c0_1] 31 (0, 0))) ∧ (w'.heap[gb581]? = some (.cells #[.int .i64 a1_0, .int .i64 a1_1, .int .i64 a1_2, .string a1_3, .slice A1_4 l1_4.length c1_4] 25 (0, 0))) ∧ (w'.heap[gb582]? = some (.cells #[.int .i64 a3_0, .int .i64 a3_1, .string a3_2] 52 (0, 0))) ∧ (w'.heap[gb594]? = some (.cells #[.int .i64 a1_0, .int .i64 a1_1, .int .i64 a1_2, .string a1_3, .slice Ao88 y604.length co88] 25 (0, 0))) ∧ (w'.heap[gb613]? = some (.cells #[.int .i64 a1_0, .int .i64 a1_1, .int .i64 a1_2, .string a1_3, .slice Ao164 y628.length co164] 25 (0, 0))) ∧ (w'.heap[gb631]? = some (.cells #[.int .i64 a1_0, .int .i64 a1_1, .int .i64 a1_2, .string a1_3, .slice A1_4 l1_4.length c1_4] 25 (0, 0))) ∧ (Below w.heap.size w w')) ?_ ?_
             rotate_left
             ·intro hCont
              refine two_ (i := 0) (j := 7) (Ni := some 105) (Nj := some 112) #[true, true, true, true, true, false, true, false, false, true, true, true, true, true, false, false, false] #[false, true, true, true, true, false, true, true, false, true, true, true, true, true, false, false, false] rfl rfl rfl rfl (two_of HT_.out (by kernel_rfl)) (by decide) (by decide) (fun K hK => ?_) (fun K hK => ?_)
              ·skip
               refine Kd.R_lit_step k52 _ 52 ?hg (N := 105) ?hd (xs := ([] : List (S52))) (inner := []) (ok := fun _ => True) (okp := fun _ => True) ?hr ?hp (fun _ hk => hk) trivial (Below.refl _ _) (Nat.le_refl _) (by simp) ?_; (case hd => rfl); (case hg => rfl); (case hr => first | (go_simp; done) | (go_simp; rfl)); (case hp => exact (Reps.none _ _))
               intro v633 w176 ho177 hb hg_ hnew_
               clear hg_ hnew_
               (first | rw [← Ny632.out] at ho177 | (simp only [Int.reduceToNat] at ho177; rw [← Ny632.out] at ho177))
               replace HO_581001 := Aside0.mk (Kd.V_elder' (Kd.pl_V HO_581001.out) (Kd.R_base ho177) hb)
               have HO634 := Aside0.mk (Kd.R_lower (Kd.R_newB (Kd.R_new' (Kd.R_new' (Kd.R_newM (M := fun k_ => (w.heap.size ≤ k_)) ho177 (below_size (pl_below HB.out)) (fun k_ h_ => h_)) (Kd.R_lt (Kd.pl_R HO_595004.out))) (Kd.R_lt (Kd.pl_R HO630.out))) (pl_blk BK582.out)) (below_size (pl_below HB.out)))
               replace HO_595004 := Aside0.mk (Kd.R_elder' (Kd.pl_R HO_595004.out) (Kd.R_base ho177) hb)
               replace HO630 := Aside0.mk (Kd.R_elder' (Kd.pl_R HO630.out) (Kd.R_base ho177) hb)
               replace BK580 := bb BK580 hb
               replace BK581 := bb BK581 hb
               replace BK582 := bb BK582 hb
               replace BK594 := bb BK594 hb
               replace BK613 := bb BK613 hb
               replace BK631 := bb BK631 hb
               replace HB := hB HB hb
               clear hb ho177
               refine hK.out _ _ ⟨(blk_cell BK581.out 0).trans rfl, (blk_cell BK581.out 1).trans rfl, (blk_cell BK581.out 2).trans rfl, (blk_cell BK581.out 3).trans rfl, (blk_cell BK581.out 4).trans rfl, (blk_cell BK582.out 0).trans rfl, (blk_cell BK582.out 1).trans rfl, (blk_cell BK582.out 2).trans rfl⟩ (fun hHeld => ?_)
               clear hK K
               refine norm_ (a' := ?_) ?_ ?_
               rotate_left
               ·show Act.put _ (some 105) _ = _
                simp only [Act.put, List.setIfInBounds_toArray, List.set_cons_zero, List.set_cons_succ, i64_w, i32_w]
                rfl
               refine two_ (i := 5) (j := 7) (Ni := some 110) (Nj := some 112) #[true, true, true, true, true, true, true, false, false, true, true, true, true, true, false, false, false] #[true, true, true, true, true, false, true, true, false, true, true, true, true, true, false, false, false] rfl rfl rfl rfl (two_of HT_.out (by kernel_rfl)) (by decide) (by decide) (fun K hK => ?_) (fun K hK => ?_)
               ·skip
                refine Kd.R_append_rows_step k52 (w0 := w) w.heap.size (by rfl) (.tmp 105) (.tmp 109) 23 52 (.agg #[(.int .i64 0), (.int .i64 0), (.string ⟨#[]⟩)]) 32 rfl Try.underlying23 info52 rfl (by decide) (by omega) v633 y632 y617 _ _ _ (fun k_ => (w.heap.size ≤ k_) ∧ some k_ ≠ (.slice Ao88 y604.length co88 : Value).ownBlock ∧ some k_ ≠ (.slice Ao164 y628.length co164 : Value).ownBlock ∧ k_ ≠ gb582) (fun _ => False) rfl rfl ?aO ?aR (fun _ _ h => h) (fun _ h => h.elim) ?aF ?aB ?aS ?aL ?_
                (case aR => repeat (first | exact (Kd.C_below HR620.out HB.out) | (with_reducible refine Kd.C_alloc ?_ _) | (with_reducible refine Kd.C_drewN ?_ _) | (with_reducible refine Kd.C_drew ?_)))
                (case aB => exact (pl_below HB.out))
                (case aF => exact (fun k_ hk => ⟨(Nat.le_trans (below_size (pl_below HB.out)) hk), Kd.fresh' (Kd.R_lt (Kd.pl_R HO_595004.out)) k_ hk, Kd.fresh' (Kd.R_lt (Kd.pl_R HO630.out)) k_ hk, Kd.freshB (g := gb582) (o := .cells #[.int .i64 a3_0, .int .i64 a3_1, .string a3_2] 52 (0, 0)) (pl_blk BK582.out) k_ hk⟩))
                (case aO => exact (by (with_reducible repeat (first | apply Kd.R_alloc | apply Kd.R_drewN | apply Kd.R_drew)); exact Kd.R_mono HO634.out (fun _ hk => ⟨hk.1.1.1.1, ⟨hk.1.1.2, ⟨hk.1.2, hk.2⟩⟩⟩)))
                (case aS => exact (below_size (pl_below HB.out)))
                (case aL => have := LMc137.out; omega)
                intro v640 w178 ho hb hg hat
                rw [← Ny639.out] at ho
                replace HO_581001 := Aside0.mk (Kd.V_afterv (ok := (fun k_ => (P0_1_ k_ ∨ w.heap.size ≤ k_) ∧ some k_ ≠ (.slice Ao88 y604.length co88 : Value).ownBlock ∧ some k_ ≠ (.slice Ao164 y628.length co164 : Value).ownBlock ∧ k_ ≠ gb580 ∧ k_ ≠ gb581 ∧ k_ ≠ gb582 ∧ k_ ≠ gb594 ∧ k_ ≠ gb613 ∧ k_ ≠ gb631)) (Kd.pl_V HO_581001.out) hg hat)
                replace HO_595004 := Aside0.mk (Kd.R_after (ok := (fun k_ => (w.heap.size ≤ k_) ∧ some k_ ≠ (.slice Ao164 y628.length co164 : Value).ownBlock ∧ k_ ≠ gb582)) (Kd.pl_R HO_595004.out) hg hat)
                replace BK580 := Aside0.mk (blk_grown (pl_blk BK580.out) hg (Kd.R_ne HO634.out BK580.out (by decide)))
                replace BK581 := Aside0.mk (blk_grown (pl_blk BK581.out) hg (Kd.R_ne HO634.out BK581.out (by decide)))
                replace BK582 := Aside0.mk (blk_grown (pl_blk BK582.out) hg (Kd.R_away HO634.out (fun _ hk => hk.2)))
                replace BK594 := Aside0.mk (blk_grown (pl_blk BK594.out) hg (Kd.R_ne HO634.out BK594.out (by decide)))
                replace BK613 := Aside0.mk (blk_grown (pl_blk BK613.out) hg (Kd.R_ne HO634.out BK613.out (by decide)))
                replace HO630 := Aside0.mk (Kd.R_after (ok := (fun k_ => (w.heap.size ≤ k_) ∧ some k_ ≠ (.slice Ao88 y604.length co88 : Value).ownBlock ∧ k_ ≠ gb582)) (Kd.pl_R HO630.out) hg hat)
                replace BK631 := Aside0.mk (blk_grown (pl_blk BK631.out) hg (Kd.R_ne HO634.out BK631.out (by decide)))
                replace HB := Aside0.mk (hb)
                have HO641 := Aside0.mk (ho)
                clear HO634
                clear ho hb hg hat
                refine hK.out _ _ ⟨(blk_cell BK581.out 0).trans rfl, (blk_cell BK581.out 1).trans rfl, (blk_cell BK581.out 2).trans rfl, (blk_cell BK581.out 3).trans rfl, (blk_cell BK581.out 4).trans rfl, (blk_cell BK582.out 0).trans rfl, (blk_cell BK582.out 1).trans rfl, (blk_cell BK582.out 2).trans rfl⟩ (fun hHeld => ?_)
                clear hK K
                refine norm_ (a' := ?_) ?_ ?_
                rotate_left
                ·show Act.put _ (some 110) _ = _
                 simp only [Act.put, List.setIfInBounds_toArray, List.set_cons_zero, List.set_cons_succ, i64_w, i32_w]
                 rfl
                refine one_ (i := 7) (N := some 112) #[true, true, true, true, true, true, true, true, false, true, true, true, true, true, false, false, false] rfl rfl (one_of HT_.out (by kernel_rfl)) (by decide) (fun K hK => ?_)
                refine Kd.R_lit_step k52 _ 52 ?hg (N := 112) ?hd (xs := ([(⟨a3_0, a3_1, a3_2⟩ : S52)] : List (S52))) (inner := [.int .i64 a3_0, .int .i64 a3_1, .string a3_2]) (ok := fun _ => True) (okp := fun _ => True) ?hr ?hp (fun _ hk => hk) trivial (Below.refl _ _) (Nat.le_refl _) (by simp) ?_; (case hd => rfl); (case hg => rfl); (case hr => first | (go_simp; done) | (go_simp; rfl)); (case hp => exact (Reps.c3 (show Kd.M k52 _ _ _ (⟨a3_0, a3_1, a3_2⟩ : S52) [.int .i64 a3_0, .int .i64 a3_1, .string a3_2] from (k52_mkM _ _ _ (⟨a3_0, a3_1, a3_2⟩ : S52) )) (Reps.none _ _)))
                intro v643 w179 ho180 hb hg_ hnew_
                clear hg_ hnew_
                (first | rw [← Ny642.out] at ho180 | (simp only [Int.reduceToNat] at ho180; rw [← Ny642.out] at ho180))
                replace HO_581001 := Aside0.mk (Kd.V_elder' (Kd.pl_V HO_581001.out) (Kd.R_base ho180) hb)
                have HO644 := Aside0.mk (Kd.R_lower (Kd.R_newB (Kd.R_new' (Kd.R_new' (Kd.R_new' (Kd.R_newM (M := fun k_ => (w.heap.size ≤ k_)) ho180 (below_size (pl_below HB.out)) (fun k_ h_ => h_)) (Kd.R_lt (Kd.pl_R HO_595004.out))) (Kd.R_lt (Kd.pl_R HO630.out))) (Kd.R_lt (Kd.pl_R HO641.out))) (pl_blk BK582.out)) (below_size (pl_below HB.out)))
                replace HO_595004 := Aside0.mk (Kd.R_elder' (Kd.pl_R HO_595004.out) (Kd.R_base ho180) hb)
                replace HO630 := Aside0.mk (Kd.R_elder' (Kd.pl_R HO630.out) (Kd.R_base ho180) hb)
                replace HO641 := Aside0.mk (Kd.R_elder' (Kd.pl_R HO641.out) (Kd.R_base ho180) hb)
                replace BK580 := bb BK580 hb
                replace BK581 := bb BK581 hb
                replace BK582 := bb BK582 hb
                replace BK594 := bb BK594 hb
                replace BK613 := bb BK613 hb
                replace BK631 := bb BK631 hb
                replace HB := hB HB hb
                clear hb ho180
                refine hK.out _ _ ⟨(blk_cell BK581.out 0).trans rfl, (blk_cell BK581.out 1).trans rfl, (blk_cell BK581.out 2).trans rfl, (blk_cell BK581.out 3).trans rfl, (blk_cell BK581.out 4).trans rfl, (blk_cell BK582.out 0).trans rfl, (blk_cell BK582.out 1).trans rfl, (blk_cell BK582.out 2).trans rfl⟩ (fun hHeld => ?_)
                clear hK K
                refine norm_ (a' := ?_) ?_ ?_
                rotate_left
                ·show Act.put _ (some 112) _ = _
                 simp only [Act.put, List.setIfInBounds_toArray, List.set_cons_zero, List.set_cons_succ, i64_w, i32_w]
                 rfl
                exact norm_ (by simp only [putAll, Act.put, List.setIfInBounds_toArray, List.set_cons_zero, List.set_cons_succ]) (hCont (v633, v640, v643) _ ⟨hHeld, (by (with_reducible repeat (first | apply Kd.R_alloc | apply Kd.R_drewN | apply Kd.R_drew)); exact Kd.R_mono HO630.out (fun _ hk => ⟨hk.1.1.1, ⟨hk.1.2, ⟨hk.2, ⟨hk.1.1.2.1, hk.1.1.2.2⟩⟩⟩⟩)), (by (with_reducible repeat (first | apply Kd.R_alloc | apply Kd.R_drewN | apply Kd.R_drew)); exact Kd.R_mono HO641.out (fun _ hk => ⟨hk.1.1, ⟨hk.1.2.2.1, ⟨hk.2, ⟨hk.1.2.1, hk.1.2.2.2⟩⟩⟩⟩)), (by (with_reducible repeat (first | apply Kd.R_alloc | apply Kd.R_drewN | apply Kd.R_drew)); exact Kd.R_mono HO644.out (fun _ hk => ⟨hk.1.1.1.1.1, ⟨hk.1.1.2, ⟨hk.1.2, ⟨hk.1.1.1.2, hk.2⟩⟩⟩⟩)), (by (with_reducible repeat (first | apply Kd.V_alloc | apply Kd.V_drewN | apply Kd.V_drew)); exact Kd.V_mono HO_581001.out (fun _ hk => ⟨hk.1.1.1, ⟨hk.1.1.2.2.1, ⟨hk.1.2, ⟨hk.2, ⟨hk.1.1.2.1, ⟨hk.1.1.2.2.2.1, ⟨hk.1.1.2.2.2.2.1, ⟨hk.1.1.2.2.2.2.2.1, ⟨hk.1.1.2.2.2.2.2.2.1, ⟨hk.1.1.2.2.2.2.2.2.2.1, hk.1.1.2.2.2.2.2.2.2.2⟩⟩⟩⟩⟩⟩⟩⟩⟩⟩)), (by (with_reducible repeat (first | apply Kd.R_alloc | apply Kd.R_drewN | apply Kd.R_drew)); exact Kd.R_mono HO_595004.out (fun _ hk => ⟨hk.1.1.1, ⟨hk.1.1.2.1, ⟨hk.1.2, ⟨hk.2, hk.1.1.2.2⟩⟩⟩⟩)), (pl_blk BK580.out), (pl_blk BK581.out), (pl_blk BK582.out), (pl_blk BK594.out), (pl_blk BK613.out), (pl_blk BK631.out), (pl_below HB.out)⟩)
               ·skip
                refine Kd.R_lit_step k52 _ 52 ?hg (N := 112) ?hd (xs := ([(⟨a3_0, a3_1, a3_2⟩ : S52)] : List (S52))) (inner := [.int .i64 a3_0, .int .i64 a3_1, .string a3_2]) (ok := fun _ => True) (okp := fun _ => True) ?hr ?hp (fun _ hk => hk) trivial (Below.refl _ _) (Nat.le_refl _) (by simp) ?_; (case hd => rfl); (case hg => rfl); (case hr => first | (go_simp; done) | (go_simp; rfl)); (case hp => exact (Reps.c3 (show Kd.M k52 _ _ _ (⟨a3_0, a3_1, a3_2⟩ : S52) [.int .i64 a3_0, .int .i64 a3_1, .string a3_2] from (k52_mkM _ _ _ (⟨a3_0, a3_1, a3_2⟩ : S52) )) (Reps.none _ _)))
                intro v643 w178 ho179 hb hg_ hnew_
                clear hg_ hnew_
                (first | rw [← Ny642.out] at ho179 | (simp only [Int.reduceToNat] at ho179; rw [← Ny642.out] at ho179))
                replace HO_581001 := Aside0.mk (Kd.V_elder' (Kd.pl_V HO_581001.out) (Kd.R_base ho179) hb)
                have HO644 := Aside0.mk (Kd.R_lower (Kd.R_newB (Kd.R_new' (Kd.R_new' (Kd.R_new' (Kd.R_newM (M := fun k_ => (w.heap.size ≤ k_)) ho179 (below_size (pl_below HB.out)) (fun k_ h_ => h_)) (Kd.R_lt (Kd.pl_R HO_595004.out))) (Kd.R_lt (Kd.pl_R HO630.out))) (Kd.R_lt (Kd.pl_R HO634.out))) (pl_blk BK582.out)) (below_size (pl_below HB.out)))
                replace HO_595004 := Aside0.mk (Kd.R_elder' (Kd.pl_R HO_595004.out) (Kd.R_base ho179) hb)
                replace HO630 := Aside0.mk (Kd.R_elder' (Kd.pl_R HO630.out) (Kd.R_base ho179) hb)
                replace HO634 := Aside0.mk (Kd.R_elder' (Kd.pl_R HO634.out) (Kd.R_base ho179) hb)
                replace BK580 := bb BK580 hb
                replace BK581 := bb BK581 hb
                replace BK582 := bb BK582 hb
                replace BK594 := bb BK594 hb
                replace BK613 := bb BK613 hb
                replace BK631 := bb BK631 hb
                replace HB := hB HB hb
                clear hb ho179
                refine hK.out _ _ ⟨(blk_cell BK581.out 0).trans rfl, (blk_cell BK581.out 1).trans rfl, (blk_cell BK581.out 2).trans rfl, (blk_cell BK581.out 3).trans rfl, (blk_cell BK581.out 4).trans rfl, (blk_cell BK582.out 0).trans rfl, (blk_cell BK582.out 1).trans rfl, (blk_cell BK582.out 2).trans rfl⟩ (fun hHeld => ?_)
                clear hK K
                refine norm_ (a' := ?_) ?_ ?_
                rotate_left
                ·show Act.put _ (some 112) _ = _
                 simp only [Act.put, List.setIfInBounds_toArray, List.set_cons_zero, List.set_cons_succ, i64_w, i32_w]
                 rfl
                refine one_ (i := 5) (N := some 110) #[true, true, true, true, true, true, true, true, false, true, true, true, true, true, false, false, false] rfl rfl (one_of HT_.out (by kernel_rfl)) (by decide) (fun K hK => ?_)
                refine Kd.R_append_rows_step k52 (w0 := w) w.heap.size (by rfl) (.tmp 105) (.tmp 109) 23 52 (.agg #[(.int .i64 0), (.int .i64 0), (.string ⟨#[]⟩)]) 32 rfl Try.underlying23 info52 rfl (by decide) (by omega) v633 y632 y617 _ _ _ (fun k_ => (w.heap.size ≤ k_) ∧ some k_ ≠ (.slice Ao88 y604.length co88 : Value).ownBlock ∧ some k_ ≠ (.slice Ao164 y628.length co164 : Value).ownBlock ∧ some k_ ≠ (v643 : Value).ownBlock ∧ k_ ≠ gb582) (fun _ => False) rfl rfl ?aO ?aR (fun _ _ h => h) (fun _ h => h.elim) ?aF ?aB ?aS ?aL ?_
                (case aR => repeat (first | exact (Kd.C_below HR620.out HB.out) | (with_reducible refine Kd.C_alloc ?_ _) | (with_reducible refine Kd.C_drewN ?_ _) | (with_reducible refine Kd.C_drew ?_)))
                (case aB => exact (pl_below HB.out))
                (case aF => exact (fun k_ hk => ⟨(Nat.le_trans (below_size (pl_below HB.out)) hk), Kd.fresh' (Kd.R_lt (Kd.pl_R HO_595004.out)) k_ hk, Kd.fresh' (Kd.R_lt (Kd.pl_R HO630.out)) k_ hk, Kd.fresh' (Kd.R_lt (Kd.pl_R HO644.out)) k_ hk, Kd.freshB (g := gb582) (o := .cells #[.int .i64 a3_0, .int .i64 a3_1, .string a3_2] 52 (0, 0)) (pl_blk BK582.out) k_ hk⟩))
                (case aO => exact (by (with_reducible repeat (first | apply Kd.R_alloc | apply Kd.R_drewN | apply Kd.R_drew)); exact Kd.R_mono HO634.out (fun _ hk => ⟨hk.1.1.1.1.1, ⟨hk.1.1.1.2, ⟨hk.1.1.2, ⟨hk.2, hk.1.2⟩⟩⟩⟩)))
                (case aS => exact (below_size (pl_below HB.out)))
                (case aL => have := LMc137.out; omega)
                intro v640 w180 ho hb hg hat
                rw [← Ny639.out] at ho
                replace HO_581001 := Aside0.mk (Kd.V_afterv (ok := (fun k_ => (P0_1_ k_ ∨ w.heap.size ≤ k_) ∧ some k_ ≠ (.slice Ao88 y604.length co88 : Value).ownBlock ∧ some k_ ≠ (.slice Ao164 y628.length co164 : Value).ownBlock ∧ some k_ ≠ (v643 : Value).ownBlock ∧ k_ ≠ gb580 ∧ k_ ≠ gb581 ∧ k_ ≠ gb582 ∧ k_ ≠ gb594 ∧ k_ ≠ gb613 ∧ k_ ≠ gb631)) (by (with_reducible repeat (first | apply Kd.V_alloc | apply Kd.V_drewN | apply Kd.V_drew)); exact Kd.V_mono HO_581001.out (fun _ hk => ⟨⟨hk.1.1.1, ⟨hk.1.1.2.1, ⟨hk.1.1.2.2.1, ⟨hk.2, ⟨hk.1.1.2.2.2.1, ⟨hk.1.1.2.2.2.2.1, ⟨hk.1.1.2.2.2.2.2.1, ⟨hk.1.1.2.2.2.2.2.2.1, ⟨hk.1.1.2.2.2.2.2.2.2.1, hk.1.1.2.2.2.2.2.2.2.2⟩⟩⟩⟩⟩⟩⟩⟩⟩, hk.1.2⟩)) hg hat)
                replace HO_595004 := Aside0.mk (Kd.R_after (ok := (fun k_ => (w.heap.size ≤ k_) ∧ some k_ ≠ (.slice Ao164 y628.length co164 : Value).ownBlock ∧ some k_ ≠ (v643 : Value).ownBlock ∧ k_ ≠ gb582)) (by (with_reducible repeat (first | apply Kd.R_alloc | apply Kd.R_drewN | apply Kd.R_drew)); exact Kd.R_mono HO_595004.out (fun _ hk => ⟨⟨hk.1.1.1, ⟨hk.1.1.2.1, ⟨hk.2, hk.1.1.2.2⟩⟩⟩, hk.1.2⟩)) hg hat)
                replace BK580 := Aside0.mk (blk_grown (pl_blk BK580.out) hg (Kd.R_ne HO634.out BK580.out (by decide)))
                replace BK581 := Aside0.mk (blk_grown (pl_blk BK581.out) hg (Kd.R_ne HO634.out BK581.out (by decide)))
                replace BK582 := Aside0.mk (blk_grown (pl_blk BK582.out) hg (Kd.R_away HO634.out (fun _ hk => hk.1.2)))
                replace BK594 := Aside0.mk (blk_grown (pl_blk BK594.out) hg (Kd.R_ne HO634.out BK594.out (by decide)))
                replace BK613 := Aside0.mk (blk_grown (pl_blk BK613.out) hg (Kd.R_ne HO634.out BK613.out (by decide)))
                replace HO630 := Aside0.mk (Kd.R_after (ok := (fun k_ => (w.heap.size ≤ k_) ∧ some k_ ≠ (.slice Ao88 y604.length co88 : Value).ownBlock ∧ some k_ ≠ (v643 : Value).ownBlock ∧ k_ ≠ gb582)) (by (with_reducible repeat (first | apply Kd.R_alloc | apply Kd.R_drewN | apply Kd.R_drew)); exact Kd.R_mono HO630.out (fun _ hk => ⟨⟨hk.1.1.1, ⟨hk.1.1.2.1, ⟨hk.2, hk.1.1.2.2⟩⟩⟩, hk.1.2⟩)) hg hat)
                replace BK631 := Aside0.mk (blk_grown (pl_blk BK631.out) hg (Kd.R_ne HO634.out BK631.out (by decide)))
                replace HO644 := Aside0.mk (Kd.R_after (ok := (fun k_ => (w.heap.size ≤ k_) ∧ some k_ ≠ (.slice Ao88 y604.length co88 : Value).ownBlock ∧ some k_ ≠ (.slice Ao164 y628.length co164 : Value).ownBlock ∧ k_ ≠ gb582)) (by (with_reducible repeat (first | apply Kd.R_alloc | apply Kd.R_drewN | apply Kd.R_drew)); exact Kd.R_mono HO644.out (fun _ hk => ⟨⟨hk.1.1.1.1.1, ⟨hk.1.1.1.2, ⟨hk.1.1.2, hk.2⟩⟩⟩, hk.1.2⟩)) hg hat)
                replace HB := Aside0.mk (hb)
                have HO641 := Aside0.mk (ho)
                clear HO634
                clear ho hb hg hat
                refine hK.out _ _ ⟨(blk_cell BK581.out 0).trans rfl, (blk_cell BK581.out 1).trans rfl, (blk_cell BK581.out 2).trans rfl, (blk_cell BK581.out 3).trans rfl, (blk_cell BK581.out 4).trans rfl, (blk_cell BK582.out 0).trans rfl, (blk_cell BK582.out 1).trans rfl, (blk_cell BK582.out 2).trans rfl⟩ (fun hHeld => ?_)
                clear hK K
                refine norm_ (a' := ?_) ?_ ?_
                rotate_left
                ·show Act.put _ (some 110) _ = _
                 simp only [Act.put, List.setIfInBounds_toArray, List.set_cons_zero, List.set_cons_succ, i64_w, i32_w]
                 rfl
                exact norm_ (by simp only [putAll, Act.put, List.setIfInBounds_toArray, List.set_cons_zero, List.set_cons_succ]) (hCont (v633, v640, v643) _ ⟨hHeld, (by (with_reducible repeat (first | apply Kd.R_alloc | apply Kd.R_drewN | apply Kd.R_drew)); exact Kd.R_mono HO630.out (fun _ hk => ⟨hk.1.1, ⟨hk.2, ⟨hk.1.2.2.1, ⟨hk.1.2.1, hk.1.2.2.2⟩⟩⟩⟩)), (by (with_reducible repeat (first | apply Kd.R_alloc | apply Kd.R_drewN | apply Kd.R_drew)); exact Kd.R_mono HO641.out (fun _ hk => ⟨hk.1, ⟨hk.2.2.1, ⟨hk.2.2.2.1, ⟨hk.2.1, hk.2.2.2.2⟩⟩⟩⟩)), (by (with_reducible repeat (first | apply Kd.R_alloc | apply Kd.R_drewN | apply Kd.R_drew)); exact Kd.R_mono HO644.out (fun _ hk => ⟨hk.1.1, ⟨hk.1.2.2.1, ⟨hk.2, ⟨hk.1.2.1, hk.1.2.2.2⟩⟩⟩⟩)), (by (with_reducible repeat (first | apply Kd.V_alloc | apply Kd.V_drewN | apply Kd.V_drew)); exact Kd.V_mono HO_581001.out (fun _ hk => ⟨hk.1.1, ⟨hk.1.2.2.1, ⟨hk.2, ⟨hk.1.2.2.2.1, ⟨hk.1.2.1, ⟨hk.1.2.2.2.2.1, ⟨hk.1.2.2.2.2.2.1, ⟨hk.1.2.2.2.2.2.2.1, ⟨hk.1.2.2.2.2.2.2.2.1, ⟨hk.1.2.2.2.2.2.2.2.2.1, hk.1.2.2.2.2.2.2.2.2.2⟩⟩⟩⟩⟩⟩⟩⟩⟩⟩)), (by (with_reducible repeat (first | apply Kd.R_alloc | apply Kd.R_drewN | apply Kd.R_drew)); exact Kd.R_mono HO_595004.out (fun _ hk => ⟨hk.1.1, ⟨hk.1.2.1, ⟨hk.2, ⟨hk.1.2.2.1, hk.1.2.2.2⟩⟩⟩⟩)), (pl_blk BK580.out), (pl_blk BK581.out), (pl_blk BK582.out), (pl_blk BK594.out), (pl_blk BK613.out), (pl_blk BK631.out), (pl_below HB.out)⟩)
              ·skip
               refine Kd.R_lit_step k52 _ 52 ?hg (N := 112) ?hd (xs := ([(⟨a3_0, a3_1, a3_2⟩ : S52)] : List (S52))) (inner := [.int .i64 a3_0, .int .i64 a3_1, .string a3_2]) (ok := fun _ => True) (okp := fun _ => True) ?hr ?hp (fun _ hk => hk) trivial (Below.refl _ _) (Nat.le_refl _) (by simp) ?_; (case hd => rfl); (case hg => rfl); (case hr => first | (go_simp; done) | (go_simp; rfl)); (case hp => exact (Reps.c3 (show Kd.M k52 _ _ _ (⟨a3_0, a3_1, a3_2⟩ : S52) [.int .i64 a3_0, .int .i64 a3_1, .string a3_2] from (k52_mkM _ _ _ (⟨a3_0, a3_1, a3_2⟩ : S52) )) (Reps.none _ _)))
               intro v643 w176 ho177 hb hg_ hnew_
               clear hg_ hnew_
               (first | rw [← Ny642.out] at ho177 | (simp only [Int.reduceToNat] at ho177; rw [← Ny642.out] at ho177))
               replace HO_581001 := Aside0.mk (Kd.V_elder' (Kd.pl_V HO_581001.out) (Kd.R_base ho177) hb)
               have HO644 := Aside0.mk (Kd.R_lower (Kd.R_newB (Kd.R_new' (Kd.R_new' (Kd.R_newM (M := fun k_ => (w.heap.size ≤ k_)) ho177 (below_size (pl_below HB.out)) (fun k_ h_ => h_)) (Kd.R_lt (Kd.pl_R HO_595004.out))) (Kd.R_lt (Kd.pl_R HO630.out))) (pl_blk BK582.out)) (below_size (pl_below HB.out)))
               replace HO_595004 := Aside0.mk (Kd.R_elder' (Kd.pl_R HO_595004.out) (Kd.R_base ho177) hb)
               replace HO630 := Aside0.mk (Kd.R_elder' (Kd.pl_R HO630.out) (Kd.R_base ho177) hb)
               replace BK580 := bb BK580 hb
               replace BK581 := bb BK581 hb
               replace BK582 := bb BK582 hb
               replace BK594 := bb BK594 hb
               replace BK613 := bb BK613 hb
               replace BK631 := bb BK631 hb
               replace HB := hB HB hb
               clear hb ho177
               refine hK.out _ _ ⟨(blk_cell BK581.out 0).trans rfl, (blk_cell BK581.out 1).trans rfl, (blk_cell BK581.out 2).trans rfl, (blk_cell BK581.out 3).trans rfl, (blk_cell BK581.out 4).trans rfl, (blk_cell BK582.out 0).trans rfl, (blk_cell BK582.out 1).trans rfl, (blk_cell BK582.out 2).trans rfl⟩ (fun hHeld => ?_)
               clear hK K
               refine norm_ (a' := ?_) ?_ ?_
               rotate_left
               ·show Act.put _ (some 112) _ = _
                simp only [Act.put, List.setIfInBounds_toArray, List.set_cons_zero, List.set_cons_succ, i64_w, i32_w]
                rfl
               refine one_ (i := 0) (N := some 105) #[true, true, true, true, true, false, true, true, false, true, true, true, true, true, false, false, false] rfl rfl (one_of HT_.out (by kernel_rfl)) (by decide) (fun K hK => ?_)
               refine Kd.R_lit_step k52 _ 52 ?hg (N := 105) ?hd (xs := ([] : List (S52))) (inner := []) (ok := fun _ => True) (okp := fun _ => True) ?hr ?hp (fun _ hk => hk) trivial (Below.refl _ _) (Nat.le_refl _) (by simp) ?_; (case hd => rfl); (case hg => rfl); (case hr => first | (go_simp; done) | (go_simp; rfl)); (case hp => exact (Reps.none _ _))
               intro v633 w178 ho179 hb hg_ hnew_
               clear hg_ hnew_
               (first | rw [← Ny632.out] at ho179 | (simp only [Int.reduceToNat] at ho179; rw [← Ny632.out] at ho179))
               replace HO_581001 := Aside0.mk (Kd.V_elder' (Kd.pl_V HO_581001.out) (Kd.R_base ho179) hb)
               have HO634 := Aside0.mk (Kd.R_lower (Kd.R_newB (Kd.R_new' (Kd.R_new' (Kd.R_new' (Kd.R_newM (M := fun k_ => (w.heap.size ≤ k_)) ho179 (below_size (pl_below HB.out)) (fun k_ h_ => h_)) (Kd.R_lt (Kd.pl_R HO_595004.out))) (Kd.R_lt (Kd.pl_R HO630.out))) (Kd.R_lt (Kd.pl_R HO644.out))) (pl_blk BK582.out)) (below_size (pl_below HB.out)))
               replace HO_595004 := Aside0.mk (Kd.R_elder' (Kd.pl_R HO_595004.out) (Kd.R_base ho179) hb)
               replace HO630 := Aside0.mk (Kd.R_elder' (Kd.pl_R HO630.out) (Kd.R_base ho179) hb)
               replace HO644 := Aside0.mk (Kd.R_elder' (Kd.pl_R HO644.out) (Kd.R_base ho179) hb)
               replace BK580 := bb BK580 hb
               replace BK581 := bb BK581 hb
               replace BK582 := bb BK582 hb
               replace BK594 := bb BK594 hb
               replace BK613 := bb BK613 hb
               replace BK631 := bb BK631 hb
               replace HB := hB HB hb
               clear hb ho179
               refine hK.out _ _ ⟨(blk_cell BK581.out 0).trans rfl, (blk_cell BK581.out 1).trans rfl, (blk_cell BK581.out 2).trans rfl, (blk_cell BK581.out 3).trans rfl, (blk_cell BK581.out 4).trans rfl, (blk_cell BK582.out 0).trans rfl, (blk_cell BK582.out 1).trans rfl, (blk_cell BK582.out 2).trans rfl⟩ (fun hHeld => ?_)
               clear hK K
               refine norm_ (a' := ?_) ?_ ?_
               rotate_left
               ·show Act.put _ (some 105) _ = _
                simp only [Act.put, List.setIfInBounds_toArray, List.set_cons_zero, List.set_cons_succ, i64_w, i32_w]
                rfl
               refine one_ (i := 5) (N := some 110) #[true, true, true, true, true, true, true, true, false, true, true, true, true, true, false, false, false] rfl rfl (one_of HT_.out (by kernel_rfl)) (by decide) (fun K hK => ?_)
               refine Kd.R_append_rows_step k52 (w0 := w) w.heap.size (by rfl) (.tmp 105) (.tmp 109) 23 52 (.agg #[(.int .i64 0), (.int .i64 0), (.string ⟨#[]⟩)]) 32 rfl Try.underlying23 info52 rfl (by decide) (by omega) v633 y632 y617 _ _ _ (fun k_ => (w.heap.size ≤ k_) ∧ some k_ ≠ (.slice Ao88 y604.length co88 : Value).ownBlock ∧ some k_ ≠ (.slice Ao164 y628.length co164 : Value).ownBlock ∧ some k_ ≠ (v643 : Value).ownBlock ∧ k_ ≠ gb582) (fun _ => False) rfl rfl ?aO ?aR (fun _ _ h => h) (fun _ h => h.elim) ?aF ?aB ?aS ?aL ?_
               (case aR => repeat (first | exact (Kd.C_below HR620.out HB.out) | (with_reducible refine Kd.C_alloc ?_ _) | (with_reducible refine Kd.C_drewN ?_ _) | (with_reducible refine Kd.C_drew ?_)))
               (case aB => exact (pl_below HB.out))
               (case aF => exact (fun k_ hk => ⟨(Nat.le_trans (below_size (pl_below HB.out)) hk), Kd.fresh' (Kd.R_lt (Kd.pl_R HO_595004.out)) k_ hk, Kd.fresh' (Kd.R_lt (Kd.pl_R HO630.out)) k_ hk, Kd.fresh' (Kd.R_lt (Kd.pl_R HO644.out)) k_ hk, Kd.freshB (g := gb582) (o := .cells #[.int .i64 a3_0, .int .i64 a3_1, .string a3_2] 52 (0, 0)) (pl_blk BK582.out) k_ hk⟩))
               (case aO => exact (by (with_reducible repeat (first | apply Kd.R_alloc | apply Kd.R_drewN | apply Kd.R_drew)); exact Kd.R_mono HO634.out (fun _ hk => ⟨hk.1.1.1.1.1, ⟨hk.1.1.1.2, ⟨hk.1.1.2, ⟨hk.1.2, hk.2⟩⟩⟩⟩)))
               (case aS => exact (below_size (pl_below HB.out)))
               (case aL => have := LMc137.out; omega)
               intro v640 w180 ho hb hg hat
               rw [← Ny639.out] at ho
               replace HO_581001 := Aside0.mk (Kd.V_afterv (ok := (fun k_ => (P0_1_ k_ ∨ w.heap.size ≤ k_) ∧ some k_ ≠ (.slice Ao88 y604.length co88 : Value).ownBlock ∧ some k_ ≠ (.slice Ao164 y628.length co164 : Value).ownBlock ∧ some k_ ≠ (v643 : Value).ownBlock ∧ k_ ≠ gb580 ∧ k_ ≠ gb581 ∧ k_ ≠ gb582 ∧ k_ ≠ gb594 ∧ k_ ≠ gb613 ∧ k_ ≠ gb631)) (by (with_reducible repeat (first | apply Kd.V_alloc | apply Kd.V_drewN | apply Kd.V_drew)); exact Kd.V_mono HO_581001.out (fun _ hk => ⟨⟨hk.1.1.1, ⟨hk.1.1.2.1, ⟨hk.1.1.2.2.1, ⟨hk.1.2, ⟨hk.1.1.2.2.2.1, ⟨hk.1.1.2.2.2.2.1, ⟨hk.1.1.2.2.2.2.2.1, ⟨hk.1.1.2.2.2.2.2.2.1, ⟨hk.1.1.2.2.2.2.2.2.2.1, hk.1.1.2.2.2.2.2.2.2.2⟩⟩⟩⟩⟩⟩⟩⟩⟩, hk.2⟩)) hg hat)
               replace HO_595004 := Aside0.mk (Kd.R_after (ok := (fun k_ => (w.heap.size ≤ k_) ∧ some k_ ≠ (.slice Ao164 y628.length co164 : Value).ownBlock ∧ some k_ ≠ (v643 : Value).ownBlock ∧ k_ ≠ gb582)) (by (with_reducible repeat (first | apply Kd.R_alloc | apply Kd.R_drewN | apply Kd.R_drew)); exact Kd.R_mono HO_595004.out (fun _ hk => ⟨⟨hk.1.1.1, ⟨hk.1.1.2.1, ⟨hk.1.2, hk.1.1.2.2⟩⟩⟩, hk.2⟩)) hg hat)
               replace BK580 := Aside0.mk (blk_grown (pl_blk BK580.out) hg (Kd.R_ne HO634.out BK580.out (by decide)))
               replace BK581 := Aside0.mk (blk_grown (pl_blk BK581.out) hg (Kd.R_ne HO634.out BK581.out (by decide)))
               replace BK582 := Aside0.mk (blk_grown (pl_blk BK582.out) hg (Kd.R_away HO634.out (fun _ hk => hk.2)))
               replace BK594 := Aside0.mk (blk_grown (pl_blk BK594.out) hg (Kd.R_ne HO634.out BK594.out (by decide)))
               replace BK613 := Aside0.mk (blk_grown (pl_blk BK613.out) hg (Kd.R_ne HO634.out BK613.out (by decide)))
               replace HO630 := Aside0.mk (Kd.R_after (ok := (fun k_ => (w.heap.size ≤ k_) ∧ some k_ ≠ (.slice Ao88 y604.length co88 : Value).ownBlock ∧ some k_ ≠ (v643 : Value).ownBlock ∧ k_ ≠ gb582)) (by (with_reducible repeat (first | apply Kd.R_alloc | apply Kd.R_drewN | apply Kd.R_drew)); exact Kd.R_mono HO630.out (fun _ hk => ⟨⟨hk.1.1.1, ⟨hk.1.1.2.1, ⟨hk.1.2, hk.1.1.2.2⟩⟩⟩, hk.2⟩)) hg hat)
               replace BK631 := Aside0.mk (blk_grown (pl_blk BK631.out) hg (Kd.R_ne HO634.out BK631.out (by decide)))
               replace HO644 := Aside0.mk (Kd.R_after (ok := (fun k_ => (w.heap.size ≤ k_) ∧ some k_ ≠ (.slice Ao88 y604.length co88 : Value).ownBlock ∧ some k_ ≠ (.slice Ao164 y628.length co164 : Value).ownBlock ∧ k_ ≠ gb582)) (by (with_reducible repeat (first | apply Kd.R_alloc | apply Kd.R_drewN | apply Kd.R_drew)); exact Kd.R_mono HO644.out (fun _ hk => ⟨⟨hk.1.1.1.1.1, ⟨hk.1.1.1.2, ⟨hk.1.1.2, hk.1.2⟩⟩⟩, hk.2⟩)) hg hat)
               replace HB := Aside0.mk (hb)
               have HO641 := Aside0.mk (ho)
               clear HO634
               clear ho hb hg hat
               refine hK.out _ _ ⟨(blk_cell BK581.out 0).trans rfl, (blk_cell BK581.out 1).trans rfl, (blk_cell BK581.out 2).trans rfl, (blk_cell BK581.out 3).trans rfl, (blk_cell BK581.out 4).trans rfl, (blk_cell BK582.out 0).trans rfl, (blk_cell BK582.out 1).trans rfl, (blk_cell BK582.out 2).trans rfl⟩ (fun hHeld => ?_)
               clear hK K
               refine norm_ (a' := ?_) ?_ ?_
               rotate_left
               ·show Act.put _ (some 110) _ = _
                simp only [Act.put, List.setIfInBounds_toArray, List.set_cons_zero, List.set_cons_succ, i64_w, i32_w]
                rfl
               exact norm_ (by simp only [putAll, Act.put, List.setIfInBounds_toArray, List.set_cons_zero, List.set_cons_succ]) (hCont (v633, v640, v643) _ ⟨hHeld, (by (with_reducible repeat (first | apply Kd.R_alloc | apply Kd.R_drewN | apply Kd.R_drew)); exact Kd.R_mono HO630.out (fun _ hk => ⟨hk.1.1, ⟨hk.2, ⟨hk.1.2.2.1, ⟨hk.1.2.1, hk.1.2.2.2⟩⟩⟩⟩)), (by (with_reducible repeat (first | apply Kd.R_alloc | apply Kd.R_drewN | apply Kd.R_drew)); exact Kd.R_mono HO641.out (fun _ hk => ⟨hk.1, ⟨hk.2.2.1, ⟨hk.2.2.2.1, ⟨hk.2.1, hk.2.2.2.2⟩⟩⟩⟩)), (by (with_reducible repeat (first | apply Kd.R_alloc | apply Kd.R_drewN | apply Kd.R_drew)); exact Kd.R_mono HO644.out (fun _ hk => ⟨hk.1.1, ⟨hk.1.2.2.1, ⟨hk.2, ⟨hk.1.2.1, hk.1.2.2.2⟩⟩⟩⟩)), (by (with_reducible repeat (first | apply Kd.V_alloc | apply Kd.V_drewN | apply Kd.V_drew)); exact Kd.V_mono HO_581001.out (fun _ hk => ⟨hk.1.1, ⟨hk.1.2.2.1, ⟨hk.2, ⟨hk.1.2.2.2.1, ⟨hk.1.2.1, ⟨hk.1.2.2.2.2.1, ⟨hk.1.2.2.2.2.2.1, ⟨hk.1.2.2.2.2.2.2.1, ⟨hk.1.2.2.2.2.2.2.2.1, ⟨hk.1.2.2.2.2.2.2.2.2.1, hk.1.2.2.2.2.2.2.2.2.2⟩⟩⟩⟩⟩⟩⟩⟩⟩⟩)), (by (with_reducible repeat (first | apply Kd.R_alloc | apply Kd.R_drewN | apply Kd.R_drew)); exact Kd.R_mono HO_595004.out (fun _ hk => ⟨hk.1.1, ⟨hk.1.2.1, ⟨hk.2, ⟨hk.1.2.2.1, hk.1.2.2.2⟩⟩⟩⟩)), (pl_blk BK580.out), (pl_blk BK581.out), (pl_blk BK582.out), (pl_blk BK594.out), (pl_blk BK613.out), (pl_blk BK631.out), (pl_below HB.out)⟩)
             rintro ⟨v633, v640, v643⟩ w181 ⟨hS_, h0_, h1_, h2_, h3_, h4_, h5_, h6_, h7_, h8_, h9_, h10_, h11_⟩
             have n0_ : Aside0 (Kd.R k52 52 w181 w.heap.size (fun k_ => (w.heap.size ≤ k_) ∧ some k_ ≠ (v640 : Value).ownBlock ∧ some k_ ≠ (v643 : Value).ownBlock ∧ some k_ ≠ (.slice Ao88 y604.length co88 : Value).ownBlock ∧ k_ ≠ gb582) (.slice Ao164 y628.length co164) y628) := ⟨h0_⟩
             have n1_ : Aside0 (Kd.R k52 52 w181 w.heap.size (fun k_ => (w.heap.size ≤ k_) ∧ some k_ ≠ (.slice Ao164 y628.length co164 : Value).ownBlock ∧ some k_ ≠ (v643 : Value).ownBlock ∧ some k_ ≠ (.slice Ao88 y604.length co88 : Value).ownBlock ∧ k_ ≠ gb582) v640 y639) := ⟨h1_⟩
             have n2_ : Aside0 (Kd.R k52 52 w181 w.heap.size (fun k_ => (w.heap.size ≤ k_) ∧ some k_ ≠ (.slice Ao164 y628.length co164 : Value).ownBlock ∧ some k_ ≠ (v640 : Value).ownBlock ∧ some k_ ≠ (.slice Ao88 y604.length co88 : Value).ownBlock ∧ k_ ≠ gb582) v643 y642) := ⟨h2_⟩
             have n3_ : Aside0 (Kd.V k55 55 w181 w.heap.size (fun k_ => (P0_1_ k_ ∨ w.heap.size ≤ k_) ∧ some k_ ≠ (.slice Ao164 y628.length co164 : Value).ownBlock ∧ some k_ ≠ (v640 : Value).ownBlock ∧ some k_ ≠ (v643 : Value).ownBlock ∧ some k_ ≠ (.slice Ao88 y604.length co88 : Value).ownBlock ∧ k_ ≠ gb580 ∧ k_ ≠ gb581 ∧ k_ ≠ gb582 ∧ k_ ≠ gb594 ∧ k_ ≠ gb613 ∧ k_ ≠ gb631) (.slice A0_1 l0_1.length c0_1) l0_1) := ⟨h3_⟩
             have n4_ : Aside0 (Kd.R k52 52 w181 w.heap.size (fun k_ => (w.heap.size ≤ k_) ∧ some k_ ≠ (.slice Ao164 y628.length co164 : Value).ownBlock ∧ some k_ ≠ (v640 : Value).ownBlock ∧ some k_ ≠ (v643 : Value).ownBlock ∧ k_ ≠ gb582) (.slice Ao88 y604.length co88) y604) := ⟨h4_⟩
             have n5_ : Aside0 (w181.heap[gb580]? = some (.cells #[.string a0_0, .slice A0_1 l0_1.length c0_1] 31 (0, 0))) := ⟨h5_⟩
             have n6_ : Aside0 (w181.heap[gb581]? = some (.cells #[.int .i64 a1_0, .int .i64 a1_1, .int .i64 a1_2, .string a1_3, .slice A1_4 l1_4.length c1_4] 25 (0, 0))) := ⟨h6_⟩
             have n7_ : Aside0 (w181.heap[gb582]? = some (.cells #[.int .i64 a3_0, .int .i64 a3_1, .string a3_2] 52 (0, 0))) := ⟨h7_⟩
             have n8_ : Aside0 (w181.heap[gb594]? = some (.cells #[.int .i64 a1_0, .int .i64 a1_1, .int .i64 a1_2, .string a1_3, .slice Ao88 y604.length co88] 25 (0, 0))) := ⟨h8_⟩
             have n9_ : Aside0 (w181.heap[gb613]? = some (.cells #[.int .i64 a1_0, .int .i64 a1_1, .int .i64 a1_2, .string a1_3, .slice Ao164 y628.length co164] 25 (0, 0))) := ⟨h9_⟩
             have n10_ : Aside0 (w181.heap[gb631]? = some (.cells #[.int .i64 a1_0, .int .i64 a1_1, .int .i64 a1_2, .string a1_3, .slice A1_4 l1_4.length c1_4] 25 (0, 0))) := ⟨h10_⟩
             have n11_ : Aside0 (Below w.heap.size w w181) := ⟨h11_⟩
             clear HO_581001
             clear HO_595004
             clear HO630
             clear BK580
             clear BK581
             clear BK582
             clear BK594
             clear BK613
             clear BK631
             clear HB
             clear h0_ h1_ h2_ h3_ h4_ h5_ h6_ h7_ h8_ h9_ h10_ h11_
             have HO630 := n0_
             have HO641 := n1_
             have HO644 := n2_
             have HO_581001 := n3_
             have HO_595004 := n4_
             have BK580 := n5_
             have BK581 := n6_
             have BK582 := n7_
             have BK594 := n8_
             have BK613 := n9_
             have BK631 := n10_
             have HB := n11_
             clear n0_ n1_ n2_ n3_ n4_ n5_ n6_ n7_ n8_ n9_ n10_ n11_
             have hHeld : w181.cell? ⟨gb581, 0, none⟩ = some (.int .i64 a1_0) ∧ w181.cell? ⟨gb581, 1, none⟩ = some (.int .i64 a1_1) ∧ w181.cell? ⟨gb581, 2, none⟩ = some (.int .i64 a1_2) ∧ w181.cell? ⟨gb581, 3, none⟩ = some (.string a1_3) ∧ w181.cell? ⟨gb581, 4, none⟩ = some (.slice A1_4 l1_4.length c1_4) ∧ w181.cell? ⟨gb582, 0, none⟩ = some (.int .i64 a3_0) ∧ w181.cell? ⟨gb582, 1, none⟩ = some (.int .i64 a3_1) ∧ w181.cell? ⟨gb582, 2, none⟩ = some (.string a3_2) := hS_
             obtain ⟨Ao183, co183, eo183⟩ := Kd.R_slice HO644.out
             (first | subst eo183 | (injection eo183 with f1_ f2_ f3_; have f4_ := f1_.symm; have f5_ := f3_.symm; clear f1_ f2_ f3_; subst f4_; subst f5_))
             refine norm_ (a' := ?_) ?_ ?_
             rotate_left
             ·simp only [putAll, Act.put, List.setIfInBounds_toArray, List.set_cons_zero, List.set_cons_succ]
              rfl
             refine one_ (i := 8) (N := some 113) #[true, true, true, true, true, true, true, true, true, true, true, true, true, true, false, false, false] rfl rfl (one_of HT_.out (by kernel_rfl)) (by decide) (fun K hK => ?_)
             refine Kd.R_append_rows_step k52 (w0 := w) w.heap.size (by rfl) (.tmp 110) (.tmp 112) 23 52 (.agg #[(.int .i64 0), (.int .i64 0), (.string ⟨#[]⟩)]) 32 rfl Try.underlying23 info52 rfl (by decide) (by omega) v640 y639 y642 _ _ _ (fun k_ => (w.heap.size ≤ k_) ∧ some k_ ≠ (.slice Ao88 y604.length co88 : Value).ownBlock ∧ some k_ ≠ (.slice Ao164 y628.length co164 : Value).ownBlock ∧ some k_ ≠ (.slice Ao183 y642.length co183 : Value).ownBlock ∧ k_ ≠ gb582) (fun _ => False) rfl rfl ?aO ?aR (fun _ _ h => h) (fun _ h => h.elim) ?aF ?aB ?aS ?aL ?_
             (case aR => repeat (first | exact (Kd.R_reads' HO644.out).2.2 | (with_reducible refine Kd.C_alloc ?_ _) | (with_reducible refine Kd.C_drewN ?_ _) | (with_reducible refine Kd.C_drew ?_)))
             (case aB => exact (pl_below HB.out))
             (case aF => exact (fun k_ hk => ⟨(Nat.le_trans (below_size (pl_below HB.out)) hk), Kd.fresh' (Kd.R_lt (Kd.pl_R HO_595004.out)) k_ hk, Kd.fresh' (Kd.R_lt (Kd.pl_R HO630.out)) k_ hk, Kd.fresh' (Kd.R_lt (Kd.pl_R HO644.out)) k_ hk, Kd.freshB (g := gb582) (o := .cells #[.int .i64 a3_0, .int .i64 a3_1, .string a3_2] 52 (0, 0)) (pl_blk BK582.out) k_ hk⟩))
             (case aO => exact (by (with_reducible repeat (first | apply Kd.R_alloc | apply Kd.R_drewN | apply Kd.R_drew)); exact Kd.R_mono HO641.out (fun _ hk => ⟨hk.1, ⟨hk.2.2.2.1, ⟨hk.2.1, ⟨hk.2.2.1, hk.2.2.2.2⟩⟩⟩⟩)))
             (case aS => exact (below_size (pl_below HB.out)))
             (case aL => have := LMc138.out; omega)
             intro v646 w182 ho hb hg hat
             rw [← Ny645.out] at ho
             replace HO_581001 := Aside0.mk (Kd.V_afterv (ok := (fun k_ => (P0_1_ k_ ∨ w.heap.size ≤ k_) ∧ some k_ ≠ (.slice Ao88 y604.length co88 : Value).ownBlock ∧ some k_ ≠ (.slice Ao164 y628.length co164 : Value).ownBlock ∧ some k_ ≠ (.slice Ao183 y642.length co183 : Value).ownBlock ∧ k_ ≠ gb580 ∧ k_ ≠ gb581 ∧ k_ ≠ gb582 ∧ k_ ≠ gb594 ∧ k_ ≠ gb613 ∧ k_ ≠ gb631)) (by (with_reducible repeat (first | apply Kd.V_alloc | apply Kd.V_drewN | apply Kd.V_drew)); exact Kd.V_mono HO_581001.out (fun _ hk => ⟨⟨hk.1, ⟨hk.2.2.2.2.1, ⟨hk.2.1, ⟨hk.2.2.2.1, ⟨hk.2.2.2.2.2.1, ⟨hk.2.2.2.2.2.2.1, ⟨hk.2.2.2.2.2.2.2.1, ⟨hk.2.2.2.2.2.2.2.2.1, ⟨hk.2.2.2.2.2.2.2.2.2.1, hk.2.2.2.2.2.2.2.2.2.2⟩⟩⟩⟩⟩⟩⟩⟩⟩, hk.2.2.1⟩)) hg hat)
             replace HO_595004 := Aside0.mk (Kd.R_after (ok := (fun k_ => (w.heap.size ≤ k_) ∧ some k_ ≠ (.slice Ao164 y628.length co164 : Value).ownBlock ∧ some k_ ≠ (.slice Ao183 y642.length co183 : Value).ownBlock ∧ k_ ≠ gb582)) (by (with_reducible repeat (first | apply Kd.R_alloc | apply Kd.R_drewN | apply Kd.R_drew)); exact Kd.R_mono HO_595004.out (fun _ hk => ⟨⟨hk.1, ⟨hk.2.1, ⟨hk.2.2.2.1, hk.2.2.2.2⟩⟩⟩, hk.2.2.1⟩)) hg hat)
             replace BK580 := Aside0.mk (blk_grown (pl_blk BK580.out) hg (Kd.R_ne HO641.out BK580.out (by decide)))
             replace BK581 := Aside0.mk (blk_grown (pl_blk BK581.out) hg (Kd.R_ne HO641.out BK581.out (by decide)))
             replace BK582 := Aside0.mk (blk_grown (pl_blk BK582.out) hg (Kd.R_away HO641.out (fun _ hk => hk.2.2.2.2)))
             replace BK594 := Aside0.mk (blk_grown (pl_blk BK594.out) hg (Kd.R_ne HO641.out BK594.out (by decide)))
             replace BK613 := Aside0.mk (blk_grown (pl_blk BK613.out) hg (Kd.R_ne HO641.out BK613.out (by decide)))
             replace HO630 := Aside0.mk (Kd.R_after (ok := (fun k_ => (w.heap.size ≤ k_) ∧ some k_ ≠ (.slice Ao88 y604.length co88 : Value).ownBlock ∧ some k_ ≠ (.slice Ao183 y642.length co183 : Value).ownBlock ∧ k_ ≠ gb582)) (by (with_reducible repeat (first | apply Kd.R_alloc | apply Kd.R_drewN | apply Kd.R_drew)); exact Kd.R_mono HO630.out (fun _ hk => ⟨⟨hk.1, ⟨hk.2.2.2.1, ⟨hk.2.2.1, hk.2.2.2.2⟩⟩⟩, hk.2.1⟩)) hg hat)
             replace BK631 := Aside0.mk (blk_grown (pl_blk BK631.out) hg (Kd.R_ne HO641.out BK631.out (by decide)))
             replace HO644 := Aside0.mk (Kd.R_after (ok := (fun k_ => (w.heap.size ≤ k_) ∧ some k_ ≠ (.slice Ao88 y604.length co88 : Value).ownBlock ∧ some k_ ≠ (.slice Ao164 y628.length co164 : Value).ownBlock ∧ k_ ≠ gb582)) (by (with_reducible repeat (first | apply Kd.R_alloc | apply Kd.R_drewN | apply Kd.R_drew)); exact Kd.R_mono HO644.out (fun _ hk => ⟨⟨hk.1, ⟨hk.2.2.2.1, ⟨hk.2.1, hk.2.2.2.2⟩⟩⟩, hk.2.2.1⟩)) hg hat)
             replace HB := Aside0.mk (hb)
             have HO647 := Aside0.mk (ho)
             clear HO641
             clear ho hb hg hat
             refine hK.out _ _ ⟨(blk_cell BK581.out 0).trans rfl, (blk_cell BK581.out 1).trans rfl, (blk_cell BK581.out 2).trans rfl, (blk_cell BK581.out 3).trans rfl, (blk_cell BK581.out 4).trans rfl, (blk_cell BK582.out 0).trans rfl, (blk_cell BK582.out 1).trans rfl, (blk_cell BK582.out 2).trans rfl⟩ (fun hHeld => ?_)
             clear hK K
             refine norm_ (a' := ?_) ?_ ?_
             rotate_left
             ·show Act.put _ (some 113) _ = _
              simp only [Act.put, List.setIfInBounds_toArray, List.set_cons_zero, List.set_cons_succ, i64_w, i32_w]
              rfl
             refine one_ (i := 14) (N := some 119) #[true, true, true, true, true, true, true, true, true, true, true, true, true, true, true, false, false] rfl rfl (one_of HT_.out (by kernel_rfl)) (by decide) (fun K hK => ?_)
             refine Kd.R_append_rows_step k52 (w0 := w) w.heap.size (by rfl) (.tmp 113) (.tmp 118) 23 52 (.agg #[(.int .i64 0), (.int .i64 0), (.string ⟨#[]⟩)]) 32 rfl Try.underlying23 info52 rfl (by decide) (by omega) v646 y645 y624 _ _ _ (fun k_ => (w.heap.size ≤ k_) ∧ some k_ ≠ (.slice Ao88 y604.length co88 : Value).ownBlock ∧ some k_ ≠ (.slice Ao164 y628.length co164 : Value).ownBlock ∧ some k_ ≠ (.slice Ao183 y642.length co183 : Value).ownBlock ∧ k_ ≠ gb582) (fun _ => False) rfl rfl ?aO ?aR (fun _ _ h => h) (fun _ h => h.elim) ?aF ?aB ?aS ?aL ?_
             (case aR => repeat (first | exact (Kd.C_below HR627.out HB.out) | (with_reducible refine Kd.C_alloc ?_ _) | (with_reducible refine Kd.C_drewN ?_ _) | (with_reducible refine Kd.C_drew ?_)))
             (case aB => exact (pl_below HB.out))
             (case aF => exact (fun k_ hk => ⟨(Nat.le_trans (below_size (pl_below HB.out)) hk), Kd.fresh' (Kd.R_lt (Kd.pl_R HO_595004.out)) k_ hk, Kd.fresh' (Kd.R_lt (Kd.pl_R HO630.out)) k_ hk, Kd.fresh' (Kd.R_lt (Kd.pl_R HO644.out)) k_ hk, Kd.freshB (g := gb582) (o := .cells #[.int .i64 a3_0, .int .i64 a3_1, .string a3_2] 52 (0, 0)) (pl_blk BK582.out) k_ hk⟩))
             (case aO => exact (Kd.pl_R HO647.out))
             (case aS => exact (below_size (pl_below HB.out)))
             (case aL => have := LMc139.out; omega)
             intro v653 w184 ho hb hg hat
             rw [← Ny652.out] at ho
             replace HO_581001 := Aside0.mk (Kd.V_afterv (ok := (fun k_ => (P0_1_ k_ ∨ w.heap.size ≤ k_) ∧ some k_ ≠ (.slice Ao88 y604.length co88 : Value).ownBlock ∧ some k_ ≠ (.slice Ao164 y628.length co164 : Value).ownBlock ∧ some k_ ≠ (.slice Ao183 y642.length co183 : Value).ownBlock ∧ k_ ≠ gb580 ∧ k_ ≠ gb581 ∧ k_ ≠ gb582 ∧ k_ ≠ gb594 ∧ k_ ≠ gb613 ∧ k_ ≠ gb631)) (Kd.pl_V HO_581001.out) hg hat)
             replace HO_595004 := Aside0.mk (Kd.R_after (ok := (fun k_ => (w.heap.size ≤ k_) ∧ some k_ ≠ (.slice Ao164 y628.length co164 : Value).ownBlock ∧ some k_ ≠ (.slice Ao183 y642.length co183 : Value).ownBlock ∧ k_ ≠ gb582)) (Kd.pl_R HO_595004.out) hg hat)
             replace BK580 := Aside0.mk (blk_grown (pl_blk BK580.out) hg (Kd.R_ne HO647.out BK580.out (by decide)))
             replace BK581 := Aside0.mk (blk_grown (pl_blk BK581.out) hg (Kd.R_ne HO647.out BK581.out (by decide)))
             replace BK582 := Aside0.mk (blk_grown (pl_blk BK582.out) hg (Kd.R_away HO647.out (fun _ hk => hk.2.2.2.2)))
             replace BK594 := Aside0.mk (blk_grown (pl_blk BK594.out) hg (Kd.R_ne HO647.out BK594.out (by decide)))
             replace BK613 := Aside0.mk (blk_grown (pl_blk BK613.out) hg (Kd.R_ne HO647.out BK613.out (by decide)))
             replace HO630 := Aside0.mk (Kd.R_after (ok := (fun k_ => (w.heap.size ≤ k_) ∧ some k_ ≠ (.slice Ao88 y604.length co88 : Value).ownBlock ∧ some k_ ≠ (.slice Ao183 y642.length co183 : Value).ownBlock ∧ k_ ≠ gb582)) (Kd.pl_R HO630.out) hg hat)
             replace BK631 := Aside0.mk (blk_grown (pl_blk BK631.out) hg (Kd.R_ne HO647.out BK631.out (by decide)))
             replace HO644 := Aside0.mk (Kd.R_after (ok := (fun k_ => (w.heap.size ≤ k_) ∧ some k_ ≠ (.slice Ao88 y604.length co88 : Value).ownBlock ∧ some k_ ≠ (.slice Ao164 y628.length co164 : Value).ownBlock ∧ k_ ≠ gb582)) (Kd.pl_R HO644.out) hg hat)
             replace HB := Aside0.mk (hb)
             have HO654 := Aside0.mk (ho)
             clear HO647
             clear ho hb hg hat
             obtain ⟨Ao185, co185, eo185⟩ := Kd.R_slice HO654.out
             (first | subst eo185 | (injection eo185 with f1_ f2_ f3_; have f4_ := f1_.symm; have f5_ := f3_.symm; clear f1_ f2_ f3_; subst f4_; subst f5_))
             refine hK.out _ _ ⟨(blk_cell BK581.out 0).trans rfl, (blk_cell BK581.out 1).trans rfl, (blk_cell BK581.out 2).trans rfl, (blk_cell BK581.out 3).trans rfl, (blk_cell BK581.out 4).trans rfl, (blk_cell BK582.out 0).trans rfl, (blk_cell BK582.out 1).trans rfl, (blk_cell BK582.out 2).trans rfl⟩ (fun hHeld => ?_)
             clear hK K
             refine norm_ (a' := ?_) ?_ ?_
             rotate_left
             ·show Act.put _ (some 119) _ = _
              simp only [Act.put, List.setIfInBounds_toArray, List.set_cons_zero, List.set_cons_succ, i64_w, i32_w]
              rfl
             refine pure_ (i := 15) (N := some 120) (v := ?_) (a' := ?_) #[true, true, true, true, true, true, true, true, true, true, true, true, true, true, true, true, false] rfl rfl (any_of HT_.out (by kernel_rfl)) (fun _ _ _ h => h) (Or.inl ⟨by rfl, ?_⟩) ?_ ?_
             rotate_left
             ·intro w'
              go_simp
              with_reducible rfl
             rotate_left
             ·simp only [Act.put, List.setIfInBounds_toArray, List.set_cons_zero, List.set_cons_succ, i64_w, i32_w]
              rfl
             refine one_ (i := 16) (N := none) #[true, true, true, true, true, true, true, true, true, true, true, true, true, true, true, true, true] rfl rfl (one_of HT_.out (by kernel_rfl)) (by decide) (fun K hK => ?_)
             have hs186 : w184.cell? ⟨gb631, 4, none⟩ = some (.slice A1_4 l1_4.length c1_4) := (blk_cell BK631.out 4).trans rfl
             have hfs186 := blk_frozen BK631.out 4
             have hns186_0 := NB580_631.out
             have hns186_1 := NB581_631.out
             have hns186_2 := NB582_631.out
             have hns186_3 := NB594_631.out
             have hns186_4 := NB613_631.out
             have hms186_0 := NB631_580.out
             have hms186_1 := NB631_581.out
             have hms186_2 := NB631_582.out
             have hms186_3 := NB631_594.out
             have hms186_4 := NB631_613.out
             refine skip_ (w1 := ?_) (by rfl) rfl ?_ ?_
             rotate_left
             ·go_simp
              rfl
             refine hK.out _ _ ⟨((cell_far (p := ⟨gb631, _, none⟩) NB581_631.out _).trans (hHeld.1)), ((cell_far (p := ⟨gb631, _, none⟩) NB581_631.out _).trans (hHeld.2.1)), ((cell_far (p := ⟨gb631, _, none⟩) NB581_631.out _).trans (hHeld.2.2.1)), ((cell_far (p := ⟨gb631, _, none⟩) NB581_631.out _).trans (hHeld.2.2.2.1)), ((cell_far (p := ⟨gb631, _, none⟩) NB581_631.out _).trans (hHeld.2.2.2.2.1)), ((cell_far (p := ⟨gb631, _, none⟩) NB582_631.out _).trans (hHeld.2.2.2.2.2.1)), ((cell_far (p := ⟨gb631, _, none⟩) NB582_631.out _).trans (hHeld.2.2.2.2.2.2.1)), ((cell_far (p := ⟨gb631, _, none⟩) NB582_631.out _).trans (hHeld.2.2.2.2.2.2.2))⟩ (fun hHeld => ?_)
             clear hK K
             refine done_ (done_of HT_.out (by kernel_rfl)) ?_
             try go_wp2
             generalize hw_ : (w184.setCell ⟨gb631, 4, none⟩ (.slice Ao185 y652.length co185)) = w187
             have n0_ : Aside0 (Kd.V k55 55 w187 w.heap.size (fun k_ => (P0_1_ k_ ∨ w.heap.size ≤ k_) ∧ some k_ ≠ (.slice Ao88 y604.length co88 : Value).ownBlock ∧ some k_ ≠ (.slice Ao164 y628.length co164 : Value).ownBlock ∧ some k_ ≠ (.slice Ao183 y642.length co183 : Value).ownBlock ∧ some k_ ≠ (.slice Ao185 y652.length co185 : Value).ownBlock ∧ k_ ≠ gb580 ∧ k_ ≠ gb581 ∧ k_ ≠ gb582 ∧ k_ ≠ gb594 ∧ k_ ≠ gb613 ∧ k_ ≠ gb631) (.slice A0_1 l0_1.length c0_1) l0_1) := ⟨by rw [← hw_]; exact (by (with_reducible repeat (first | apply Kd.V_alloc | apply Kd.V_drewN | apply Kd.V_drew)); exact Kd.V_mono (Kd.V_far (p := ⟨gb631, 4, none⟩) (Kd.V_mono HO_581001.out (fun k_ hk => (⟨hk, hk.1.2.2.2.2.2.2.2.2.2⟩ : _ ∧ k_ ≠ gb631))) (fun _ hk => hk.2) (.slice Ao185 y652.length co185)) (fun _ hk => ⟨hk.1.1.1, ⟨hk.1.1.2.1, ⟨hk.1.1.2.2.1, ⟨hk.1.1.2.2.2.1, ⟨hk.1.2, ⟨hk.1.1.2.2.2.2.1, ⟨hk.1.1.2.2.2.2.2.1, ⟨hk.1.1.2.2.2.2.2.2.1, ⟨hk.1.1.2.2.2.2.2.2.2.1, ⟨hk.1.1.2.2.2.2.2.2.2.2.1, hk.1.1.2.2.2.2.2.2.2.2.2⟩⟩⟩⟩⟩⟩⟩⟩⟩⟩))⟩
             have n1_ : Aside0 (Kd.R k52 52 w187 w.heap.size (fun k_ => (w.heap.size ≤ k_) ∧ some k_ ≠ (.slice Ao164 y628.length co164 : Value).ownBlock ∧ some k_ ≠ (.slice Ao183 y642.length co183 : Value).ownBlock ∧ some k_ ≠ (.slice Ao185 y652.length co185 : Value).ownBlock ∧ k_ ≠ gb582) (.slice Ao88 y604.length co88) y604) := ⟨by rw [← hw_]; exact (by (with_reducible repeat (first | apply Kd.R_alloc | apply Kd.R_drewN | apply Kd.R_drew)); exact Kd.R_mono (Kd.R_far (p := ⟨gb631, 4, none⟩) (Kd.R_types HO_595004.out BK631.out (by decide)) (fun _ hk => hk.2) (.slice Ao185 y652.length co185)) (fun _ hk => ⟨hk.1.1.1, ⟨hk.1.1.2.1, ⟨hk.1.1.2.2.1, ⟨hk.1.2, hk.1.1.2.2.2⟩⟩⟩⟩))⟩
             have n2_ : Aside0 (Kd.R k52 52 w187 w.heap.size (fun k_ => (w.heap.size ≤ k_) ∧ some k_ ≠ (.slice Ao88 y604.length co88 : Value).ownBlock ∧ some k_ ≠ (.slice Ao183 y642.length co183 : Value).ownBlock ∧ some k_ ≠ (.slice Ao185 y652.length co185 : Value).ownBlock ∧ k_ ≠ gb582) (.slice Ao164 y628.length co164) y628) := ⟨by rw [← hw_]; exact (by (with_reducible repeat (first | apply Kd.R_alloc | apply Kd.R_drewN | apply Kd.R_drew)); exact Kd.R_mono (Kd.R_far (p := ⟨gb631, 4, none⟩) (Kd.R_types HO630.out BK631.out (by decide)) (fun _ hk => hk.2) (.slice Ao185 y652.length co185)) (fun _ hk => ⟨hk.1.1.1, ⟨hk.1.1.2.1, ⟨hk.1.1.2.2.1, ⟨hk.1.2, hk.1.1.2.2.2⟩⟩⟩⟩))⟩
             have n3_ : Aside0 (Kd.R k52 52 w187 w.heap.size (fun k_ => (w.heap.size ≤ k_) ∧ some k_ ≠ (.slice Ao88 y604.length co88 : Value).ownBlock ∧ some k_ ≠ (.slice Ao164 y628.length co164 : Value).ownBlock ∧ some k_ ≠ (.slice Ao185 y652.length co185 : Value).ownBlock ∧ k_ ≠ gb582) (.slice Ao183 y642.length co183) y642) := ⟨by rw [← hw_]; exact (by (with_reducible repeat (first | apply Kd.R_alloc | apply Kd.R_drewN | apply Kd.R_drew)); exact Kd.R_mono (Kd.R_far (p := ⟨gb631, 4, none⟩) (Kd.R_types HO644.out BK631.out (by decide)) (fun _ hk => hk.2) (.slice Ao185 y652.length co185)) (fun _ hk => ⟨hk.1.1.1, ⟨hk.1.1.2.1, ⟨hk.1.1.2.2.1, ⟨hk.1.2, hk.1.1.2.2.2⟩⟩⟩⟩))⟩
             have n4_ : Aside0 (Kd.R k52 52 w187 w.heap.size (fun k_ => (w.heap.size ≤ k_) ∧ some k_ ≠ (.slice Ao88 y604.length co88 : Value).ownBlock ∧ some k_ ≠ (.slice Ao164 y628.length co164 : Value).ownBlock ∧ some k_ ≠ (.slice Ao183 y642.length co183 : Value).ownBlock ∧ k_ ≠ gb582) (.slice Ao185 y652.length co185) y652) := ⟨by rw [← hw_]; exact (by (with_reducible repeat (first | apply Kd.R_alloc | apply Kd.R_drewN | apply Kd.R_drew)); exact Kd.R_mono (Kd.R_far (p := ⟨gb631, 4, none⟩) (Kd.R_types HO654.out BK631.out (by decide)) (fun _ hk => hk.2) (.slice Ao185 y652.length co185)) (fun _ hk => ⟨hk.1.1, ⟨hk.1.2.1, ⟨hk.1.2.2.1, ⟨hk.1.2.2.2.1, hk.1.2.2.2.2⟩⟩⟩⟩))⟩
             have n5_ : Aside0 (w187.heap[gb580]? = some (.cells #[.string a0_0, .slice A0_1 l0_1.length c0_1] 31 (0, 0))) := ⟨by rw [← hw_]; exact (pl_blk (blk_far (p := ⟨gb631, 4, none⟩) BK580.out NB580_631.out (.slice Ao185 y652.length co185)))⟩
             have n6_ : Aside0 (w187.heap[gb581]? = some (.cells #[.int .i64 a1_0, .int .i64 a1_1, .int .i64 a1_2, .string a1_3, .slice A1_4 l1_4.length c1_4] 25 (0, 0))) := ⟨by rw [← hw_]; exact (pl_blk (blk_far (p := ⟨gb631, 4, none⟩) BK581.out NB581_631.out (.slice Ao185 y652.length co185)))⟩
             have n7_ : Aside0 (w187.heap[gb582]? = some (.cells #[.int .i64 a3_0, .int .i64 a3_1, .string a3_2] 52 (0, 0))) := ⟨by rw [← hw_]; exact (pl_blk (blk_far (p := ⟨gb631, 4, none⟩) BK582.out NB582_631.out (.slice Ao185 y652.length co185)))⟩
             have n8_ : Aside0 (w187.heap[gb594]? = some (.cells #[.int .i64 a1_0, .int .i64 a1_1, .int .i64 a1_2, .string a1_3, .slice Ao88 y604.length co88] 25 (0, 0))) := ⟨by rw [← hw_]; exact (pl_blk (blk_far (p := ⟨gb631, 4, none⟩) BK594.out NB594_631.out (.slice Ao185 y652.length co185)))⟩
             have n9_ : Aside0 (w187.heap[gb613]? = some (.cells #[.int .i64 a1_0, .int .i64 a1_1, .int .i64 a1_2, .string a1_3, .slice Ao164 y628.length co164] 25 (0, 0))) := ⟨by rw [← hw_]; exact (pl_blk (blk_far (p := ⟨gb631, 4, none⟩) BK613.out NB613_631.out (.slice Ao185 y652.length co185)))⟩
             have n10_ : Aside0 (w187.heap[gb631]? = some (.cells #[.int .i64 a1_0, .int .i64 a1_1, .int .i64 a1_2, .string a1_3, .slice Ao185 y652.length co185] 25 (0, 0))) := ⟨by rw [← hw_]; exact (pl_blk (blk_put BK631.out 4 (.slice Ao185 y652.length co185) rfl))⟩
             have n11_ : Aside0 (Below w.heap.size w w187) := ⟨by rw [← hw_]; exact (by repeat (first | (with_reducible first | exact HB.out | apply below_alloc | apply pw_below_drewN | apply below_drew1 | refine below_set ?_ GE631.out) | exact HB.out))⟩
             (try clear HO_581001)
             (try clear HO_595004)
             (try clear HO630)
             (try clear HO644)
             (try clear HO654)
             (try clear BK580)
             (try clear BK581)
             (try clear BK582)
             (try clear BK594)
             (try clear BK613)
             (try clear BK631)
             (try clear HB)
             clear hw_
             have HO_581001 := n0_
             have HO_595004 := n1_
             have HO630 := n2_
             have HO644 := n3_
             have HO654 := n4_
             have BK580 := n5_
             have BK581 := n6_
             have BK582 := n7_
             have BK594 := n8_
             have BK613 := n9_
             have BK631 := n10_
             have HB := n11_
             clear n0_ n1_ n2_ n3_ n4_ n5_ n6_ n7_ n8_ n9_ n10_ n11_
             replace HO_581001 := Aside0.mk (Kd.V_drew HO_581001.out)
             replace HO_595004 := Aside0.mk (Kd.R_drew HO_595004.out)
             replace HO630 := Aside0.mk (Kd.R_drew HO630.out)
             replace HO644 := Aside0.mk (Kd.R_drew HO644.out)
             replace HO654 := Aside0.mk (Kd.R_drew HO654.out)
             replace BK580 := Aside0.mk (blk_drew BK580.out)
             replace BK581 := Aside0.mk (blk_drew BK581.out)
             replace BK582 := Aside0.mk (blk_drew BK582.out)
             replace BK594 := Aside0.mk (blk_drew BK594.out)
             replace BK613 := Aside0.mk (blk_drew BK613.out)
             replace BK631 := Aside0.mk (blk_drew BK631.out)
             replace HB := Aside0.mk (below_drew1 HB.out)
             have p663 : 0 ≤ ((ji129) : Int) := of_decide_eq_true (by first | (with_reducible assumption) | assumption)
             have q663 : (ji129) < (l0_1.length : Int) := of_decide_eq_true (by first | (with_reducible assumption) | assumption)
             obtain ⟨ad663, e663, hx663_0, hx663_1⟩ := at_T55 (Kd.V_reads' HO_581001.out).2.2 (ji129) p663 q663
             cases e663
             replace p663 := eq_true p663
             replace q663 := eq_true q663
             refine start_ (n := 26) (S := fun w' => w'.cell? ⟨gb580, 0, none⟩ = some (.string a0_0) ∧ w'.cell? ⟨gb580, 1, none⟩ = some (.slice (some ad663) l0_1.length c0_1) ∧ w'.cell? ⟨gb613, 0, none⟩ = some (.int .i64 a1_0) ∧ w'.cell? ⟨gb613, 1, none⟩ = some (.int .i64 a1_1) ∧ w'.cell? ⟨gb613, 2, none⟩ = some (.int .i64 a1_2) ∧ w'.cell? ⟨gb613, 3, none⟩ = some (.string a1_3) ∧ w'.cell? ⟨gb613, 4, none⟩ = some (.slice Ao164 y628.length co164) ∧ w'.cell? ⟨gb631, 0, none⟩ = some (.int .i64 a1_0) ∧ w'.cell? ⟨gb631, 1, none⟩ = some (.int .i64 a1_1) ∧ w'.cell? ⟨gb631, 2, none⟩ = some (.int .i64 a1_2) ∧ w'.cell? ⟨gb631, 3, none⟩ = some (.string a1_3) ∧ w'.cell? ⟨gb631, 4, none⟩ = some (.slice Ao185 y652.length co185) ∧ w'.cell? ⟨gb582, 0, none⟩ = some (.int .i64 a3_0) ∧ w'.cell? ⟨gb582, 1, none⟩ = some (.int .i64 a3_1) ∧ w'.cell? ⟨gb582, 2, none⟩ = some (.string a3_2) ∧ w'.cell? (ad663.add (((ji129)).toNat * 2)) = some (.string ((rd_T55 l0_1 (ji129)).f0)) ∧ w'.cell? ⟨(ad663.add (((ji129)).toNat * 2)).block, (ad663.add (((ji129)).toNat * 2)).off + 1, none⟩ = some (.int .i64 ((rd_T55 l0_1 (ji129)).f1))) (ds := []) #[false, false, false, false, false, false, false, false, false, false, false, false, false, false, false, false, false, false, false, false, false, false, false, false, false, false] (by kernel_rfl) rfl rfl ⟨(blk_cell BK580.out 0).trans rfl, (blk_cell BK580.out 1).trans rfl, (blk_cell BK613.out 0).trans rfl, (blk_cell BK613.out 1).trans rfl, (blk_cell BK613.out 2).trans rfl, (blk_cell BK613.out 3).trans rfl, (blk_cell BK613.out 4).trans rfl, (blk_cell BK631.out 0).trans rfl, (blk_cell BK631.out 1).trans rfl, (blk_cell BK631.out 2).trans rfl, (blk_cell BK631.out 3).trans rfl, (blk_cell BK631.out 4).trans rfl, (blk_cell BK582.out 0).trans rfl, (blk_cell BK582.out 1).trans rfl, (blk_cell BK582.out 2).trans rfl, hx663_0, hx663_1⟩ (fun hHeld => ?_); refine with_tabW augurylaw05_EventFits.tab20 augurylaw05_EventFits.bits20 (fun HT_ HW_ => ?_)
             generalize w187.drew = w188 at HO_581001 HO_595004 HO630 HO644 HO654 BK580 BK581 BK582 BK594 BK613 BK631 HB HO630 HO644 HO654 hx663_0 hx663_1 hHeld ⊢
             refine pure_ (i := 0) (N := some 121) (v := ?_) (a' := ?_) #[true, false, false, false, false, false, false, false, false, false, false, false, false, false, false, false, false, false, false, false, false, false, false, false, false, false] rfl rfl (any_of HT_.out (by kernel_rfl)) (fun _ _ _ h => h) (Or.inl ⟨by rfl, ?_⟩) ?_ ?_
             rotate_left
             ·intro w'
              go_simp
              with_reducible rfl
             rotate_left
             ·simp only [Act.put, List.setIfInBounds_toArray, List.set_cons_zero, List.set_cons_succ, i64_w, i32_w]
              rfl
             refine pure_ (i := 1) (N := some 122) (v := ?_) (a' := ?_) #[true, true, false, false, false, false, false, false, false, false, false, false, false, false, false, false, false, false, false, false, false, false, false, false, false, false] rfl rfl (any_of HT_.out (by kernel_rfl)) (fun _ _ _ h => h) (Or.inl ⟨by rfl, ?_⟩) ?_ ?_
             rotate_left
             ·intro w'
              go_simp
              with_reducible rfl
             rotate_left
             ·simp only [Act.put, List.setIfInBounds_toArray, List.set_cons_zero, List.set_cons_succ, i64_w, i32_w]
              rfl
             refine take_ (i := 2) (N := some 123) (v := ?_) (a' := ?_) #[true, true, true, false, false, false, false, false, false, false, false, false, false, false, false, false, false, false, false, false, false, false, false, false, false, false] rfl rfl (take_ofW HT_.out HW_.out (by kernel_rfl)) (fun _ _ _ h => h) (Or.inl ⟨by rfl, ?_⟩) hHeld ?_ ?_
             rotate_left
             ·rintro w' ⟨s0, s1, s2, s3, s4, s5, s6, s7, s8, s9, s10, s11, s12, s13, s14, s15, s16⟩
              go_simp
              with_reducible rfl
             rotate_left
             ·simp only [Act.put, List.setIfInBounds_toArray, List.set_cons_zero, List.set_cons_succ, i64_w, i32_w]
              rfl
             refine take_ (i := 4) (N := some 125) (v := ?_) (a' := ?_) #[true, true, true, false, true, false, false, false, false, false, false, false, false, false, false, false, false, false, false, false, false, false, false, false, false, false] rfl rfl (take_ofW HT_.out HW_.out (by kernel_rfl)) (fun _ _ _ h => h) (Or.inl ⟨by rfl, ?_⟩) hHeld ?_ ?_
             rotate_left
             ·rintro w' ⟨s0, s1, s2, s3, s4, s5, s6, s7, s8, s9, s10, s11, s12, s13, s14, s15, s16⟩
              go_simp
              with_reducible rfl
             rotate_left
             ·simp only [Act.put, List.setIfInBounds_toArray, List.set_cons_zero, List.set_cons_succ, i64_w, i32_w]
              rfl
             refine one_ (i := 3) (N := some 124) #[true, true, true, true, true, false, false, false, false, false, false, false, false, false, false, false, false, false, false, false, false, false, false, false, false, false] rfl rfl (one_of HT_.out (by kernel_rfl)) (by decide) (fun K hK => ?_)
             refine Kd.N_lit_step k31 _ 31 ?hg (N' := 124) ?hd (xs := ([(⟨a0_0, l0_1⟩ : S31)] : List (S31))) (inner := [.string a0_0, .slice (some ad663) l0_1.length c0_1]) (ok := (fun k_ => (P0_1_ k_ ∨ w.heap.size ≤ k_) ∧ some k_ ≠ (.slice Ao88 y604.length co88 : Value).ownBlock ∧ some k_ ≠ (.slice Ao164 y628.length co164 : Value).ownBlock ∧ some k_ ≠ (.slice Ao183 y642.length co183 : Value).ownBlock ∧ some k_ ≠ (.slice Ao185 y652.length co185 : Value).ownBlock ∧ k_ ≠ gb580 ∧ k_ ≠ gb581 ∧ k_ ≠ gb582 ∧ k_ ≠ gb594 ∧ k_ ≠ gb613 ∧ k_ ≠ gb631)) (okp := (fun k_ => (P0_1_ k_ ∨ w.heap.size ≤ k_) ∧ some k_ ≠ (.slice Ao88 y604.length co88 : Value).ownBlock ∧ some k_ ≠ (.slice Ao164 y628.length co164 : Value).ownBlock ∧ some k_ ≠ (.slice Ao183 y642.length co183 : Value).ownBlock ∧ some k_ ≠ (.slice Ao185 y652.length co185 : Value).ownBlock ∧ k_ ≠ gb580 ∧ k_ ≠ gb581 ∧ k_ ≠ gb582 ∧ k_ ≠ gb594 ∧ k_ ≠ gb613 ∧ k_ ≠ gb631)) ?hr ?hp (fun _ hk => hk) ((show ∀ k_, w188.heap.size ≤ k_ → (fun k_ => (P0_1_ k_ ∨ w.heap.size ≤ k_) ∧ some k_ ≠ (.slice Ao88 y604.length co88 : Value).ownBlock ∧ some k_ ≠ (.slice Ao164 y628.length co164 : Value).ownBlock ∧ some k_ ≠ (.slice Ao183 y642.length co183 : Value).ownBlock ∧ some k_ ≠ (.slice Ao185 y652.length co185 : Value).ownBlock ∧ k_ ≠ gb580 ∧ k_ ≠ gb581 ∧ k_ ≠ gb582 ∧ k_ ≠ gb594 ∧ k_ ≠ gb613 ∧ k_ ≠ gb631) k_ from fun k_ hk => ⟨(.inr (Nat.le_trans (below_size (pl_below HB.out)) hk)), Kd.fresh' (Kd.R_lt (Kd.pl_R HO_595004.out)) k_ hk, Kd.fresh' (Kd.R_lt (Kd.pl_R HO630.out)) k_ hk, Kd.fresh' (Kd.R_lt (Kd.pl_R HO644.out)) k_ hk, Kd.fresh' (Kd.R_lt (Kd.pl_R HO654.out)) k_ hk, Kd.freshB (g := gb580) (o := .cells #[.string a0_0, .slice (some ad663) l0_1.length c0_1] 31 (0, 0)) (pl_blk BK580.out) k_ hk, Kd.freshB (g := gb581) (o := .cells #[.int .i64 a1_0, .int .i64 a1_1, .int .i64 a1_2, .string a1_3, .slice A1_4 l1_4.length c1_4] 25 (0, 0)) (pl_blk BK581.out) k_ hk, Kd.freshB (g := gb582) (o := .cells #[.int .i64 a3_0, .int .i64 a3_1, .string a3_2] 52 (0, 0)) (pl_blk BK582.out) k_ hk, Kd.freshB (g := gb594) (o := .cells #[.int .i64 a1_0, .int .i64 a1_1, .int .i64 a1_2, .string a1_3, .slice Ao88 y604.length co88] 25 (0, 0)) (pl_blk BK594.out) k_ hk, Kd.freshB (g := gb613) (o := .cells #[.int .i64 a1_0, .int .i64 a1_1, .int .i64 a1_2, .string a1_3, .slice Ao164 y628.length co164] 25 (0, 0)) (pl_blk BK613.out) k_ hk, Kd.freshB (g := gb631) (o := .cells #[.int .i64 a1_0, .int .i64 a1_1, .int .i64 a1_2, .string a1_3, .slice Ao185 y652.length co185] 25 (0, 0)) (pl_blk BK631.out) k_ hk⟩) _ (Nat.le_refl _)) (Below.refl _ _) (Nat.le_refl _) (by simp) ?_; (case hd => rfl); (case hg => rfl); (case hr => first | (go_simp; done) | (go_simp; rfl)); (case hp => exact (Reps.c2 (show Kd.FK k31 _ _ (⟨a0_0, l0_1⟩ : S31) [.string a0_0, .slice (some ad663) l0_1.length c0_1] from (k31_mkF _ _ (⟨a0_0, l0_1⟩ : S31) (Kd.V_reads' (Kd.V_mono (ok' := (fun k_ => (P0_1_ k_ ∨ w.heap.size ≤ k_) ∧ some k_ ≠ (.slice Ao88 y604.length co88 : Value).ownBlock ∧ some k_ ≠ (.slice Ao164 y628.length co164 : Value).ownBlock ∧ some k_ ≠ (.slice Ao183 y642.length co183 : Value).ownBlock ∧ some k_ ≠ (.slice Ao185 y652.length co185 : Value).ownBlock ∧ k_ ≠ gb580 ∧ k_ ≠ gb581 ∧ k_ ≠ gb582 ∧ k_ ≠ gb594 ∧ k_ ≠ gb613 ∧ k_ ≠ gb631)) (HO_581001.out) (fun k_ hk => ⟨hk.1, ⟨hk.2.1, ⟨hk.2.2.1, ⟨hk.2.2.2.1, ⟨hk.2.2.2.2.1, ⟨hk.2.2.2.2.2.1, ⟨hk.2.2.2.2.2.2.1, ⟨hk.2.2.2.2.2.2.2.1, ⟨hk.2.2.2.2.2.2.2.2.1, ⟨hk.2.2.2.2.2.2.2.2.2.1, hk.2.2.2.2.2.2.2.2.2.2⟩⟩⟩⟩⟩⟩⟩⟩⟩⟩))).2.1 (Kd.V_F (Kd.V_mono (ok' := (fun k_ => (P0_1_ k_ ∨ w.heap.size ≤ k_) ∧ some k_ ≠ (.slice Ao88 y604.length co88 : Value).ownBlock ∧ some k_ ≠ (.slice Ao164 y628.length co164 : Value).ownBlock ∧ some k_ ≠ (.slice Ao183 y642.length co183 : Value).ownBlock ∧ some k_ ≠ (.slice Ao185 y652.length co185 : Value).ownBlock ∧ k_ ≠ gb580 ∧ k_ ≠ gb581 ∧ k_ ≠ gb582 ∧ k_ ≠ gb594 ∧ k_ ≠ gb613 ∧ k_ ≠ gb631)) (HO_581001.out) (fun k_ hk => ⟨hk.1, ⟨hk.2.1, ⟨hk.2.2.1, ⟨hk.2.2.2.1, ⟨hk.2.2.2.2.1, ⟨hk.2.2.2.2.2.1, ⟨hk.2.2.2.2.2.2.1, ⟨hk.2.2.2.2.2.2.2.1, ⟨hk.2.2.2.2.2.2.2.2.1, ⟨hk.2.2.2.2.2.2.2.2.2.1, hk.2.2.2.2.2.2.2.2.2.2⟩⟩⟩⟩⟩⟩⟩⟩⟩⟩))))) (Reps.none _ _)))
             intro v656 w189 ho190 hb hg_ hnew_
             have HS15_ := (hb.cell (World.block_lt_of_cell? _ _ (hHeld.2.2.2.2.2.2.2.2.2.2.2.2.2.2.2.1))).trans (hHeld.2.2.2.2.2.2.2.2.2.2.2.2.2.2.2.1)
             have HS16_ := (hb.cell (World.block_lt_of_cell? _ _ (hHeld.2.2.2.2.2.2.2.2.2.2.2.2.2.2.2.2))).trans (hHeld.2.2.2.2.2.2.2.2.2.2.2.2.2.2.2.2)
             clear hg_ hnew_
             (first | rw [← Ny655.out] at ho190 | (simp only [Int.reduceToNat] at ho190; rw [← Ny655.out] at ho190))
             replace HO_581001 := Aside0.mk (Kd.V_elder' (Kd.pl_V HO_581001.out) (Kd.N_base ho190) hb)
             replace HO_595004 := Aside0.mk (Kd.R_below (Kd.pl_R HO_595004.out) hb)
             replace HO630 := Aside0.mk (Kd.R_below (Kd.pl_R HO630.out) hb)
             replace HO644 := Aside0.mk (Kd.R_below (Kd.pl_R HO644.out) hb)
             replace HO654 := Aside0.mk (Kd.R_below (Kd.pl_R HO654.out) hb)
             have HO657 := Aside0.mk (Kd.N_lower ho190 (below_size (pl_below HB.out)))
             replace BK580 := bb BK580 hb
             replace BK581 := bb BK581 hb
             replace BK582 := bb BK582 hb
             replace BK594 := bb BK594 hb
             replace BK613 := bb BK613 hb
             replace BK631 := bb BK631 hb
             replace HB := hB HB hb
             clear hb ho190
             obtain ⟨Ao191, co191, eo191⟩ := Kd.N_slice HO657.out
             (first | subst eo191 | (injection eo191 with f1_ f2_ f3_; have f4_ := f1_.symm; have f5_ := f3_.symm; clear f1_ f2_ f3_; subst f4_; subst f5_))
             refine hK.out _ _ ⟨(blk_cell BK580.out 0).trans rfl, (blk_cell BK580.out 1).trans rfl, (blk_cell BK613.out 0).trans rfl, (blk_cell BK613.out 1).trans rfl, (blk_cell BK613.out 2).trans rfl, (blk_cell BK613.out 3).trans rfl, (blk_cell BK613.out 4).trans rfl, (blk_cell BK631.out 0).trans rfl, (blk_cell BK631.out 1).trans rfl, (blk_cell BK631.out 2).trans rfl, (blk_cell BK631.out 3).trans rfl, (blk_cell BK631.out 4).trans rfl, (blk_cell BK582.out 0).trans rfl, (blk_cell BK582.out 1).trans rfl, (blk_cell BK582.out 2).trans rfl, HS15_, HS16_⟩ (fun hHeld => ?_)
             clear hK K
             refine norm_ (a' := ?_) ?_ ?_
             rotate_left
             ·show Act.put _ (some 124) _ = _
              simp only [Act.put, List.setIfInBounds_toArray, List.set_cons_zero, List.set_cons_succ, i64_w, i32_w]
              rfl
             refine one_ (i := 5) (N := some 126) #[true, true, true, true, true, true, false, false, false, false, false, false, false, false, false, false, false, false, false, false, false, false, false, false, false, false] rfl rfl (one_of HT_.out (by kernel_rfl)) (by decide) (fun K hK => ?_)
             refine goes_ Try.func19 (by kernel_rfl) rfl #[.slice Ao191 y655.length co191, .agg #[.int .i64 a1_0, .int .i64 a1_1, .int .i64 a1_2, .string a1_3, .slice Ao164 y628.length co164]] (by rfl) rfl rfl (by (try simp only [List.map_toArray, List.map_cons, List.map_nil]); first | done | rfl | (simp only [List.length_drop, List.length_take]; rfl)) ?_
             with_reducible refine (event_Fits.calls k3 _ _ y655 a1_0 a1_1 a1_2 a1_3 _ _ y628 t658 _ ?side1 ?side2 ?side3 ?side4 A141.out).mono ?_
             (case side1 => repeat (first | exact (Kd.N_reads' HO657.out).2.2 | (with_reducible refine Kd.C_alloc ?_ _) | (with_reducible refine Kd.C_drewN ?_ _) | (with_reducible refine Kd.C_drew ?_)))
             (case side2 => exact (Kd.N_reads' HO657.out).2.1)
             (case side3 => repeat (first | exact (Kd.R_reads' HO630.out).2.2 | (with_reducible refine Kd.C_alloc ?_ _) | (with_reducible refine Kd.C_drewN ?_ _) | (with_reducible refine Kd.C_drew ?_)))
             (case side4 => exact (Kd.R_reads' HO630.out).2.1)
             rintro e w192 ⟨rfl, hb⟩
             have HS15_ := (hb.cell (World.block_lt_of_cell? _ _ (hHeld.2.2.2.2.2.2.2.2.2.2.2.2.2.2.2.1))).trans (hHeld.2.2.2.2.2.2.2.2.2.2.2.2.2.2.2.1)
             have HS16_ := (hb.cell (World.block_lt_of_cell? _ _ (hHeld.2.2.2.2.2.2.2.2.2.2.2.2.2.2.2.2))).trans (hHeld.2.2.2.2.2.2.2.2.2.2.2.2.2.2.2.2)
             refine ⟨_, rfl, ?_⟩
             replace HO_581001 := Aside0.mk (Kd.V_below (Kd.pl_V HO_581001.out) hb)
             replace HO_595004 := Aside0.mk (Kd.R_below (Kd.pl_R HO_595004.out) hb)
             replace HO630 := Aside0.mk (Kd.R_below (Kd.pl_R HO630.out) hb)
             replace HO644 := Aside0.mk (Kd.R_below (Kd.pl_R HO644.out) hb)
             replace HO654 := Aside0.mk (Kd.R_below (Kd.pl_R HO654.out) hb)
             replace HO657 := Aside0.mk (Kd.N_below (Kd.pl_N HO657.out) hb)
             replace BK580 := bb BK580 hb
             replace BK581 := bb BK581 hb
             replace BK582 := bb BK582 hb
             replace BK594 := bb BK594 hb
             replace BK613 := bb BK613 hb
             replace BK631 := bb BK631 hb
             replace HB := hB HB hb
             (try clear hb)
             (try clear hb2)
             (try clear hk)
             (try clear hi)
             refine hK.out _ _ ⟨(blk_cell BK580.out 0).trans rfl, (blk_cell BK580.out 1).trans rfl, (blk_cell BK613.out 0).trans rfl, (blk_cell BK613.out 1).trans rfl, (blk_cell BK613.out 2).trans rfl, (blk_cell BK613.out 3).trans rfl, (blk_cell BK613.out 4).trans rfl, (blk_cell BK631.out 0).trans rfl, (blk_cell BK631.out 1).trans rfl, (blk_cell BK631.out 2).trans rfl, (blk_cell BK631.out 3).trans rfl, (blk_cell BK631.out 4).trans rfl, (blk_cell BK582.out 0).trans rfl, (blk_cell BK582.out 1).trans rfl, (blk_cell BK582.out 2).trans rfl, HS15_, HS16_⟩ (fun hHeld => ?_)
             clear hK K
             refine norm_ (a' := ?_) ?_ ?_
             rotate_left
             ·show Act.put _ (some 126) _ = _
              simp only [Act.put, List.setIfInBounds_toArray, List.set_cons_zero, List.set_cons_succ, i64_w, i32_w]
              rfl
             refine pure_ (i := 6) (N := some 127) (v := ?_) (a' := ?_) #[true, true, true, true, true, true, true, false, false, false, false, false, false, false, false, false, false, false, false, false, false, false, false, false, false, false] rfl rfl (any_of HT_.out (by kernel_rfl)) (fun _ _ _ h => h) (Or.inl ⟨by rfl, ?_⟩) ?_ ?_
             rotate_left
             ·intro w'
              go_simp
              with_reducible rfl
             rotate_left
             ·simp only [Act.put, List.setIfInBounds_toArray, List.set_cons_zero, List.set_cons_succ, i64_w, i32_w]
              rfl
             refine pure_ (i := 7) (N := some 128) (v := ?_) (a' := ?_) #[true, true, true, true, true, true, true, true, false, false, false, false, false, false, false, false, false, false, false, false, false, false, false, false, false, false] rfl rfl (any_of HT_.out (by kernel_rfl)) (fun _ _ _ h => h) (Or.inl ⟨by rfl, ?_⟩) ?_ ?_
             rotate_left
             ·intro w'
              go_simp
              with_reducible rfl
             rotate_left
             ·simp only [Act.put, List.setIfInBounds_toArray, List.set_cons_zero, List.set_cons_succ, i64_w, i32_w]
              rfl
             refine pure_ (i := 8) (N := some 129) (v := ?_) (a' := ?_) #[true, true, true, true, true, true, true, true, true, false, false, false, false, false, false, false, false, false, false, false, false, false, false, false, false, false] rfl rfl (any_of HT_.out (by kernel_rfl)) (fun _ _ _ h => h) (Or.inl ⟨by rfl, ?_⟩) ?_ ?_
             rotate_left
             ·intro w'
              go_simp
              with_reducible rfl
             rotate_left
             ·simp only [Act.put, List.setIfInBounds_toArray, List.set_cons_zero, List.set_cons_succ, i64_w, i32_w]
              rfl
             refine pure_ (i := 14) (N := some 135) (v := ?_) (a' := ?_) #[true, true, true, true, true, true, true, true, true, false, false, false, false, false, true, false, false, false, false, false, false, false, false, false, false, false] rfl rfl (any_of HT_.out (by kernel_rfl)) (fun _ _ _ h => h) (Or.inl ⟨by rfl, ?_⟩) ?_ ?_
             rotate_left
             ·intro w'
              go_simp
              with_reducible rfl
             rotate_left
             ·simp only [Act.put, List.setIfInBounds_toArray, List.set_cons_zero, List.set_cons_succ, i64_w, i32_w]
              rfl
             refine pure_ (i := 16) (N := some 137) (v := ?_) (a' := ?_) #[true, true, true, true, true, true, true, true, true, false, false, false, false, false, true, false, true, false, false, false, false, false, false, false, false, false] rfl rfl (any_of HT_.out (by kernel_rfl)) (fun _ _ _ h => h) (Or.inl ⟨by rfl, ?_⟩) ?_ ?_
             rotate_left
             ·intro w'
              go_simp
              with_reducible rfl
             rotate_left
             ·simp only [Act.put, List.setIfInBounds_toArray, List.set_cons_zero, List.set_cons_succ, i64_w, i32_w]
              rfl
             refine pure_ (i := 18) (N := some 139) (v := ?_) (a' := ?_) #[true, true, true, true, true, true, true, true, true, false, false, false, false, false, true, false, true, false, true, false, false, false, false, false, false, false] rfl rfl (any_of HT_.out (by kernel_rfl)) (fun _ _ _ h => h) (Or.inl ⟨by rfl, ?_⟩) ?_ ?_
             rotate_left
             ·intro w'
              go_simp
              with_reducible rfl
             rotate_left
             ·simp only [Act.put, List.setIfInBounds_toArray, List.set_cons_zero, List.set_cons_succ, i64_w, i32_w]
              rfl
             refine take_ (i := 9) (N := some 130) (v := ?_) (a' := ?_) #[true, true, true, true, true, true, true, true, true, true, false, false, false, false, true, false, true, false, true, false, false, false, false, false, false, false] rfl rfl (take_ofW HT_.out HW_.out (by kernel_rfl)) (fun _ _ _ h => h) (Or.inl ⟨by rfl, ?_⟩) hHeld ?_ ?_
             rotate_left
             ·rintro w' ⟨s0, s1, s2, s3, s4, s5, s6, s7, s8, s9, s10, s11, s12, s13, s14, s15, s16⟩
              go_simp
              with_reducible rfl
             rotate_left
             ·simp only [Act.put, List.setIfInBounds_toArray, List.set_cons_zero, List.set_cons_succ, i64_w, i32_w]
              rfl
             refine take_ (i := 11) (N := some 132) (v := ?_) (a' := ?_) #[true, true, true, true, true, true, true, true, true, true, false, true, false, false, true, false, true, false, true, false, false, false, false, false, false, false] rfl rfl (take_ofW HT_.out HW_.out (by kernel_rfl)) (fun _ _ _ h => h) (Or.inl ⟨by rfl, ?_⟩) hHeld ?_ ?_
             rotate_left
             ·rintro w' ⟨s0, s1, s2, s3, s4, s5, s6, s7, s8, s9, s10, s11, s12, s13, s14, s15, s16⟩
              go_simp
              with_reducible rfl
             rotate_left
             ·simp only [Act.put, List.setIfInBounds_toArray, List.set_cons_zero, List.set_cons_succ, i64_w, i32_w]
              rfl
             refine take_ (i := 15) (N := some 136) (v := ?_) (a' := ?_) #[true, true, true, true, true, true, true, true, true, true, false, true, false, false, true, true, true, false, true, false, false, false, false, false, false, false] rfl rfl (take_ofW HT_.out HW_.out (by kernel_rfl)) (fun _ _ _ h => h) (Or.inl ⟨by rfl, ?_⟩) hHeld ?_ ?_
             rotate_left
             ·rintro w' ⟨s0, s1, s2, s3, s4, s5, s6, s7, s8, s9, s10, s11, s12, s13, s14, s15, s16⟩
              go_simp
              with_reducible rfl
             rotate_left
             ·simp only [Act.put, List.setIfInBounds_toArray, List.set_cons_zero, List.set_cons_succ, i64_w, i32_w]
              rfl
             refine take_ (i := 17) (N := some 138) (v := ?_) (a' := ?_) #[true, true, true, true, true, true, true, true, true, true, false, true, false, false, true, true, true, true, true, false, false, false, false, false, false, false] rfl rfl (take_ofW HT_.out HW_.out (by kernel_rfl)) (fun _ _ _ h => h) (Or.inl ⟨by rfl, ?_⟩) hHeld ?_ ?_
             rotate_left
             ·rintro w' ⟨s0, s1, s2, s3, s4, s5, s6, s7, s8, s9, s10, s11, s12, s13, s14, s15, s16⟩
              go_simp
              with_reducible rfl
             rotate_left
             ·simp only [Act.put, List.setIfInBounds_toArray, List.set_cons_zero, List.set_cons_succ, i64_w, i32_w]
              rfl
             refine pure_ (i := 19) (N := some 140) (v := ?_) (a' := ?_) #[true, true, true, true, true, true, true, true, true, true, false, true, false, false, true, true, true, true, true, true, false, false, false, false, false, false] rfl rfl (any_of HT_.out (by kernel_rfl)) (fun _ _ _ h => h) (Or.inl ⟨by rfl, ?_⟩) ?_ ?_
             rotate_left
             ·intro w'
              go_simp
              with_reducible rfl
             rotate_left
             ·simp only [Act.put, List.setIfInBounds_toArray, List.set_cons_zero, List.set_cons_succ, i64_w, i32_w]
              rfl
             refine pure_ (i := 20) (N := some 141) (v := ?_) (a' := ?_) #[true, true, true, true, true, true, true, true, true, true, false, true, false, false, true, true, true, true, true, true, true, false, false, false, false, false] rfl rfl (any_of HT_.out (by kernel_rfl)) (fun _ _ _ h => h) (Or.inl ⟨by rfl, ?_⟩) ?_ ?_
             rotate_left
             ·intro w'
              go_simp
              with_reducible rfl
             rotate_left
             ·simp only [Act.put, List.setIfInBounds_toArray, List.set_cons_zero, List.set_cons_succ, i64_w, i32_w]
              rfl
             refine take_ (i := 21) (N := some 142) (v := ?_) (a' := ?_) #[true, true, true, true, true, true, true, true, true, true, false, true, false, false, true, true, true, true, true, true, true, true, false, false, false, false] rfl rfl (take_ofW HT_.out HW_.out (by kernel_rfl)) (fun _ _ _ h => h) (Or.inl ⟨by rfl, ?_⟩) hHeld ?_ ?_
             rotate_left
             ·rintro w' ⟨s0, s1, s2, s3, s4, s5, s6, s7, s8, s9, s10, s11, s12, s13, s14, s15, s16⟩
              go_simp
              with_reducible rfl
             rotate_left
             ·simp only [Act.put, List.setIfInBounds_toArray, List.set_cons_zero, List.set_cons_succ, i64_w, i32_w]
              rfl
             refine pure_ (i := 22) (N := some 143) (v := ?_) (a' := ?_) #[true, true, true, true, true, true, true, true, true, true, false, true, false, false, true, true, true, true, true, true, true, true, true, false, false, false] rfl rfl (any_of HT_.out (by kernel_rfl)) (fun _ _ _ h => h) (Or.inl ⟨by rfl, ?_⟩) ?_ ?_
             rotate_left
             ·intro w'
              go_simp
              with_reducible rfl
             rotate_left
             ·simp only [Act.put, List.setIfInBounds_toArray, List.set_cons_zero, List.set_cons_succ, i64_w, i32_w]
              rfl
             refine one_ (i := 10) (N := some 131) #[true, true, true, true, true, true, true, true, true, true, true, true, false, false, true, true, true, true, true, true, true, true, true, false, false, false] rfl rfl (one_of HT_.out (by kernel_rfl)) (by decide) (fun K hK => ?_)
             refine Kd.N_lit_step k31 _ 31 ?hg (N' := 131) ?hd (xs := ([(⟨a0_0, l0_1⟩ : S31)] : List (S31))) (inner := [.string a0_0, .slice (some ad663) l0_1.length c0_1]) (ok := (fun k_ => (P0_1_ k_ ∨ w.heap.size ≤ k_) ∧ some k_ ≠ (.slice Ao88 y604.length co88 : Value).ownBlock ∧ some k_ ≠ (.slice Ao164 y628.length co164 : Value).ownBlock ∧ some k_ ≠ (.slice Ao183 y642.length co183 : Value).ownBlock ∧ some k_ ≠ (.slice Ao185 y652.length co185 : Value).ownBlock ∧ some k_ ≠ (.slice Ao191 y655.length co191 : Value).ownBlock ∧ k_ ≠ gb580 ∧ k_ ≠ gb581 ∧ k_ ≠ gb582 ∧ k_ ≠ gb594 ∧ k_ ≠ gb613 ∧ k_ ≠ gb631)) (okp := (fun k_ => (P0_1_ k_ ∨ w.heap.size ≤ k_) ∧ some k_ ≠ (.slice Ao88 y604.length co88 : Value).ownBlock ∧ some k_ ≠ (.slice Ao164 y628.length co164 : Value).ownBlock ∧ some k_ ≠ (.slice Ao183 y642.length co183 : Value).ownBlock ∧ some k_ ≠ (.slice Ao185 y652.length co185 : Value).ownBlock ∧ some k_ ≠ (.slice Ao191 y655.length co191 : Value).ownBlock ∧ k_ ≠ gb580 ∧ k_ ≠ gb581 ∧ k_ ≠ gb582 ∧ k_ ≠ gb594 ∧ k_ ≠ gb613 ∧ k_ ≠ gb631)) ?hr ?hp (fun _ hk => hk) ((show ∀ k_, w192.heap.size ≤ k_ → (fun k_ => (P0_1_ k_ ∨ w.heap.size ≤ k_) ∧ some k_ ≠ (.slice Ao88 y604.length co88 : Value).ownBlock ∧ some k_ ≠ (.slice Ao164 y628.length co164 : Value).ownBlock ∧ some k_ ≠ (.slice Ao183 y642.length co183 : Value).ownBlock ∧ some k_ ≠ (.slice Ao185 y652.length co185 : Value).ownBlock ∧ some k_ ≠ (.slice Ao191 y655.length co191 : Value).ownBlock ∧ k_ ≠ gb580 ∧ k_ ≠ gb581 ∧ k_ ≠ gb582 ∧ k_ ≠ gb594 ∧ k_ ≠ gb613 ∧ k_ ≠ gb631) k_ from fun k_ hk => ⟨(.inr (Nat.le_trans (below_size (pl_below HB.out)) hk)), Kd.fresh' (Kd.R_lt (Kd.pl_R HO_595004.out)) k_ hk, Kd.fresh' (Kd.R_lt (Kd.pl_R HO630.out)) k_ hk, Kd.fresh' (Kd.R_lt (Kd.pl_R HO644.out)) k_ hk, Kd.fresh' (Kd.R_lt (Kd.pl_R HO654.out)) k_ hk, Kd.fresh' (Kd.N_lt (Kd.pl_N HO657.out)) k_ hk, Kd.freshB (g := gb580) (o := .cells #[.string a0_0, .slice (some ad663) l0_1.length c0_1] 31 (0, 0)) (pl_blk BK580.out) k_ hk, Kd.freshB (g := gb581) (o := .cells #[.int .i64 a1_0, .int .i64 a1_1, .int .i64 a1_2, .string a1_3, .slice A1_4 l1_4.length c1_4] 25 (0, 0)) (pl_blk BK581.out) k_ hk, Kd.freshB (g := gb582) (o := .cells #[.int .i64 a3_0, .int .i64 a3_1, .string a3_2] 52 (0, 0)) (pl_blk BK582.out) k_ hk, Kd.freshB (g := gb594) (o := .cells #[.int .i64 a1_0, .int .i64 a1_1, .int .i64 a1_2, .string a1_3, .slice Ao88 y604.length co88] 25 (0, 0)) (pl_blk BK594.out) k_ hk, Kd.freshB (g := gb613) (o := .cells #[.int .i64 a1_0, .int .i64 a1_1, .int .i64 a1_2, .string a1_3, .slice Ao164 y628.length co164] 25 (0, 0)) (pl_blk BK613.out) k_ hk, Kd.freshB (g := gb631) (o := .cells #[.int .i64 a1_0, .int .i64 a1_1, .int .i64 a1_2, .string a1_3, .slice Ao185 y652.length co185] 25 (0, 0)) (pl_blk BK631.out) k_ hk⟩) _ (Nat.le_refl _)) (Below.refl _ _) (Nat.le_refl _) (by simp) ?_; (case hd => rfl); (case hg => rfl); (case hr => first | (go_simp; done) | (go_simp; rfl)); (case hp => exact (Reps.c2 (show Kd.FK k31 _ _ (⟨a0_0, l0_1⟩ : S31) [.string a0_0, .slice (some ad663) l0_1.length c0_1] from (k31_mkF _ _ (⟨a0_0, l0_1⟩ : S31) (Kd.V_reads' (Kd.V_mono (ok' := (fun k_ => (P0_1_ k_ ∨ w.heap.size ≤ k_) ∧ some k_ ≠ (.slice Ao88 y604.length co88 : Value).ownBlock ∧ some k_ ≠ (.slice Ao164 y628.length co164 : Value).ownBlock ∧ some k_ ≠ (.slice Ao183 y642.length co183 : Value).ownBlock ∧ some k_ ≠ (.slice Ao185 y652.length co185 : Value).ownBlock ∧ some k_ ≠ (.slice Ao191 y655.length co191 : Value).ownBlock ∧ k_ ≠ gb580 ∧ k_ ≠ gb581 ∧ k_ ≠ gb582 ∧ k_ ≠ gb594 ∧ k_ ≠ gb613 ∧ k_ ≠ gb631)) (HO_581001.out) (fun k_ hk => ⟨hk.1.1, ⟨hk.1.2.1, ⟨hk.1.2.2.1, ⟨hk.1.2.2.2.1, ⟨hk.1.2.2.2.2.1, ⟨hk.2, ⟨hk.1.2.2.2.2.2.1, ⟨hk.1.2.2.2.2.2.2.1, ⟨hk.1.2.2.2.2.2.2.2.1, ⟨hk.1.2.2.2.2.2.2.2.2.1, ⟨hk.1.2.2.2.2.2.2.2.2.2.1, hk.1.2.2.2.2.2.2.2.2.2.2⟩⟩⟩⟩⟩⟩⟩⟩⟩⟩⟩))).2.1 (Kd.V_F (Kd.V_mono (ok' := (fun k_ => (P0_1_ k_ ∨ w.heap.size ≤ k_) ∧ some k_ ≠ (.slice Ao88 y604.length co88 : Value).ownBlock ∧ some k_ ≠ (.slice Ao164 y628.length co164 : Value).ownBlock ∧ some k_ ≠ (.slice Ao183 y642.length co183 : Value).ownBlock ∧ some k_ ≠ (.slice Ao185 y652.length co185 : Value).ownBlock ∧ some k_ ≠ (.slice Ao191 y655.length co191 : Value).ownBlock ∧ k_ ≠ gb580 ∧ k_ ≠ gb581 ∧ k_ ≠ gb582 ∧ k_ ≠ gb594 ∧ k_ ≠ gb613 ∧ k_ ≠ gb631)) (HO_581001.out) (fun k_ hk => ⟨hk.1.1, ⟨hk.1.2.1, ⟨hk.1.2.2.1, ⟨hk.1.2.2.2.1, ⟨hk.1.2.2.2.2.1, ⟨hk.2, ⟨hk.1.2.2.2.2.2.1, ⟨hk.1.2.2.2.2.2.2.1, ⟨hk.1.2.2.2.2.2.2.2.1, ⟨hk.1.2.2.2.2.2.2.2.2.1, ⟨hk.1.2.2.2.2.2.2.2.2.2.1, hk.1.2.2.2.2.2.2.2.2.2.2⟩⟩⟩⟩⟩⟩⟩⟩⟩⟩⟩))))) (Reps.none _ _)))
             intro v660 w193 ho194 hb hg_ hnew_
             have HS15_ := (hb.cell (World.block_lt_of_cell? _ _ (hHeld.2.2.2.2.2.2.2.2.2.2.2.2.2.2.2.1))).trans (hHeld.2.2.2.2.2.2.2.2.2.2.2.2.2.2.2.1)
             have HS16_ := (hb.cell (World.block_lt_of_cell? _ _ (hHeld.2.2.2.2.2.2.2.2.2.2.2.2.2.2.2.2))).trans (hHeld.2.2.2.2.2.2.2.2.2.2.2.2.2.2.2.2)
             clear hg_ hnew_
             (first | rw [← Ny659.out] at ho194 | (simp only [Int.reduceToNat] at ho194; rw [← Ny659.out] at ho194))
             replace HO_581001 := Aside0.mk (Kd.V_elder' (Kd.pl_V HO_581001.out) (Kd.N_base ho194) hb)
             replace HO_595004 := Aside0.mk (Kd.R_below (Kd.pl_R HO_595004.out) hb)
             replace HO630 := Aside0.mk (Kd.R_below (Kd.pl_R HO630.out) hb)
             replace HO644 := Aside0.mk (Kd.R_below (Kd.pl_R HO644.out) hb)
             replace HO654 := Aside0.mk (Kd.R_below (Kd.pl_R HO654.out) hb)
             replace HO657 := Aside0.mk (Kd.N_elder' (Kd.pl_N HO657.out) (Kd.N_base ho194) hb)
             have HO661 := Aside0.mk (Kd.N_lower ho194 (below_size (pl_below HB.out)))
             replace BK580 := bb BK580 hb
             replace BK581 := bb BK581 hb
             replace BK582 := bb BK582 hb
             replace BK594 := bb BK594 hb
             replace BK613 := bb BK613 hb
             replace BK631 := bb BK631 hb
             replace HB := hB HB hb
             clear hb ho194
             obtain ⟨Ao195, co195, eo195⟩ := Kd.N_slice HO661.out
             (first | subst eo195 | (injection eo195 with f1_ f2_ f3_; have f4_ := f1_.symm; have f5_ := f3_.symm; clear f1_ f2_ f3_; subst f4_; subst f5_))
             refine hK.out _ _ ⟨(blk_cell BK580.out 0).trans rfl, (blk_cell BK580.out 1).trans rfl, (blk_cell BK613.out 0).trans rfl, (blk_cell BK613.out 1).trans rfl, (blk_cell BK613.out 2).trans rfl, (blk_cell BK613.out 3).trans rfl, (blk_cell BK613.out 4).trans rfl, (blk_cell BK631.out 0).trans rfl, (blk_cell BK631.out 1).trans rfl, (blk_cell BK631.out 2).trans rfl, (blk_cell BK631.out 3).trans rfl, (blk_cell BK631.out 4).trans rfl, (blk_cell BK582.out 0).trans rfl, (blk_cell BK582.out 1).trans rfl, (blk_cell BK582.out 2).trans rfl, HS15_, HS16_⟩ (fun hHeld => ?_)
             clear hK K
             refine norm_ (a' := ?_) ?_ ?_
             rotate_left
             ·show Act.put _ (some 131) _ = _
              simp only [Act.put, List.setIfInBounds_toArray, List.set_cons_zero, List.set_cons_succ, i64_w, i32_w]
              rfl
             refine one_ (i := 12) (N := some 133) #[true, true, true, true, true, true, true, true, true, true, true, true, true, false, true, true, true, true, true, true, true, true, true, false, false, false] rfl rfl (one_of HT_.out (by kernel_rfl)) (by decide) (fun K hK => ?_)
             refine goes_ Try.func19 (by kernel_rfl) rfl #[.slice Ao195 y659.length co195, .agg #[.int .i64 a1_0, .int .i64 a1_1, .int .i64 a1_2, .string a1_3, .slice Ao185 y652.length co185]] (by rfl) rfl rfl (by (try simp only [List.map_toArray, List.map_cons, List.map_nil]); first | done | rfl | (simp only [List.length_drop, List.length_take]; rfl)) ?_
             with_reducible refine (event_Fits.calls k3 _ _ y659 a1_0 a1_1 a1_2 a1_3 _ _ y652 t662 _ ?side1 ?side2 ?side3 ?side4 A143.out).mono ?_
             (case side1 => repeat (first | exact (Kd.N_reads' HO661.out).2.2 | (with_reducible refine Kd.C_alloc ?_ _) | (with_reducible refine Kd.C_drewN ?_ _) | (with_reducible refine Kd.C_drew ?_)))
             (case side2 => exact (Kd.N_reads' HO661.out).2.1)
             (case side3 => repeat (first | exact (Kd.R_reads' HO654.out).2.2 | (with_reducible refine Kd.C_alloc ?_ _) | (with_reducible refine Kd.C_drewN ?_ _) | (with_reducible refine Kd.C_drew ?_)))
             (case side4 => exact (Kd.R_reads' HO654.out).2.1)
             rintro e w196 ⟨rfl, hb⟩
             have HS15_ := (hb.cell (World.block_lt_of_cell? _ _ (hHeld.2.2.2.2.2.2.2.2.2.2.2.2.2.2.2.1))).trans (hHeld.2.2.2.2.2.2.2.2.2.2.2.2.2.2.2.1)
             have HS16_ := (hb.cell (World.block_lt_of_cell? _ _ (hHeld.2.2.2.2.2.2.2.2.2.2.2.2.2.2.2.2))).trans (hHeld.2.2.2.2.2.2.2.2.2.2.2.2.2.2.2.2)
             refine ⟨_, rfl, ?_⟩
             replace HO_581001 := Aside0.mk (Kd.V_below (Kd.pl_V HO_581001.out) hb)
             replace HO_595004 := Aside0.mk (Kd.R_below (Kd.pl_R HO_595004.out) hb)
             replace HO630 := Aside0.mk (Kd.R_below (Kd.pl_R HO630.out) hb)
             replace HO644 := Aside0.mk (Kd.R_below (Kd.pl_R HO644.out) hb)
             replace HO654 := Aside0.mk (Kd.R_below (Kd.pl_R HO654.out) hb)
             replace HO657 := Aside0.mk (Kd.N_below (Kd.pl_N HO657.out) hb)
             replace HO661 := Aside0.mk (Kd.N_below (Kd.pl_N HO661.out) hb)
             replace BK580 := bb BK580 hb
             replace BK581 := bb BK581 hb
             replace BK582 := bb BK582 hb
             replace BK594 := bb BK594 hb
             replace BK613 := bb BK613 hb
             replace BK631 := bb BK631 hb
             replace HB := hB HB hb
             (try clear hb)
             (try clear hb2)
             (try clear hk)
             (try clear hi)
             refine hK.out _ _ ⟨(blk_cell BK580.out 0).trans rfl, (blk_cell BK580.out 1).trans rfl, (blk_cell BK613.out 0).trans rfl, (blk_cell BK613.out 1).trans rfl, (blk_cell BK613.out 2).trans rfl, (blk_cell BK613.out 3).trans rfl, (blk_cell BK613.out 4).trans rfl, (blk_cell BK631.out 0).trans rfl, (blk_cell BK631.out 1).trans rfl, (blk_cell BK631.out 2).trans rfl, (blk_cell BK631.out 3).trans rfl, (blk_cell BK631.out 4).trans rfl, (blk_cell BK582.out 0).trans rfl, (blk_cell BK582.out 1).trans rfl, (blk_cell BK582.out 2).trans rfl, HS15_, HS16_⟩ (fun hHeld => ?_)
             clear hK K
             refine norm_ (a' := ?_) ?_ ?_
             rotate_left
             ·show Act.put _ (some 133) _ = _
              simp only [Act.put, List.setIfInBounds_toArray, List.set_cons_zero, List.set_cons_succ, i64_w, i32_w]
              rfl
             refine pure_ (i := 13) (N := some 134) (v := ?_) (a' := ?_) #[true, true, true, true, true, true, true, true, true, true, true, true, true, true, true, true, true, true, true, true, true, true, true, false, false, false] rfl rfl (any_of HT_.out (by kernel_rfl)) (fun _ _ _ h => h) (Or.inl ⟨by rfl, ?_⟩) ?_ ?_
             rotate_left
             ·intro w'
              go_simp
              with_reducible rfl
             rotate_left
             ·simp only [Act.put, List.setIfInBounds_toArray, List.set_cons_zero, List.set_cons_succ, i64_w, i32_w]
              rfl
             refine pure_ (i := 23) (N := some 144) (v := ?_) (a' := ?_) #[true, true, true, true, true, true, true, true, true, true, true, true, true, true, true, true, true, true, true, true, true, true, true, true, false, false] rfl rfl (any_of HT_.out (by kernel_rfl)) (fun _ _ _ h => h) (Or.inl ⟨by rfl, ?_⟩) ?_ ?_
             rotate_left
             ·intro w'
              go_simp
              with_reducible rfl
             rotate_left
             ·simp only [Act.put, List.setIfInBounds_toArray, List.set_cons_zero, List.set_cons_succ, i64_w, i32_w]
              rfl
             refine pure_ (i := 24) (N := some 145) (v := ?_) (a' := ?_) #[true, true, true, true, true, true, true, true, true, true, true, true, true, true, true, true, true, true, true, true, true, true, true, true, true, false] rfl rfl (any_of HT_.out (by kernel_rfl)) (fun _ _ _ h => h) (Or.inl ⟨by rfl, ?_⟩) ?_ ?_
             rotate_left
             ·intro w'
              go_simp
              with_reducible rfl
             rotate_left
             ·simp only [Act.put, List.setIfInBounds_toArray, List.set_cons_zero, List.set_cons_succ, i64_w, i32_w]
              rfl
             refine pure_ (i := 25) (N := some 8) (v := ?_) (a' := ?_) #[true, true, true, true, true, true, true, true, true, true, true, true, true, true, true, true, true, true, true, true, true, true, true, true, true, true] rfl rfl (any_of HT_.out (by kernel_rfl)) (fun _ _ _ h => h) (Or.inl ⟨by rfl, ?_⟩) ?_ ?_
             rotate_left
             ·intro w'
              go_simp
              with_reducible rfl
             rotate_left
             ·simp only [Act.put, List.setIfInBounds_toArray, List.set_cons_zero, List.set_cons_succ, i64_w, i32_w]
              rfl
             refine done_ (done_of HT_.out (by kernel_rfl)) ?_
             try go_wp2
             go_ret
             exact ⟨by first | rfl | (simp [errW_none, errW_some] <;> rfl) | (simp only [← hji129, ← hji133]; first | rfl | (simp [errW_none, errW_some] <;> rfl)) | (simp [*, errW_none, errW_some] <;> rfl), pl_below HB.out⟩
            ·rw [if_neg c142] at H
             have c142b0 : (t658 == 42) = false := beq_eq_false_iff_ne.mpr c142
             have c142b1 : (t658 != 42) = true := bne_iff_ne.mpr c142
             exact absurd H (by simp)
           ·replace c140 := Bool.eq_false_iff.mpr c140
            subst c140
            rw [if_neg (show ¬ (false = true) by decide)] at H
            exact absurd H (by simp)

/-- THE ONE PURE STATEMENT of augurylaw05_EventFits: yours. -/
def augurylaw05_EventFits.Pure : Prop := ∀ (x0 : S31) (x1 : S25) (a2 : Int) (x3 : S52), ok31 x0 → ok25 x1 → (Lit.int .u8 a2).wf = true → ok52 x3 → ∃ k, augurylaw05_EventFits.f k x0.f0 x0.f1 x1.f0 x1.f1 x1.f2 x1.f3 x1.f4 a2 x3.f0 x3.f1 x3.f2 = some true

end Go.Proofs.Ytbnjhmcbkocdjaa.PAll
