/- Written by this session's own program (wip/xprint): functions of the Go program as Lean functions, and proofs that the Go code computes them. -/
import Derived.Test.YtbnjhmcbkocdjaaPAllx0
import Derived.Test.YtbnjhmcbkocdjaaPAllx16
import Derived.Test.YtbnjhmcbkocdjaaPAllx24
import Derived.Test.YtbnjhmcbkocdjaaPAllx26
namespace Go.Proofs.Ytbnjhmcbkocdjaa.PAll
open Go.RowKit Go.Proofs.YtbnjhmcbkocdjaaW.PrintWords Go.Proofs.YtbnjhmcbkocdjaaW.PrintLast Go.Proofs.YtbnjhmcbkocdjaaW.PrintMore
attribute [local go_sem] max2_int min2_int max_two min_two max_three min_three max_four min_four   -- for this text's walks alone
set_option linter.unusedVariables false
set_option linter.unusedSimpArgs false

/-! ### event_Get: function 25 -/
def event_Get.l0 : Nat → Int → Int → List Int → Bool → Int → Int → Int → ByteArray → List (S52) → Option (Int × Int × Int × ByteArray × (List (S52)) × Bool)
  | 0, _, _, _, _, _, _, _, _, _ => none
  | k + 1, x48, x49, x223000, x223001, x239000, x239001, x239002, x239003, x239004 => if x49 < x48 then ((value_Get.f k x223000).bind fun bt259 => (if bt259.2.2.2.2 = true then ((some (([(⟨bt259.1, bt259.2.1, bt259.2.2.1⟩ : S52)] : List (S52)) : List (S52))).bind fun y265 => (if x239004.length + y265.length < 4398046511104 then (if 0 ≤ bt259.2.2.2.1 then (if bt259.2.2.2.1 ≤ (x223000.length : Int) then (event_Get.l0 k x48 (wrap64 (x49 + 1)) (x223000.drop (bt259.2.2.2.1 : Int).toNat) x223001 x239000 x239001 x239002 x239003 (x239004 ++ y265)) else (none)) else (none)) else (none))) else (some (0, 0, 0, (⟨#[]⟩ : ByteArray), ([] : List (S52)), false)))) else (if x223001 = true then (some (0, 0, 0, (⟨#[]⟩ : ByteArray), ([] : List (S52)), false)) else (if (x223000.length : Int) > 0 then (some (0, 0, 0, (⟨#[]⟩ : ByteArray), ([] : List (S52)), false)) else ((event_right.f k x239000 x239001 x239002 x239003 x239004).bind fun t276 => (if t276 = true then (some (x239000, x239001, x239002, x239003, x239004, true)) else (some (0, 0, 0, (⟨#[]⟩ : ByteArray), ([] : List (S52)), false))))))
def event_Get.f (k : Nat) (l0 : List Int) : Option (Int × Int × Int × ByteArray × (List (S52)) × Bool) := (event_reader_num.f k l0 false 1099511627776).bind fun bt223 => ((event_reader_num.f k bt223.2.1 bt223.2.2 3).bind fun bt228 => ((event_reader_num.f k bt228.2.1 bt228.2.2 1099511627776).bind fun bt233 => ((event_reader_num.f k bt233.2.1 bt233.2.2 16).bind fun bt239 => (if bt239.1 > (bt239.2.1.length : Int) then (some (0, 0, 0, (⟨#[]⟩ : ByteArray), ([] : List (S52)), false)) else (if 0 ≤ bt239.1 then (if bt239.1 ≤ (bt239.2.1.length : Int) then ((event_reader_num.f k (bt239.2.1.drop (bt239.1 : Int).toNat) bt239.2.2 8).bind fun bt254 => (event_Get.l0 k bt254.1 0 bt254.2.1 bt254.2.2 bt223.1 bt228.1 bt233.1 (strOfNums (bt239.2.1.take (bt239.1 : Int).toNat)) ([] : List (S52)))) else (none)) else (none))))))
theorem event_Get.mono_l : ∀ k, (∀ y0 y1 y2 y3 y4 y5 y6 y7 y8, LeO (event_Get.l0 k y0 y1 y2 y3 y4 y5 y6 y7 y8) (event_Get.l0 (k + 1) y0 y1 y2 y3 y4 y5 y6 y7 y8))
  | 0 => fun _ _ _ _ _ _ _ _ _ r h => by simp [event_Get.l0] at h
  | k + 1 => by
    have ih0 := event_Get.mono_l k
    · intro y0 y1 y2 y3 y4 y5 y6 y7 y8
      unfold event_Get.l0
      repeat' first
      | (with_reducible exact ih0 _ _ _ _ _ _ _ _ _)
      | (with_reducible exact event_reader_num.mono _ _ _ _)
      | (with_reducible exact event_right.mono _ _ _ _ _ _)
      | (with_reducible exact value_Get.mono _ _)
      | (with_reducible exact LeO.refl _)
      | (with_reducible exact LeO.none _)
      | (with_reducible refine LeO.ite ?_ ?_)
      | (with_reducible refine LeO.bind ?_ (fun _ => ?_))
      | exact LeO.none _
      | refine LeO.ite ?_ ?_
      | refine LeO.bind ?_ (fun _ => ?_)
theorem event_Get.mono : ∀ a0 k, LeO (event_Get.f k a0) (event_Get.f (k + 1) a0) := by
  intro a0 k
  have ih0 := event_Get.mono_l k
  unfold event_Get.f
  repeat' first
      | (with_reducible exact ih0 _ _ _ _ _ _ _ _ _)
      | (with_reducible exact event_reader_num.mono _ _ _ _)
      | (with_reducible exact event_right.mono _ _ _ _ _ _)
      | (with_reducible exact value_Get.mono _ _)
      | (with_reducible exact LeO.refl _)
      | (with_reducible exact LeO.none _)
      | (with_reducible refine LeO.ite ?_ ?_)
      | (with_reducible refine LeO.bind ?_ (fun _ => ?_))
      | exact LeO.none _
      | refine LeO.ite ?_ ?_
      | refine LeO.bind ?_ (fun _ => ?_)
def event_Get.T6 : Bool × List (List Nat × List Nat) := (true, [([], []), ([], []), ([1], [1]), ([2], [2]), ([3], [3]), ([], []), ([4, 5], [4, 5]), ([6], [6]), ([], []), ([8], [8]), ([9], [9]), ([10], [10]), ([], []), ([11, 12], [11, 12]), ([1, 2, 3, 4, 5, 6, 7], []), ([14, 7, 1, 2, 3, 4, 5, 6, 7], [7, 14]), ([0, 0, 1, 2, 3, 4, 5, 6, 7, 8, 9, 10, 11, 12, 13, 14, 15], [0]), ([16, 0, 1, 2, 3, 4, 5, 6, 7, 8, 9, 10, 11, 12, 13, 14, 15], [16]), ([17, 13, 15, 0, 1, 2, 3, 4, 5, 6, 7, 8, 9, 10, 11, 12, 13, 14, 15], [13, 17])])
def event_Get.B6 : List Nat := [0, 0, 2, 6, 14, 0, 62, 126, 0, 256, 768, 1792, 0, 7936, 254, 16638, 65535, 131071, 262143]
theorem event_Get.tab6 : rtab .any (opsOf Try.f25 6) = event_Get.T6 := by kernel_rfl
theorem event_Get.bits6 : waitsOk event_Get.T6.2 event_Get.B6 = true := by kernel_rfl
def event_Get.T12 : Bool × List (List Nat × List Nat) := (true, [([], []), ([], []), ([1], [1]), ([], []), ([3], [3]), ([2, 4], [2, 4]), ([], []), ([6], [6]), ([7], [7]), ([8], [8]), ([], []), ([9, 10], [9, 10]), ([1, 2, 3, 4, 5], []), ([12, 5, 5, 1, 2, 3, 4, 5], [5, 12]), ([0, 0, 1, 2, 3, 4, 5, 6, 7, 8, 9, 10, 11, 12, 13], [0]), ([14, 0, 1, 2, 3, 4, 5, 6, 7, 8, 9, 10, 11, 12, 13], [14]), ([15, 11, 13, 0, 1, 2, 3, 4, 5, 6, 7, 8, 9, 10, 11, 12, 13], [11, 15])])
def event_Get.B12 : List Nat := [0, 0, 2, 0, 8, 30, 0, 64, 192, 448, 0, 1984, 62, 4158, 16383, 32767, 65535]
theorem event_Get.tab12 : rtab .any (opsOf Try.f25 12) = event_Get.T12 := by kernel_rfl
theorem event_Get.bits12 : waitsOk event_Get.T12.2 event_Get.B12 = true := by kernel_rfl
set_option maxHeartbeats 8000000 in
set_option maxRecDepth 100000 in
theorem event_Get.calls (k : Nat) (P0_ : Nat → Prop) (A0 : Option Addr) (c0 : Nat) (l0 : List Int) (r1 : Int) (r2 : Int) (r3 : Int) (r4 : ByteArray) (r5 : List (S52)) (r6 : Bool) (w : World) (hs0 : Kd.V (Kd.int .u8) 5 w w.heap.size (fun k_ => P0_ k_) (.slice A0 l0.length c0) l0) (h : event_Get.f k l0 = some (r1, r2, r3, r4, r5, r6)) :
    Calls Try.prog 25 #[.slice A0 l0.length c0] w fun e w' => ∃ v4_ : Value, e = .returned (.tuple #[.agg #[.int .i64 r1, .int .i64 r2, .int .i64 r3, .string r4, v4_], .bool r6]) ∧ Kd.R k52 52 w' w.heap.size (fun k_ => (w.heap.size ≤ k_)) v4_ r5 ∧ Below w.heap.size w w' := by
  have hu25 := Try.underlying25
  have hu70 := Try.underlying70
  have hu52 := Try.underlying52
  have HO0 := Aside0.mk (show Kd.V (Kd.int .u8) 5 w w.heap.size (fun k_ => (P0_ k_ ∨ w.heap.size ≤ k_)) (.slice A0 l0.length c0) l0 from Kd.V_mono hs0 (fun k_ hk => .inl hk))
  have HB := Aside0.mk (Below.refl w.heap.size w)
  have H : ((event_reader_num.f k l0 false 1099511627776).bind fun bt223 => ((event_reader_num.f k bt223.2.1 bt223.2.2 3).bind fun bt228 => ((event_reader_num.f k bt228.2.1 bt228.2.2 1099511627776).bind fun bt233 => ((event_reader_num.f k bt233.2.1 bt233.2.2 16).bind fun bt239 => (if bt239.1 > (bt239.2.1.length : Int) then (some (0, 0, 0, (⟨#[]⟩ : ByteArray), ([] : List (S52)), false)) else (if 0 ≤ bt239.1 then (if bt239.1 ≤ (bt239.2.1.length : Int) then ((event_reader_num.f k (bt239.2.1.drop (bt239.1 : Int).toNat) bt239.2.2 8).bind fun bt254 => (event_Get.l0 k bt254.1 0 bt254.2.1 bt254.2.2 bt223.1 bt228.1 bt233.1 (strOfNums (bt239.2.1.take (bt239.1 : Int).toNat)) ([] : List (S52)))) else (none)) else (none))))))) = some (r1, r2, r3, r4, r5, r6) := h
  clear h
  replace H := Option.bind_eq_some_iff.mp H
  obtain ⟨⟨t223, t224, t227⟩, A2, H⟩ := H
  (try dsimp only at H)
  replace A2 := Aside0.mk A2
  replace H := Option.bind_eq_some_iff.mp H
  obtain ⟨⟨t228, t229, t232⟩, A3, H⟩ := H
  (try dsimp only at H)
  replace A3 := Aside0.mk A3
  replace H := Option.bind_eq_some_iff.mp H
  obtain ⟨⟨t233, t234, t237⟩, A4, H⟩ := H
  (try dsimp only at H)
  replace A4 := Aside0.mk A4
  replace H := Option.bind_eq_some_iff.mp H
  obtain ⟨⟨t239, t240, t243⟩, A5, H⟩ := H
  (try dsimp only at H)
  replace A5 := Aside0.mk A5
  by_cases c6 : t239 > (t240.length : Int)
  ·rw [if_pos c6] at H
   have c6b0 : decide ((t240.length : Int) < t239) = true := decide_eq_true c6
   clear c6
   simp only [Option.some.injEq, Prod.mk.injEq] at H
   obtain ⟨rfl, rfl, rfl, rfl, rfl, rfl⟩ := H
   go_enter Try.func25, Try.ntmps25
   try go_wp2_with (first | ((with_reducible refine gate_dst (N := 2) rfl ?_); (try (refine gate_guard (by rfl) ?_; dsimp only)); refine box_event ?hg (N := 2) ?hd (cs := #[.int .i64 0, .int .i64 0, .int .i64 0, .string (⟨#[]⟩ : ByteArray), .slice none 0 0]) (t := 25) ?hr ?_; (case hd => rfl); (case hg => rfl); (case hr => first | (go_simp; done) | (go_simp; rfl)); intro gb221 hg w7 hbox hb; replace HO0 := Aside0.mk (Kd.V_below (Kd.V_elderB (Kd.pl_V HO0.out) gb221 (Nat.le_of_eq hg.symm)) hb); have BK221 := Aside0.mk (hbox); have GW221 := hG HB hg; have GE221 := hG HB hg; replace HB := hB HB hb; clear hb hbox hg) | ((with_reducible refine gate_dst (N := 12) rfl ?_); (try (refine gate_guard (by rfl) ?_; dsimp only)); refine box_event ?hg (N := 12) ?hd (cs := #[.slice A0 l0.length c0, .bool false]) (t := 70) ?hr ?_; (case hd => rfl); (case hg => rfl); (case hr => first | (go_simp; done) | (go_simp; rfl)); intro gb222 hg w8 hbox hb; replace HO0 := Aside0.mk (Kd.V_below (Kd.V_elderB (Kd.pl_V HO0.out) gb222 (Nat.le_of_eq hg.symm)) hb); have BK222 := Aside0.mk (hbox); have GW222 := hG HB hg; have GE222 := hG HB hg; replace HB := hB HB hb; have NB221_222 := hN BK221 hg; have NB222_221 := hM BK221 hg; replace BK221 := bb BK221 hb; clear hb hbox hg; have hnb9 := NB222_221.out; have hnc9 := NB221_222.out; obtain ⟨hcz10_0, hcz10_1, hfz10_0, hfz10_1⟩ := blk_c2 BK222.out))
   go_at_call 44; (with_reducible refine (event_reader_num.calls k gb222 A0 c0 l0 false 1099511627776 t223 t224 t227 5 w.heap.size (fun k_ => (((P0_ k_ ∨ w.heap.size ≤ k_) ∧ k_ ≠ gb221) ∧ k_ ≠ gb222)) _ ?side1 ?side2 A2.out).mono ?_)
   (case side1 => exact (pl_blk BK222.out))
   (case side2 => exact (Kd.pl_V HO0.out))
   rintro e w_ ⟨v225, rfl, rfl, hV_⟩
   have HO226 := Aside0.mk hV_
   clear hV_
   obtain ⟨Ao11, co11, eo11⟩ := Kd.V_slice HO226.out
   subst eo11
   obtain ⟨hcz12_0, hcz12_1, hfz12_0, hfz12_1⟩ := blk_c2 BK222.out
   try go_wp2_with (fail)
   go_at_call 44; (with_reducible refine (event_reader_num.calls k gb222 Ao11 co11 t224 t227 3 t228 t229 t232 5 w.heap.size (fun k_ => (((P0_ k_ ∨ w.heap.size ≤ k_) ∧ k_ ≠ gb221) ∧ k_ ≠ gb222)) _ ?side1 ?side2 A3.out).mono ?_)
   (case side1 => exact (pl_blk (blk_put (blk_put BK222.out 0 (.slice Ao11 t224.length co11) rfl) 1 (.bool t227) rfl)))
   (case side2 => exact (by (with_reducible repeat (first | apply Kd.V_alloc | apply Kd.V_drewN | apply Kd.V_drew)); exact (Kd.V_mono (Kd.V_far (p := ⟨gb222, 1, none⟩) (Kd.V_far (p := ⟨gb222, 0, none⟩) (Kd.V_mono HO226.out (fun k_ hk => (⟨hk, hk.2⟩ : _ ∧ k_ ≠ gb222))) (fun _ hk => hk.2) (.slice Ao11 t224.length co11)) (fun _ hk => hk.2) (.bool t227)) (fun _ h_ => h_.1))))
   rintro e w_ ⟨v230, rfl, rfl, hV_⟩
   have HO231 := Aside0.mk hV_
   clear hV_
   obtain ⟨Ao13, co13, eo13⟩ := Kd.V_slice HO231.out
   subst eo13
   obtain ⟨hcz14_0, hcz14_1, hfz14_0, hfz14_1⟩ := blk_c2 BK222.out
   have cy15 : (((w8.setCell ⟨gb222, 0, none⟩ (.slice Ao11 t224.length co11)).setCell ⟨gb222, 1, none⟩ (.bool t227)).setCell ⟨gb222, 0, none⟩ (.slice Ao13 t229.length co13)).heap[gb222]? = some (.cells #[.slice Ao13 t229.length co13, .bool t227] 70 (0, 0)) := (pl_blk (blk_put (blk_put (blk_put BK222.out 0 (.slice Ao11 t224.length co11) rfl) 1 (.bool t227) rfl) 0 (.slice Ao13 t229.length co13) rfl))
   have hcy15_0 : (((w8.setCell ⟨gb222, 0, none⟩ (.slice Ao11 t224.length co11)).setCell ⟨gb222, 1, none⟩ (.bool t227)).setCell ⟨gb222, 0, none⟩ (.slice Ao13 t229.length co13)).cell? ⟨gb222, 0, none⟩ = some (.slice Ao13 t229.length co13) := (blk_cell cy15 0).trans rfl
   have hcy15_1 : (((w8.setCell ⟨gb222, 0, none⟩ (.slice Ao11 t224.length co11)).setCell ⟨gb222, 1, none⟩ (.bool t227)).setCell ⟨gb222, 0, none⟩ (.slice Ao13 t229.length co13)).cell? ⟨gb222, 1, none⟩ = some (.bool t227) := (blk_cell cy15 1).trans rfl
   clear cy15
   have cy16 : ((((w8.setCell ⟨gb222, 0, none⟩ (.slice Ao11 t224.length co11)).setCell ⟨gb222, 1, none⟩ (.bool t227)).setCell ⟨gb222, 0, none⟩ (.slice Ao13 t229.length co13)).setCell ⟨gb222, 1, none⟩ (.bool t232)).heap[gb222]? = some (.cells #[.slice Ao13 t229.length co13, .bool t232] 70 (0, 0)) := (pl_blk (blk_put (blk_put (blk_put (blk_put BK222.out 0 (.slice Ao11 t224.length co11) rfl) 1 (.bool t227) rfl) 0 (.slice Ao13 t229.length co13) rfl) 1 (.bool t232) rfl))
   have hcy16_0 : ((((w8.setCell ⟨gb222, 0, none⟩ (.slice Ao11 t224.length co11)).setCell ⟨gb222, 1, none⟩ (.bool t227)).setCell ⟨gb222, 0, none⟩ (.slice Ao13 t229.length co13)).setCell ⟨gb222, 1, none⟩ (.bool t232)).cell? ⟨gb222, 0, none⟩ = some (.slice Ao13 t229.length co13) := (blk_cell cy16 0).trans rfl
   have hcy16_1 : ((((w8.setCell ⟨gb222, 0, none⟩ (.slice Ao11 t224.length co11)).setCell ⟨gb222, 1, none⟩ (.bool t227)).setCell ⟨gb222, 0, none⟩ (.slice Ao13 t229.length co13)).setCell ⟨gb222, 1, none⟩ (.bool t232)).cell? ⟨gb222, 1, none⟩ = some (.bool t232) := (blk_cell cy16 1).trans rfl
   clear cy16
   try go_wp2_with (fail)
   go_at_call 44; (with_reducible refine (event_reader_num.calls k gb222 Ao13 co13 t229 t232 1099511627776 t233 t234 t237 5 w.heap.size (fun k_ => (((P0_ k_ ∨ w.heap.size ≤ k_) ∧ k_ ≠ gb221) ∧ k_ ≠ gb222)) _ ?side1 ?side2 A4.out).mono ?_)
   (case side1 => exact (pl_blk (blk_put (blk_put (blk_put (blk_put BK222.out 0 (.slice Ao11 t224.length co11) rfl) 1 (.bool t227) rfl) 0 (.slice Ao13 t229.length co13) rfl) 1 (.bool t232) rfl)))
   (case side2 => exact (by (with_reducible repeat (first | apply Kd.V_alloc | apply Kd.V_drewN | apply Kd.V_drew)); exact (Kd.V_mono (Kd.V_far (p := ⟨gb222, 1, none⟩) (Kd.V_far (p := ⟨gb222, 0, none⟩) (Kd.V_mono HO231.out (fun k_ hk => (⟨hk, hk.2⟩ : _ ∧ k_ ≠ gb222))) (fun _ hk => hk.2) (.slice Ao13 t229.length co13)) (fun _ hk => hk.2) (.bool t232)) (fun _ h_ => h_.1))))
   rintro e w_ ⟨v235, rfl, rfl, hV_⟩
   have HO236 := Aside0.mk hV_
   clear hV_
   obtain ⟨Ao17, co17, eo17⟩ := Kd.V_slice HO236.out
   subst eo17
   obtain ⟨hcz18_0, hcz18_1, hfz18_0, hfz18_1⟩ := blk_c2 BK222.out
   have cy19 : (((((w8.setCell ⟨gb222, 0, none⟩ (.slice Ao11 t224.length co11)).setCell ⟨gb222, 1, none⟩ (.bool t227)).setCell ⟨gb222, 0, none⟩ (.slice Ao13 t229.length co13)).setCell ⟨gb222, 1, none⟩ (.bool t232)).setCell ⟨gb222, 0, none⟩ (.slice Ao17 t234.length co17)).heap[gb222]? = some (.cells #[.slice Ao17 t234.length co17, .bool t232] 70 (0, 0)) := (pl_blk (blk_put (blk_put (blk_put (blk_put (blk_put BK222.out 0 (.slice Ao11 t224.length co11) rfl) 1 (.bool t227) rfl) 0 (.slice Ao13 t229.length co13) rfl) 1 (.bool t232) rfl) 0 (.slice Ao17 t234.length co17) rfl))
   have hcy19_0 : (((((w8.setCell ⟨gb222, 0, none⟩ (.slice Ao11 t224.length co11)).setCell ⟨gb222, 1, none⟩ (.bool t227)).setCell ⟨gb222, 0, none⟩ (.slice Ao13 t229.length co13)).setCell ⟨gb222, 1, none⟩ (.bool t232)).setCell ⟨gb222, 0, none⟩ (.slice Ao17 t234.length co17)).cell? ⟨gb222, 0, none⟩ = some (.slice Ao17 t234.length co17) := (blk_cell cy19 0).trans rfl
   have hcy19_1 : (((((w8.setCell ⟨gb222, 0, none⟩ (.slice Ao11 t224.length co11)).setCell ⟨gb222, 1, none⟩ (.bool t227)).setCell ⟨gb222, 0, none⟩ (.slice Ao13 t229.length co13)).setCell ⟨gb222, 1, none⟩ (.bool t232)).setCell ⟨gb222, 0, none⟩ (.slice Ao17 t234.length co17)).cell? ⟨gb222, 1, none⟩ = some (.bool t232) := (blk_cell cy19 1).trans rfl
   clear cy19
   have cy20 : ((((((w8.setCell ⟨gb222, 0, none⟩ (.slice Ao11 t224.length co11)).setCell ⟨gb222, 1, none⟩ (.bool t227)).setCell ⟨gb222, 0, none⟩ (.slice Ao13 t229.length co13)).setCell ⟨gb222, 1, none⟩ (.bool t232)).setCell ⟨gb222, 0, none⟩ (.slice Ao17 t234.length co17)).setCell ⟨gb222, 1, none⟩ (.bool t237)).heap[gb222]? = some (.cells #[.slice Ao17 t234.length co17, .bool t237] 70 (0, 0)) := (pl_blk (blk_put (blk_put (blk_put (blk_put (blk_put (blk_put BK222.out 0 (.slice Ao11 t224.length co11) rfl) 1 (.bool t227) rfl) 0 (.slice Ao13 t229.length co13) rfl) 1 (.bool t232) rfl) 0 (.slice Ao17 t234.length co17) rfl) 1 (.bool t237) rfl))
   have hcy20_0 : ((((((w8.setCell ⟨gb222, 0, none⟩ (.slice Ao11 t224.length co11)).setCell ⟨gb222, 1, none⟩ (.bool t227)).setCell ⟨gb222, 0, none⟩ (.slice Ao13 t229.length co13)).setCell ⟨gb222, 1, none⟩ (.bool t232)).setCell ⟨gb222, 0, none⟩ (.slice Ao17 t234.length co17)).setCell ⟨gb222, 1, none⟩ (.bool t237)).cell? ⟨gb222, 0, none⟩ = some (.slice Ao17 t234.length co17) := (blk_cell cy20 0).trans rfl
   have hcy20_1 : ((((((w8.setCell ⟨gb222, 0, none⟩ (.slice Ao11 t224.length co11)).setCell ⟨gb222, 1, none⟩ (.bool t227)).setCell ⟨gb222, 0, none⟩ (.slice Ao13 t229.length co13)).setCell ⟨gb222, 1, none⟩ (.bool t232)).setCell ⟨gb222, 0, none⟩ (.slice Ao17 t234.length co17)).setCell ⟨gb222, 1, none⟩ (.bool t237)).cell? ⟨gb222, 1, none⟩ = some (.bool t237) := (blk_cell cy20 1).trans rfl
   clear cy20
   try go_wp2_with (first | ((with_reducible refine gate_dst (N := 5) rfl ?_); (try (refine gate_guard (by rfl) ?_; dsimp only)); refine box_event ?hg (N := 5) ?hd (cs := #[.int .i64 0, .int .i64 0, .int .i64 0, .string (⟨#[]⟩ : ByteArray), .slice none 0 0]) (t := 25) ?hr ?_; (case hd => rfl); (case hg => rfl); (case hr => first | (go_simp; done) | (go_simp; rfl)); intro gb238 hg w21 hbox hb; replace HO0 := Aside0.mk (Kd.V_below (Kd.V_elderB (by (with_reducible repeat (first | apply Kd.V_alloc | apply Kd.V_drewN | apply Kd.V_drew)); exact (Kd.V_mono (Kd.V_far (p := ⟨gb222, 1, none⟩) (Kd.V_far (p := ⟨gb222, 0, none⟩) (Kd.V_far (p := ⟨gb222, 1, none⟩) (Kd.V_far (p := ⟨gb222, 0, none⟩) (Kd.V_far (p := ⟨gb222, 1, none⟩) (Kd.V_far (p := ⟨gb222, 0, none⟩) (Kd.V_mono HO0.out (fun k_ hk => (⟨hk, hk.2⟩ : _ ∧ k_ ≠ gb222))) (fun _ hk => hk.2) (.slice Ao11 t224.length co11)) (fun _ hk => hk.2) (.bool t227)) (fun _ hk => hk.2) (.slice Ao13 t229.length co13)) (fun _ hk => hk.2) (.bool t232)) (fun _ hk => hk.2) (.slice Ao17 t234.length co17)) (fun _ hk => hk.2) (.bool t237)) (fun _ h_ => h_.1))) gb238 (Nat.le_of_eq hg.symm)) hb); replace HO226 := Aside0.mk (Kd.V_below (Kd.V_elderB (by (with_reducible repeat (first | apply Kd.V_alloc | apply Kd.V_drewN | apply Kd.V_drew)); exact (Kd.V_mono (Kd.V_far (p := ⟨gb222, 1, none⟩) (Kd.V_far (p := ⟨gb222, 0, none⟩) (Kd.V_far (p := ⟨gb222, 1, none⟩) (Kd.V_far (p := ⟨gb222, 0, none⟩) (Kd.V_far (p := ⟨gb222, 1, none⟩) (Kd.V_far (p := ⟨gb222, 0, none⟩) (Kd.V_mono HO226.out (fun k_ hk => (⟨hk, hk.2⟩ : _ ∧ k_ ≠ gb222))) (fun _ hk => hk.2) (.slice Ao11 t224.length co11)) (fun _ hk => hk.2) (.bool t227)) (fun _ hk => hk.2) (.slice Ao13 t229.length co13)) (fun _ hk => hk.2) (.bool t232)) (fun _ hk => hk.2) (.slice Ao17 t234.length co17)) (fun _ hk => hk.2) (.bool t237)) (fun _ h_ => h_.1))) gb238 (Nat.le_of_eq hg.symm)) hb); replace HO231 := Aside0.mk (Kd.V_below (Kd.V_elderB (by (with_reducible repeat (first | apply Kd.V_alloc | apply Kd.V_drewN | apply Kd.V_drew)); exact (Kd.V_mono (Kd.V_far (p := ⟨gb222, 1, none⟩) (Kd.V_far (p := ⟨gb222, 0, none⟩) (Kd.V_far (p := ⟨gb222, 1, none⟩) (Kd.V_far (p := ⟨gb222, 0, none⟩) (Kd.V_mono HO231.out (fun k_ hk => (⟨hk, hk.2⟩ : _ ∧ k_ ≠ gb222))) (fun _ hk => hk.2) (.slice Ao13 t229.length co13)) (fun _ hk => hk.2) (.bool t232)) (fun _ hk => hk.2) (.slice Ao17 t234.length co17)) (fun _ hk => hk.2) (.bool t237)) (fun _ h_ => h_.1))) gb238 (Nat.le_of_eq hg.symm)) hb); replace HO236 := Aside0.mk (Kd.V_below (Kd.V_elderB (by (with_reducible repeat (first | apply Kd.V_alloc | apply Kd.V_drewN | apply Kd.V_drew)); exact (Kd.V_mono (Kd.V_far (p := ⟨gb222, 1, none⟩) (Kd.V_far (p := ⟨gb222, 0, none⟩) (Kd.V_mono HO236.out (fun k_ hk => (⟨hk, hk.2⟩ : _ ∧ k_ ≠ gb222))) (fun _ hk => hk.2) (.slice Ao17 t234.length co17)) (fun _ hk => hk.2) (.bool t237)) (fun _ h_ => h_.1))) gb238 (Nat.le_of_eq hg.symm)) hb); have BK238 := Aside0.mk (hbox); have GW238 := Aside0.mk ((by rw [hg]; exact (below_size (by repeat (first | (with_reducible first | exact HB.out | apply below_alloc | apply pw_below_drewN | apply below_drew1 | refine below_set ?_ GE222.out) | exact HB.out))) : w.heap.size ≤ gb238)); have GE238 := Aside0.mk ((by rw [hg]; exact (below_size (by repeat (first | (with_reducible first | exact HB.out | apply below_alloc | apply pw_below_drewN | apply below_drew1 | refine below_set ?_ GE222.out) | exact HB.out))) : w.heap.size ≤ gb238)); replace HB := Aside0.mk (below_step (by repeat (first | (with_reducible first | exact HB.out | apply below_alloc | apply pw_below_drewN | apply below_drew1 | refine below_set ?_ GE222.out) | exact HB.out)) hb); have NB221_238 := Aside0.mk ((by rw [hg]; exact Nat.ne_of_lt (blk_lt (pl_blk (blk_far (p := ⟨gb222, 1, none⟩) (blk_far (p := ⟨gb222, 0, none⟩) (blk_far (p := ⟨gb222, 1, none⟩) (blk_far (p := ⟨gb222, 0, none⟩) (blk_far (p := ⟨gb222, 1, none⟩) (blk_far (p := ⟨gb222, 0, none⟩) BK221.out NB221_222.out (.slice Ao11 t224.length co11)) NB221_222.out (.bool t227)) NB221_222.out (.slice Ao13 t229.length co13)) NB221_222.out (.bool t232)) NB221_222.out (.slice Ao17 t234.length co17)) NB221_222.out (.bool t237)))) : gb221 ≠ gb238)); have NB238_221 := Aside0.mk ((by rw [hg]; exact Nat.ne_of_gt (blk_lt (pl_blk (blk_far (p := ⟨gb222, 1, none⟩) (blk_far (p := ⟨gb222, 0, none⟩) (blk_far (p := ⟨gb222, 1, none⟩) (blk_far (p := ⟨gb222, 0, none⟩) (blk_far (p := ⟨gb222, 1, none⟩) (blk_far (p := ⟨gb222, 0, none⟩) BK221.out NB221_222.out (.slice Ao11 t224.length co11)) NB221_222.out (.bool t227)) NB221_222.out (.slice Ao13 t229.length co13)) NB221_222.out (.bool t232)) NB221_222.out (.slice Ao17 t234.length co17)) NB221_222.out (.bool t237)))) : gb238 ≠ gb221)); replace BK221 := Aside0.mk (blk_below (pl_blk (blk_far (p := ⟨gb222, 1, none⟩) (blk_far (p := ⟨gb222, 0, none⟩) (blk_far (p := ⟨gb222, 1, none⟩) (blk_far (p := ⟨gb222, 0, none⟩) (blk_far (p := ⟨gb222, 1, none⟩) (blk_far (p := ⟨gb222, 0, none⟩) BK221.out NB221_222.out (.slice Ao11 t224.length co11)) NB221_222.out (.bool t227)) NB221_222.out (.slice Ao13 t229.length co13)) NB221_222.out (.bool t232)) NB221_222.out (.slice Ao17 t234.length co17)) NB221_222.out (.bool t237))) hb); have NB222_238 := Aside0.mk ((by rw [hg]; exact Nat.ne_of_lt (blk_lt (pl_blk (blk_put (blk_put (blk_put (blk_put (blk_put (blk_put BK222.out 0 (.slice Ao11 t224.length co11) rfl) 1 (.bool t227) rfl) 0 (.slice Ao13 t229.length co13) rfl) 1 (.bool t232) rfl) 0 (.slice Ao17 t234.length co17) rfl) 1 (.bool t237) rfl))) : gb222 ≠ gb238)); have NB238_222 := Aside0.mk ((by rw [hg]; exact Nat.ne_of_gt (blk_lt (pl_blk (blk_put (blk_put (blk_put (blk_put (blk_put (blk_put BK222.out 0 (.slice Ao11 t224.length co11) rfl) 1 (.bool t227) rfl) 0 (.slice Ao13 t229.length co13) rfl) 1 (.bool t232) rfl) 0 (.slice Ao17 t234.length co17) rfl) 1 (.bool t237) rfl))) : gb238 ≠ gb222)); replace BK222 := Aside0.mk (blk_below (pl_blk (blk_put (blk_put (blk_put (blk_put (blk_put (blk_put BK222.out 0 (.slice Ao11 t224.length co11) rfl) 1 (.bool t227) rfl) 0 (.slice Ao13 t229.length co13) rfl) 1 (.bool t232) rfl) 0 (.slice Ao17 t234.length co17) rfl) 1 (.bool t237) rfl)) hb); clear hb hbox hg; have hnb22 := NB238_221.out; have hnc22 := NB221_238.out; have hnb23 := NB238_222.out; have hnc23 := NB222_238.out; obtain ⟨hcz24_0, hcz24_1, hcz24_2, hcz24_3, hcz24_4, hfz24_0, hfz24_1, hfz24_2, hfz24_3, hfz24_4⟩ := blk_c5 BK238.out; obtain ⟨hcz25_0, hcz25_1, hfz25_0, hfz25_1⟩ := blk_c2 BK222.out))
   go_at_call 44; (with_reducible refine (event_reader_num.calls k gb222 Ao17 co17 t234 t237 16 t239 t240 t243 5 w.heap.size (fun k_ => ((((P0_ k_ ∨ w.heap.size ≤ k_) ∧ k_ ≠ gb221) ∧ k_ ≠ gb222) ∧ k_ ≠ gb238)) _ ?side1 ?side2 A5.out).mono ?_)
   (case side1 => exact (pl_blk (blk_far (p := ⟨gb238, 4, none⟩) (blk_far (p := ⟨gb238, 3, none⟩) (blk_far (p := ⟨gb238, 2, none⟩) (blk_far (p := ⟨gb238, 1, none⟩) (blk_far (p := ⟨gb238, 0, none⟩) BK222.out NB222_238.out (.int .i64 t223)) NB222_238.out (.int .i64 t228)) NB222_238.out (.int .i64 t233)) NB222_238.out (.string (⟨#[]⟩ : ByteArray))) NB222_238.out (.slice none 0 0))))
   (case side2 => exact (by (with_reducible repeat (first | apply Kd.V_alloc | apply Kd.V_drewN | apply Kd.V_drew)); exact (Kd.V_mono (Kd.V_far (p := ⟨gb238, 4, none⟩) (Kd.V_far (p := ⟨gb238, 3, none⟩) (Kd.V_far (p := ⟨gb238, 2, none⟩) (Kd.V_far (p := ⟨gb238, 1, none⟩) (Kd.V_far (p := ⟨gb238, 0, none⟩) (Kd.V_mono HO236.out (fun k_ hk => (⟨hk, hk.2⟩ : _ ∧ k_ ≠ gb238))) (fun _ hk => hk.2) (.int .i64 t223)) (fun _ hk => hk.2) (.int .i64 t228)) (fun _ hk => hk.2) (.int .i64 t233)) (fun _ hk => hk.2) (.string (⟨#[]⟩ : ByteArray))) (fun _ hk => hk.2) (.slice none 0 0)) (fun _ h_ => h_.1))))
   rintro e w_ ⟨v241, rfl, rfl, hV_⟩
   have HO242 := Aside0.mk hV_
   clear hV_
   obtain ⟨Ao26, co26, eo26⟩ := Kd.V_slice HO242.out
   subst eo26
   obtain ⟨hcz27_0, hcz27_1, hfz27_0, hfz27_1⟩ := blk_c2 BK222.out
   obtain ⟨hcz28_0, hcz28_1, hcz28_2, hcz28_3, hcz28_4, hfz28_0, hfz28_1, hfz28_2, hfz28_3, hfz28_4⟩ := blk_c5 BK221.out
   try go_wp2_with (fail)
   refine bodyPost_ret (results_ct rfl _ _ gb221 25 #[.int .i64 0, .int .i64 0, .int .i64 0, .string (⟨#[]⟩ : ByteArray), .slice none 0 0] (0, 0) _ rfl (pl_blk (blk_put (blk_put (blk_put (blk_put (blk_put (blk_far (p := ⟨gb222, 1, none⟩) (blk_far (p := ⟨gb222, 0, none⟩) (blk_far (p := ⟨gb238, 4, none⟩) (blk_far (p := ⟨gb238, 3, none⟩) (blk_far (p := ⟨gb238, 2, none⟩) (blk_far (p := ⟨gb238, 1, none⟩) (blk_far (p := ⟨gb238, 0, none⟩) BK221.out NB221_238.out (.int .i64 t223)) NB221_238.out (.int .i64 t228)) NB221_238.out (.int .i64 t233)) NB221_238.out (.string (⟨#[]⟩ : ByteArray))) NB221_238.out (.slice none 0 0)) NB221_222.out (.slice Ao26 t240.length co26)) NB221_222.out (.bool t243)) 0 (.int .i64 0) rfl) 1 (.int .i64 0) rfl) 2 (.int .i64 0) rfl) 3 (.string (⟨#[]⟩ : ByteArray)) rfl) 4 (.slice none 0 0) rfl)) Try.underlying25 rfl (by kernel_rfl)) rfl ?_
   exact ⟨_, by first | rfl | (simp [errW_none, errW_some] <;> rfl) | (simp [*, errW_none, errW_some] <;> rfl), by first | exact Kd.R_nil _ _ _ _ _ | exact Kd.N_nil _ _ _ _ _ | exact Kd.V_nil _ _ _ _ _ | exact Kd.Q_nil _ _ _ _ _ | exact Kd.S_nil _ _ _ _ _, by repeat (first | (with_reducible first | exact HB.out | apply below_alloc | apply pw_below_drewN | apply below_drew1 | refine below_set ?_ GE221.out | refine below_set ?_ GE222.out | refine below_set ?_ GE238.out) | exact HB.out)⟩
  ·rw [if_neg c6] at H
   have c6b0 : decide ((t240.length : Int) < t239) = false := decide_eq_false c6
   clear c6
   by_cases c29 : 0 ≤ t239; rotate_left
   ·rw [if_neg c29] at H; cases H
   rw [if_pos c29] at H
   have c29b0 := eq_true c29
   have c29b1 : decide (0 ≤ t239) = true := decide_eq_true c29
   clear c29
   by_cases c30 : t239 ≤ (t240.length : Int); rotate_left
   ·rw [if_neg c30] at H; cases H
   rw [if_pos c30] at H
   have c30b0 := eq_true c30
   have c30b1 : decide (t239 ≤ (t240.length : Int)) = true := decide_eq_true c30
   clear c30
   obtain ⟨y244, hy244⟩ : ∃ y_ : List Int, y_ = (t240.take (t239 : Int).toNat) := ⟨_, rfl⟩
   replace H : ((event_reader_num.f k (t240.drop (t239 : Int).toNat) t243 8).bind fun bt254 => (event_Get.l0 k bt254.1 0 bt254.2.1 bt254.2.2 t223 t228 t233 (strOfNums y244) ([] : List (S52)))) = some (r1, r2, r3, r4, r5, r6) := by first | (rw [hy244]; with_reducible exact H) | (have H2_ := (Option.bind_some _ _).symm.trans H; rw [hy244]; with_reducible exact H2_) | (have H2_ := (Option.bind_some _ _).symm.trans H; with_reducible exact H2_) | with_reducible exact H | (rw [hy244]; exact H) | exact H
   have Ny244 := Aside0.mk hy244
   clear hy244
   have c31b0 := eq_true (of_decide_eq_true (by first | (with_reducible assumption) | assumption) : 0 ≤ t239)
   have c32b0 := eq_true (of_decide_eq_true (by first | (with_reducible assumption) | assumption) : t239 ≤ (t240.length : Int))
   obtain ⟨y249, hy249⟩ : ∃ y_ : List Int, y_ = (t240.drop (t239 : Int).toNat) := ⟨_, rfl⟩
   replace H : ((event_reader_num.f k y249 t243 8).bind fun bt254 => (event_Get.l0 k bt254.1 0 bt254.2.1 bt254.2.2 t223 t228 t233 (strOfNums y244) ([] : List (S52)))) = some (r1, r2, r3, r4, r5, r6) := by first | (rw [hy249]; with_reducible exact H) | (have H2_ := (Option.bind_some _ _).symm.trans H; rw [hy249]; with_reducible exact H2_) | (have H2_ := (Option.bind_some _ _).symm.trans H; with_reducible exact H2_) | with_reducible exact H | (rw [hy249]; exact H) | exact H
   have Ny249 := Aside0.mk hy249
   clear hy249
   replace H := Option.bind_eq_some_iff.mp H
   obtain ⟨⟨t254, t255, t258⟩, A33, H⟩ := H
   (try dsimp only at H)
   replace A33 := Aside0.mk A33
   have H' := Aside0.mk H
   clear H
   go_enter Try.func25, Try.ntmps25
   try go_wp2_with (first | ((with_reducible refine gate_dst (N := 2) rfl ?_); (try (refine gate_guard (by rfl) ?_; dsimp only)); refine box_event ?hg (N := 2) ?hd (cs := #[.int .i64 0, .int .i64 0, .int .i64 0, .string (⟨#[]⟩ : ByteArray), .slice none 0 0]) (t := 25) ?hr ?_; (case hd => rfl); (case hg => rfl); (case hr => first | (go_simp; done) | (go_simp; rfl)); intro gb221 hg w34 hbox hb; replace HO0 := Aside0.mk (Kd.V_below (Kd.V_elderB (Kd.pl_V HO0.out) gb221 (Nat.le_of_eq hg.symm)) hb); have BK221 := Aside0.mk (hbox); have GW221 := hG HB hg; have GE221 := hG HB hg; replace HB := hB HB hb; clear hb hbox hg) | ((with_reducible refine gate_dst (N := 12) rfl ?_); (try (refine gate_guard (by rfl) ?_; dsimp only)); refine box_event ?hg (N := 12) ?hd (cs := #[.slice A0 l0.length c0, .bool false]) (t := 70) ?hr ?_; (case hd => rfl); (case hg => rfl); (case hr => first | (go_simp; done) | (go_simp; rfl)); intro gb222 hg w35 hbox hb; replace HO0 := Aside0.mk (Kd.V_below (Kd.V_elderB (Kd.pl_V HO0.out) gb222 (Nat.le_of_eq hg.symm)) hb); have BK222 := Aside0.mk (hbox); have GW222 := hG HB hg; have GE222 := hG HB hg; replace HB := hB HB hb; have NB221_222 := hN BK221 hg; have NB222_221 := hM BK221 hg; replace BK221 := bb BK221 hb; clear hb hbox hg; have hnb36 := NB222_221.out; have hnc36 := NB221_222.out; obtain ⟨hcz37_0, hcz37_1, hfz37_0, hfz37_1⟩ := blk_c2 BK222.out))
   go_at_call 44; (with_reducible refine (event_reader_num.calls k gb222 A0 c0 l0 false 1099511627776 t223 t224 t227 5 w.heap.size (fun k_ => (((P0_ k_ ∨ w.heap.size ≤ k_) ∧ k_ ≠ gb221) ∧ k_ ≠ gb222)) _ ?side1 ?side2 A2.out).mono ?_)
   (case side1 => exact (pl_blk BK222.out))
   (case side2 => exact (Kd.pl_V HO0.out))
   rintro e w_ ⟨v225, rfl, rfl, hV_⟩
   have HO226 := Aside0.mk hV_
   clear hV_
   obtain ⟨Ao38, co38, eo38⟩ := Kd.V_slice HO226.out
   subst eo38
   obtain ⟨hcz39_0, hcz39_1, hfz39_0, hfz39_1⟩ := blk_c2 BK222.out
   try go_wp2_with (fail)
   go_at_call 44; (with_reducible refine (event_reader_num.calls k gb222 Ao38 co38 t224 t227 3 t228 t229 t232 5 w.heap.size (fun k_ => (((P0_ k_ ∨ w.heap.size ≤ k_) ∧ k_ ≠ gb221) ∧ k_ ≠ gb222)) _ ?side1 ?side2 A3.out).mono ?_)
   (case side1 => exact (pl_blk (blk_put (blk_put BK222.out 0 (.slice Ao38 t224.length co38) rfl) 1 (.bool t227) rfl)))
   (case side2 => exact (by (with_reducible repeat (first | apply Kd.V_alloc | apply Kd.V_drewN | apply Kd.V_drew)); exact (Kd.V_mono (Kd.V_far (p := ⟨gb222, 1, none⟩) (Kd.V_far (p := ⟨gb222, 0, none⟩) (Kd.V_mono HO226.out (fun k_ hk => (⟨hk, hk.2⟩ : _ ∧ k_ ≠ gb222))) (fun _ hk => hk.2) (.slice Ao38 t224.length co38)) (fun _ hk => hk.2) (.bool t227)) (fun _ h_ => h_.1))))
   rintro e w_ ⟨v230, rfl, rfl, hV_⟩
   have HO231 := Aside0.mk hV_
   clear hV_
   obtain ⟨Ao40, co40, eo40⟩ := Kd.V_slice HO231.out
   subst eo40
   obtain ⟨hcz41_0, hcz41_1, hfz41_0, hfz41_1⟩ := blk_c2 BK222.out
   have cy42 : (((w35.setCell ⟨gb222, 0, none⟩ (.slice Ao38 t224.length co38)).setCell ⟨gb222, 1, none⟩ (.bool t227)).setCell ⟨gb222, 0, none⟩ (.slice Ao40 t229.length co40)).heap[gb222]? = some (.cells #[.slice Ao40 t229.length co40, .bool t227] 70 (0, 0)) := (pl_blk (blk_put (blk_put (blk_put BK222.out 0 (.slice Ao38 t224.length co38) rfl) 1 (.bool t227) rfl) 0 (.slice Ao40 t229.length co40) rfl))
   have hcy42_0 : (((w35.setCell ⟨gb222, 0, none⟩ (.slice Ao38 t224.length co38)).setCell ⟨gb222, 1, none⟩ (.bool t227)).setCell ⟨gb222, 0, none⟩ (.slice Ao40 t229.length co40)).cell? ⟨gb222, 0, none⟩ = some (.slice Ao40 t229.length co40) := (blk_cell cy42 0).trans rfl
   have hcy42_1 : (((w35.setCell ⟨gb222, 0, none⟩ (.slice Ao38 t224.length co38)).setCell ⟨gb222, 1, none⟩ (.bool t227)).setCell ⟨gb222, 0, none⟩ (.slice Ao40 t229.length co40)).cell? ⟨gb222, 1, none⟩ = some (.bool t227) := (blk_cell cy42 1).trans rfl
   clear cy42
   have cy43 : ((((w35.setCell ⟨gb222, 0, none⟩ (.slice Ao38 t224.length co38)).setCell ⟨gb222, 1, none⟩ (.bool t227)).setCell ⟨gb222, 0, none⟩ (.slice Ao40 t229.length co40)).setCell ⟨gb222, 1, none⟩ (.bool t232)).heap[gb222]? = some (.cells #[.slice Ao40 t229.length co40, .bool t232] 70 (0, 0)) := (pl_blk (blk_put (blk_put (blk_put (blk_put BK222.out 0 (.slice Ao38 t224.length co38) rfl) 1 (.bool t227) rfl) 0 (.slice Ao40 t229.length co40) rfl) 1 (.bool t232) rfl))
   have hcy43_0 : ((((w35.setCell ⟨gb222, 0, none⟩ (.slice Ao38 t224.length co38)).setCell ⟨gb222, 1, none⟩ (.bool t227)).setCell ⟨gb222, 0, none⟩ (.slice Ao40 t229.length co40)).setCell ⟨gb222, 1, none⟩ (.bool t232)).cell? ⟨gb222, 0, none⟩ = some (.slice Ao40 t229.length co40) := (blk_cell cy43 0).trans rfl
   have hcy43_1 : ((((w35.setCell ⟨gb222, 0, none⟩ (.slice Ao38 t224.length co38)).setCell ⟨gb222, 1, none⟩ (.bool t227)).setCell ⟨gb222, 0, none⟩ (.slice Ao40 t229.length co40)).setCell ⟨gb222, 1, none⟩ (.bool t232)).cell? ⟨gb222, 1, none⟩ = some (.bool t232) := (blk_cell cy43 1).trans rfl
   clear cy43
   try go_wp2_with (fail)
   go_at_call 44; (with_reducible refine (event_reader_num.calls k gb222 Ao40 co40 t229 t232 1099511627776 t233 t234 t237 5 w.heap.size (fun k_ => (((P0_ k_ ∨ w.heap.size ≤ k_) ∧ k_ ≠ gb221) ∧ k_ ≠ gb222)) _ ?side1 ?side2 A4.out).mono ?_)
   (case side1 => exact (pl_blk (blk_put (blk_put (blk_put (blk_put BK222.out 0 (.slice Ao38 t224.length co38) rfl) 1 (.bool t227) rfl) 0 (.slice Ao40 t229.length co40) rfl) 1 (.bool t232) rfl)))
   (case side2 => exact (by (with_reducible repeat (first | apply Kd.V_alloc | apply Kd.V_drewN | apply Kd.V_drew)); exact (Kd.V_mono (Kd.V_far (p := ⟨gb222, 1, none⟩) (Kd.V_far (p := ⟨gb222, 0, none⟩) (Kd.V_mono HO231.out (fun k_ hk => (⟨hk, hk.2⟩ : _ ∧ k_ ≠ gb222))) (fun _ hk => hk.2) (.slice Ao40 t229.length co40)) (fun _ hk => hk.2) (.bool t232)) (fun _ h_ => h_.1))))
   rintro e w_ ⟨v235, rfl, rfl, hV_⟩
   have HO236 := Aside0.mk hV_
   clear hV_
   obtain ⟨Ao44, co44, eo44⟩ := Kd.V_slice HO236.out
   subst eo44
   obtain ⟨hcz45_0, hcz45_1, hfz45_0, hfz45_1⟩ := blk_c2 BK222.out
   have cy46 : (((((w35.setCell ⟨gb222, 0, none⟩ (.slice Ao38 t224.length co38)).setCell ⟨gb222, 1, none⟩ (.bool t227)).setCell ⟨gb222, 0, none⟩ (.slice Ao40 t229.length co40)).setCell ⟨gb222, 1, none⟩ (.bool t232)).setCell ⟨gb222, 0, none⟩ (.slice Ao44 t234.length co44)).heap[gb222]? = some (.cells #[.slice Ao44 t234.length co44, .bool t232] 70 (0, 0)) := (pl_blk (blk_put (blk_put (blk_put (blk_put (blk_put BK222.out 0 (.slice Ao38 t224.length co38) rfl) 1 (.bool t227) rfl) 0 (.slice Ao40 t229.length co40) rfl) 1 (.bool t232) rfl) 0 (.slice Ao44 t234.length co44) rfl))
   have hcy46_0 : (((((w35.setCell ⟨gb222, 0, none⟩ (.slice Ao38 t224.length co38)).setCell ⟨gb222, 1, none⟩ (.bool t227)).setCell ⟨gb222, 0, none⟩ (.slice Ao40 t229.length co40)).setCell ⟨gb222, 1, none⟩ (.bool t232)).setCell ⟨gb222, 0, none⟩ (.slice Ao44 t234.length co44)).cell? ⟨gb222, 0, none⟩ = some (.slice Ao44 t234.length co44) := (blk_cell cy46 0).trans rfl
   have hcy46_1 : (((((w35.setCell ⟨gb222, 0, none⟩ (.slice Ao38 t224.length co38)).setCell ⟨gb222, 1, none⟩ (.bool t227)).setCell ⟨gb222, 0, none⟩ (.slice Ao40 t229.length co40)).setCell ⟨gb222, 1, none⟩ (.bool t232)).setCell ⟨gb222, 0, none⟩ (.slice Ao44 t234.length co44)).cell? ⟨gb222, 1, none⟩ = some (.bool t232) := (blk_cell cy46 1).trans rfl
   clear cy46
   have cy47 : ((((((w35.setCell ⟨gb222, 0, none⟩ (.slice Ao38 t224.length co38)).setCell ⟨gb222, 1, none⟩ (.bool t227)).setCell ⟨gb222, 0, none⟩ (.slice Ao40 t229.length co40)).setCell ⟨gb222, 1, none⟩ (.bool t232)).setCell ⟨gb222, 0, none⟩ (.slice Ao44 t234.length co44)).setCell ⟨gb222, 1, none⟩ (.bool t237)).heap[gb222]? = some (.cells #[.slice Ao44 t234.length co44, .bool t237] 70 (0, 0)) := (pl_blk (blk_put (blk_put (blk_put (blk_put (blk_put (blk_put BK222.out 0 (.slice Ao38 t224.length co38) rfl) 1 (.bool t227) rfl) 0 (.slice Ao40 t229.length co40) rfl) 1 (.bool t232) rfl) 0 (.slice Ao44 t234.length co44) rfl) 1 (.bool t237) rfl))
   have hcy47_0 : ((((((w35.setCell ⟨gb222, 0, none⟩ (.slice Ao38 t224.length co38)).setCell ⟨gb222, 1, none⟩ (.bool t227)).setCell ⟨gb222, 0, none⟩ (.slice Ao40 t229.length co40)).setCell ⟨gb222, 1, none⟩ (.bool t232)).setCell ⟨gb222, 0, none⟩ (.slice Ao44 t234.length co44)).setCell ⟨gb222, 1, none⟩ (.bool t237)).cell? ⟨gb222, 0, none⟩ = some (.slice Ao44 t234.length co44) := (blk_cell cy47 0).trans rfl
   have hcy47_1 : ((((((w35.setCell ⟨gb222, 0, none⟩ (.slice Ao38 t224.length co38)).setCell ⟨gb222, 1, none⟩ (.bool t227)).setCell ⟨gb222, 0, none⟩ (.slice Ao40 t229.length co40)).setCell ⟨gb222, 1, none⟩ (.bool t232)).setCell ⟨gb222, 0, none⟩ (.slice Ao44 t234.length co44)).setCell ⟨gb222, 1, none⟩ (.bool t237)).cell? ⟨gb222, 1, none⟩ = some (.bool t237) := (blk_cell cy47 1).trans rfl
   clear cy47
   try go_wp2_with (first | ((with_reducible refine gate_dst (N := 5) rfl ?_); (try (refine gate_guard (by rfl) ?_; dsimp only)); refine box_event ?hg (N := 5) ?hd (cs := #[.int .i64 0, .int .i64 0, .int .i64 0, .string (⟨#[]⟩ : ByteArray), .slice none 0 0]) (t := 25) ?hr ?_; (case hd => rfl); (case hg => rfl); (case hr => first | (go_simp; done) | (go_simp; rfl)); intro gb238 hg w48 hbox hb; replace HO0 := Aside0.mk (Kd.V_below (Kd.V_elderB (by (with_reducible repeat (first | apply Kd.V_alloc | apply Kd.V_drewN | apply Kd.V_drew)); exact (Kd.V_mono (Kd.V_far (p := ⟨gb222, 1, none⟩) (Kd.V_far (p := ⟨gb222, 0, none⟩) (Kd.V_far (p := ⟨gb222, 1, none⟩) (Kd.V_far (p := ⟨gb222, 0, none⟩) (Kd.V_far (p := ⟨gb222, 1, none⟩) (Kd.V_far (p := ⟨gb222, 0, none⟩) (Kd.V_mono HO0.out (fun k_ hk => (⟨hk, hk.2⟩ : _ ∧ k_ ≠ gb222))) (fun _ hk => hk.2) (.slice Ao38 t224.length co38)) (fun _ hk => hk.2) (.bool t227)) (fun _ hk => hk.2) (.slice Ao40 t229.length co40)) (fun _ hk => hk.2) (.bool t232)) (fun _ hk => hk.2) (.slice Ao44 t234.length co44)) (fun _ hk => hk.2) (.bool t237)) (fun _ h_ => h_.1))) gb238 (Nat.le_of_eq hg.symm)) hb); replace HO226 := Aside0.mk (Kd.V_below (Kd.V_elderB (by (with_reducible repeat (first | apply Kd.V_alloc | apply Kd.V_drewN | apply Kd.V_drew)); exact (Kd.V_mono (Kd.V_far (p := ⟨gb222, 1, none⟩) (Kd.V_far (p := ⟨gb222, 0, none⟩) (Kd.V_far (p := ⟨gb222, 1, none⟩) (Kd.V_far (p := ⟨gb222, 0, none⟩) (Kd.V_far (p := ⟨gb222, 1, none⟩) (Kd.V_far (p := ⟨gb222, 0, none⟩) (Kd.V_mono HO226.out (fun k_ hk => (⟨hk, hk.2⟩ : _ ∧ k_ ≠ gb222))) (fun _ hk => hk.2) (.slice Ao38 t224.length co38)) (fun _ hk => hk.2) (.bool t227)) (fun _ hk => hk.2) (.slice Ao40 t229.length co40)) (fun _ hk => hk.2) (.bool t232)) (fun _ hk => hk.2) (.slice Ao44 t234.length co44)) (fun _ hk => hk.2) (.bool t237)) (fun _ h_ => h_.1))) gb238 (Nat.le_of_eq hg.symm)) hb); replace HO231 := Aside0.mk (Kd.V_below (Kd.V_elderB (by (with_reducible repeat (first | apply Kd.V_alloc | apply Kd.V_drewN | apply Kd.V_drew)); exact (Kd.V_mono (Kd.V_far (p := ⟨gb222, 1, none⟩) (Kd.V_far (p := ⟨gb222, 0, none⟩) (Kd.V_far (p := ⟨gb222, 1, none⟩) (Kd.V_far (p := ⟨gb222, 0, none⟩) (Kd.V_mono HO231.out (fun k_ hk => (⟨hk, hk.2⟩ : _ ∧ k_ ≠ gb222))) (fun _ hk => hk.2) (.slice Ao40 t229.length co40)) (fun _ hk => hk.2) (.bool t232)) (fun _ hk => hk.2) (.slice Ao44 t234.length co44)) (fun _ hk => hk.2) (.bool t237)) (fun _ h_ => h_.1))) gb238 (Nat.le_of_eq hg.symm)) hb); replace HO236 := Aside0.mk (Kd.V_below (Kd.V_elderB (by (with_reducible repeat (first | apply Kd.V_alloc | apply Kd.V_drewN | apply Kd.V_drew)); exact (Kd.V_mono (Kd.V_far (p := ⟨gb222, 1, none⟩) (Kd.V_far (p := ⟨gb222, 0, none⟩) (Kd.V_mono HO236.out (fun k_ hk => (⟨hk, hk.2⟩ : _ ∧ k_ ≠ gb222))) (fun _ hk => hk.2) (.slice Ao44 t234.length co44)) (fun _ hk => hk.2) (.bool t237)) (fun _ h_ => h_.1))) gb238 (Nat.le_of_eq hg.symm)) hb); have BK238 := Aside0.mk (hbox); have GW238 := Aside0.mk ((by rw [hg]; exact (below_size (by repeat (first | (with_reducible first | exact HB.out | apply below_alloc | apply pw_below_drewN | apply below_drew1 | refine below_set ?_ GE222.out) | exact HB.out))) : w.heap.size ≤ gb238)); have GE238 := Aside0.mk ((by rw [hg]; exact (below_size (by repeat (first | (with_reducible first | exact HB.out | apply below_alloc | apply pw_below_drewN | apply below_drew1 | refine below_set ?_ GE222.out) | exact HB.out))) : w.heap.size ≤ gb238)); replace HB := Aside0.mk (below_step (by repeat (first | (with_reducible first | exact HB.out | apply below_alloc | apply pw_below_drewN | apply below_drew1 | refine below_set ?_ GE222.out) | exact HB.out)) hb); have NB221_238 := Aside0.mk ((by rw [hg]; exact Nat.ne_of_lt (blk_lt (pl_blk (blk_far (p := ⟨gb222, 1, none⟩) (blk_far (p := ⟨gb222, 0, none⟩) (blk_far (p := ⟨gb222, 1, none⟩) (blk_far (p := ⟨gb222, 0, none⟩) (blk_far (p := ⟨gb222, 1, none⟩) (blk_far (p := ⟨gb222, 0, none⟩) BK221.out NB221_222.out (.slice Ao38 t224.length co38)) NB221_222.out (.bool t227)) NB221_222.out (.slice Ao40 t229.length co40)) NB221_222.out (.bool t232)) NB221_222.out (.slice Ao44 t234.length co44)) NB221_222.out (.bool t237)))) : gb221 ≠ gb238)); have NB238_221 := Aside0.mk ((by rw [hg]; exact Nat.ne_of_gt (blk_lt (pl_blk (blk_far (p := ⟨gb222, 1, none⟩) (blk_far (p := ⟨gb222, 0, none⟩) (blk_far (p := ⟨gb222, 1, none⟩) (blk_far (p := ⟨gb222, 0, none⟩) (blk_far (p := ⟨gb222, 1, none⟩) (blk_far (p := ⟨gb222, 0, none⟩) BK221.out NB221_222.out (.slice Ao38 t224.length co38)) NB221_222.out (.bool t227)) NB221_222.out (.slice Ao40 t229.length co40)) NB221_222.out (.bool t232)) NB221_222.out (.slice Ao44 t234.length co44)) NB221_222.out (.bool t237)))) : gb238 ≠ gb221)); replace BK221 := Aside0.mk (blk_below (pl_blk (blk_far (p := ⟨gb222, 1, none⟩) (blk_far (p := ⟨gb222, 0, none⟩) (blk_far (p := ⟨gb222, 1, none⟩) (blk_far (p := ⟨gb222, 0, none⟩) (blk_far (p := ⟨gb222, 1, none⟩) (blk_far (p := ⟨gb222, 0, none⟩) BK221.out NB221_222.out (.slice Ao38 t224.length co38)) NB221_222.out (.bool t227)) NB221_222.out (.slice Ao40 t229.length co40)) NB221_222.out (.bool t232)) NB221_222.out (.slice Ao44 t234.length co44)) NB221_222.out (.bool t237))) hb); have NB222_238 := Aside0.mk ((by rw [hg]; exact Nat.ne_of_lt (blk_lt (pl_blk (blk_put (blk_put (blk_put (blk_put (blk_put (blk_put BK222.out 0 (.slice Ao38 t224.length co38) rfl) 1 (.bool t227) rfl) 0 (.slice Ao40 t229.length co40) rfl) 1 (.bool t232) rfl) 0 (.slice Ao44 t234.length co44) rfl) 1 (.bool t237) rfl))) : gb222 ≠ gb238)); have NB238_222 := Aside0.mk ((by rw [hg]; exact Nat.ne_of_gt (blk_lt (pl_blk (blk_put (blk_put (blk_put (blk_put (blk_put (blk_put BK222.out 0 (.slice Ao38 t224.length co38) rfl) 1 (.bool t227) rfl) 0 (.slice Ao40 t229.length co40) rfl) 1 (.bool t232) rfl) 0 (.slice Ao44 t234.length co44) rfl) 1 (.bool t237) rfl))) : gb238 ≠ gb222)); replace BK222 := Aside0.mk (blk_below (pl_blk (blk_put (blk_put (blk_put (blk_put (blk_put (blk_put BK222.out 0 (.slice Ao38 t224.length co38) rfl) 1 (.bool t227) rfl) 0 (.slice Ao40 t229.length co40) rfl) 1 (.bool t232) rfl) 0 (.slice Ao44 t234.length co44) rfl) 1 (.bool t237) rfl)) hb); clear hb hbox hg; have hnb49 := NB238_221.out; have hnc49 := NB221_238.out; have hnb50 := NB238_222.out; have hnc50 := NB222_238.out; obtain ⟨hcz51_0, hcz51_1, hcz51_2, hcz51_3, hcz51_4, hfz51_0, hfz51_1, hfz51_2, hfz51_3, hfz51_4⟩ := blk_c5 BK238.out; obtain ⟨hcz52_0, hcz52_1, hfz52_0, hfz52_1⟩ := blk_c2 BK222.out))
   go_at_call 44; (with_reducible refine (event_reader_num.calls k gb222 Ao44 co44 t234 t237 16 t239 t240 t243 5 w.heap.size (fun k_ => ((((P0_ k_ ∨ w.heap.size ≤ k_) ∧ k_ ≠ gb221) ∧ k_ ≠ gb222) ∧ k_ ≠ gb238)) _ ?side1 ?side2 A5.out).mono ?_)
   (case side1 => exact (pl_blk (blk_far (p := ⟨gb238, 4, none⟩) (blk_far (p := ⟨gb238, 3, none⟩) (blk_far (p := ⟨gb238, 2, none⟩) (blk_far (p := ⟨gb238, 1, none⟩) (blk_far (p := ⟨gb238, 0, none⟩) BK222.out NB222_238.out (.int .i64 t223)) NB222_238.out (.int .i64 t228)) NB222_238.out (.int .i64 t233)) NB222_238.out (.string (⟨#[]⟩ : ByteArray))) NB222_238.out (.slice none 0 0))))
   (case side2 => exact (by (with_reducible repeat (first | apply Kd.V_alloc | apply Kd.V_drewN | apply Kd.V_drew)); exact (Kd.V_mono (Kd.V_far (p := ⟨gb238, 4, none⟩) (Kd.V_far (p := ⟨gb238, 3, none⟩) (Kd.V_far (p := ⟨gb238, 2, none⟩) (Kd.V_far (p := ⟨gb238, 1, none⟩) (Kd.V_far (p := ⟨gb238, 0, none⟩) (Kd.V_mono HO236.out (fun k_ hk => (⟨hk, hk.2⟩ : _ ∧ k_ ≠ gb238))) (fun _ hk => hk.2) (.int .i64 t223)) (fun _ hk => hk.2) (.int .i64 t228)) (fun _ hk => hk.2) (.int .i64 t233)) (fun _ hk => hk.2) (.string (⟨#[]⟩ : ByteArray))) (fun _ hk => hk.2) (.slice none 0 0)) (fun _ h_ => h_.1))))
   rintro e w_ ⟨v241, rfl, rfl, hV_⟩
   have HO242 := Aside0.mk hV_
   clear hV_
   obtain ⟨Ao53, co53, eo53⟩ := Kd.V_slice HO242.out
   subst eo53
   obtain ⟨hcz54_0, hcz54_1, hfz54_0, hfz54_1⟩ := blk_c2 BK222.out
   try go_wp2_with (fail)
   generalize hw_ : (((((((w48.setCell ⟨gb238, 0, none⟩ (.int .i64 t223)).setCell ⟨gb238, 1, none⟩ (.int .i64 t228)).setCell ⟨gb238, 2, none⟩ (.int .i64 t233)).setCell ⟨gb238, 3, none⟩ (.string (⟨#[]⟩ : ByteArray))).setCell ⟨gb238, 4, none⟩ (.slice none 0 0)).setCell ⟨gb222, 0, none⟩ (.slice Ao53 t240.length co53)).setCell ⟨gb222, 1, none⟩ (.bool t243)) = w55
   have n0_ : Aside0 (Kd.V (Kd.int .u8) 5 w55 w.heap.size (fun k_ => (P0_ k_ ∨ w.heap.size ≤ k_) ∧ k_ ≠ gb221 ∧ k_ ≠ gb222 ∧ k_ ≠ gb238) (.slice A0 l0.length c0) l0) := ⟨by rw [← hw_]; exact (by (with_reducible repeat (first | apply Kd.V_alloc | apply Kd.V_drewN | apply Kd.V_drew)); exact Kd.V_mono (Kd.V_far (p := ⟨gb222, 1, none⟩) (Kd.V_far (p := ⟨gb222, 0, none⟩) (Kd.V_far (p := ⟨gb238, 4, none⟩) (Kd.V_far (p := ⟨gb238, 3, none⟩) (Kd.V_far (p := ⟨gb238, 2, none⟩) (Kd.V_far (p := ⟨gb238, 1, none⟩) (Kd.V_far (p := ⟨gb238, 0, none⟩) (Kd.V_mono (Kd.V_mono HO0.out (fun k_ hk => (⟨hk, hk.2⟩ : _ ∧ k_ ≠ gb238))) (fun k_ hk => (⟨hk, hk.1.1.2⟩ : _ ∧ k_ ≠ gb222))) (fun _ hk => hk.1.2) (.int .i64 t223)) (fun _ hk => hk.1.2) (.int .i64 t228)) (fun _ hk => hk.1.2) (.int .i64 t233)) (fun _ hk => hk.1.2) (.string (⟨#[]⟩ : ByteArray))) (fun _ hk => hk.1.2) (.slice none 0 0)) (fun _ hk => hk.2) (.slice Ao53 t240.length co53)) (fun _ hk => hk.2) (.bool t243)) (fun _ hk => ⟨hk.1.1.1.1.1, ⟨hk.1.1.1.1.2, ⟨hk.1.1.1.2, hk.1.1.2⟩⟩⟩))⟩
   have n1_ : Aside0 (Kd.V (Kd.int .u8) 5 w55 w.heap.size (fun k_ => (P0_ k_ ∨ w.heap.size ≤ k_) ∧ k_ ≠ gb221 ∧ k_ ≠ gb222 ∧ k_ ≠ gb238) (.slice Ao38 t224.length co38) t224) := ⟨by rw [← hw_]; exact (by (with_reducible repeat (first | apply Kd.V_alloc | apply Kd.V_drewN | apply Kd.V_drew)); exact Kd.V_mono (Kd.V_far (p := ⟨gb222, 1, none⟩) (Kd.V_far (p := ⟨gb222, 0, none⟩) (Kd.V_far (p := ⟨gb238, 4, none⟩) (Kd.V_far (p := ⟨gb238, 3, none⟩) (Kd.V_far (p := ⟨gb238, 2, none⟩) (Kd.V_far (p := ⟨gb238, 1, none⟩) (Kd.V_far (p := ⟨gb238, 0, none⟩) (Kd.V_mono (Kd.V_mono HO226.out (fun k_ hk => (⟨hk, hk.2⟩ : _ ∧ k_ ≠ gb238))) (fun k_ hk => (⟨hk, hk.1.1.2⟩ : _ ∧ k_ ≠ gb222))) (fun _ hk => hk.1.2) (.int .i64 t223)) (fun _ hk => hk.1.2) (.int .i64 t228)) (fun _ hk => hk.1.2) (.int .i64 t233)) (fun _ hk => hk.1.2) (.string (⟨#[]⟩ : ByteArray))) (fun _ hk => hk.1.2) (.slice none 0 0)) (fun _ hk => hk.2) (.slice Ao53 t240.length co53)) (fun _ hk => hk.2) (.bool t243)) (fun _ hk => ⟨hk.1.1.1.1.1, ⟨hk.1.1.1.1.2, ⟨hk.1.1.1.2, hk.1.1.2⟩⟩⟩))⟩
   have n2_ : Aside0 (Kd.V (Kd.int .u8) 5 w55 w.heap.size (fun k_ => (P0_ k_ ∨ w.heap.size ≤ k_) ∧ k_ ≠ gb221 ∧ k_ ≠ gb222 ∧ k_ ≠ gb238) (.slice Ao40 t229.length co40) t229) := ⟨by rw [← hw_]; exact (by (with_reducible repeat (first | apply Kd.V_alloc | apply Kd.V_drewN | apply Kd.V_drew)); exact Kd.V_mono (Kd.V_far (p := ⟨gb222, 1, none⟩) (Kd.V_far (p := ⟨gb222, 0, none⟩) (Kd.V_far (p := ⟨gb238, 4, none⟩) (Kd.V_far (p := ⟨gb238, 3, none⟩) (Kd.V_far (p := ⟨gb238, 2, none⟩) (Kd.V_far (p := ⟨gb238, 1, none⟩) (Kd.V_far (p := ⟨gb238, 0, none⟩) (Kd.V_mono (Kd.V_mono HO231.out (fun k_ hk => (⟨hk, hk.2⟩ : _ ∧ k_ ≠ gb238))) (fun k_ hk => (⟨hk, hk.1.1.2⟩ : _ ∧ k_ ≠ gb222))) (fun _ hk => hk.1.2) (.int .i64 t223)) (fun _ hk => hk.1.2) (.int .i64 t228)) (fun _ hk => hk.1.2) (.int .i64 t233)) (fun _ hk => hk.1.2) (.string (⟨#[]⟩ : ByteArray))) (fun _ hk => hk.1.2) (.slice none 0 0)) (fun _ hk => hk.2) (.slice Ao53 t240.length co53)) (fun _ hk => hk.2) (.bool t243)) (fun _ hk => ⟨hk.1.1.1.1.1, ⟨hk.1.1.1.1.2, ⟨hk.1.1.1.2, hk.1.1.2⟩⟩⟩))⟩
   have n3_ : Aside0 (Kd.V (Kd.int .u8) 5 w55 w.heap.size (fun k_ => (P0_ k_ ∨ w.heap.size ≤ k_) ∧ k_ ≠ gb221 ∧ k_ ≠ gb222 ∧ k_ ≠ gb238) (.slice Ao44 t234.length co44) t234) := ⟨by rw [← hw_]; exact (by (with_reducible repeat (first | apply Kd.V_alloc | apply Kd.V_drewN | apply Kd.V_drew)); exact Kd.V_mono (Kd.V_far (p := ⟨gb222, 1, none⟩) (Kd.V_far (p := ⟨gb222, 0, none⟩) (Kd.V_far (p := ⟨gb238, 4, none⟩) (Kd.V_far (p := ⟨gb238, 3, none⟩) (Kd.V_far (p := ⟨gb238, 2, none⟩) (Kd.V_far (p := ⟨gb238, 1, none⟩) (Kd.V_far (p := ⟨gb238, 0, none⟩) (Kd.V_mono (Kd.V_mono HO236.out (fun k_ hk => (⟨hk, hk.2⟩ : _ ∧ k_ ≠ gb238))) (fun k_ hk => (⟨hk, hk.1.1.2⟩ : _ ∧ k_ ≠ gb222))) (fun _ hk => hk.1.2) (.int .i64 t223)) (fun _ hk => hk.1.2) (.int .i64 t228)) (fun _ hk => hk.1.2) (.int .i64 t233)) (fun _ hk => hk.1.2) (.string (⟨#[]⟩ : ByteArray))) (fun _ hk => hk.1.2) (.slice none 0 0)) (fun _ hk => hk.2) (.slice Ao53 t240.length co53)) (fun _ hk => hk.2) (.bool t243)) (fun _ hk => ⟨hk.1.1.1.1.1, ⟨hk.1.1.1.1.2, ⟨hk.1.1.1.2, hk.1.1.2⟩⟩⟩))⟩
   have n4_ : Aside0 (Kd.V (Kd.int .u8) 5 w55 w.heap.size (fun k_ => (P0_ k_ ∨ w.heap.size ≤ k_) ∧ k_ ≠ gb221 ∧ k_ ≠ gb222 ∧ k_ ≠ gb238) (.slice Ao53 t240.length co53) t240) := ⟨by rw [← hw_]; exact (by (with_reducible repeat (first | apply Kd.V_alloc | apply Kd.V_drewN | apply Kd.V_drew)); exact Kd.V_mono (Kd.V_far (p := ⟨gb222, 1, none⟩) (Kd.V_far (p := ⟨gb222, 0, none⟩) (Kd.V_mono HO242.out (fun k_ hk => (⟨hk, hk.1.2⟩ : _ ∧ k_ ≠ gb222))) (fun _ hk => hk.2) (.slice Ao53 t240.length co53)) (fun _ hk => hk.2) (.bool t243)) (fun _ hk => ⟨hk.1.1.1.1, ⟨hk.1.1.1.2, ⟨hk.1.1.2, hk.1.2⟩⟩⟩))⟩
   have n5_ : Aside0 (w55.heap[gb221]? = some (.cells #[.int .i64 0, .int .i64 0, .int .i64 0, .string (⟨#[]⟩ : ByteArray), .slice none 0 0] 25 (0, 0))) := ⟨by rw [← hw_]; exact (pl_blk (blk_far (p := ⟨gb222, 1, none⟩) (blk_far (p := ⟨gb222, 0, none⟩) (blk_far (p := ⟨gb238, 4, none⟩) (blk_far (p := ⟨gb238, 3, none⟩) (blk_far (p := ⟨gb238, 2, none⟩) (blk_far (p := ⟨gb238, 1, none⟩) (blk_far (p := ⟨gb238, 0, none⟩) BK221.out NB221_238.out (.int .i64 t223)) NB221_238.out (.int .i64 t228)) NB221_238.out (.int .i64 t233)) NB221_238.out (.string (⟨#[]⟩ : ByteArray))) NB221_238.out (.slice none 0 0)) NB221_222.out (.slice Ao53 t240.length co53)) NB221_222.out (.bool t243)))⟩
   have n6_ : Aside0 (w55.heap[gb222]? = some (.cells #[.slice Ao53 t240.length co53, .bool t243] 70 (0, 0))) := ⟨by rw [← hw_]; exact (pl_blk (blk_put (blk_put (blk_far (p := ⟨gb238, 4, none⟩) (blk_far (p := ⟨gb238, 3, none⟩) (blk_far (p := ⟨gb238, 2, none⟩) (blk_far (p := ⟨gb238, 1, none⟩) (blk_far (p := ⟨gb238, 0, none⟩) BK222.out NB222_238.out (.int .i64 t223)) NB222_238.out (.int .i64 t228)) NB222_238.out (.int .i64 t233)) NB222_238.out (.string (⟨#[]⟩ : ByteArray))) NB222_238.out (.slice none 0 0)) 0 (.slice Ao53 t240.length co53) rfl) 1 (.bool t243) rfl))⟩
   have n7_ : Aside0 (w55.heap[gb238]? = some (.cells #[.int .i64 t223, .int .i64 t228, .int .i64 t233, .string (⟨#[]⟩ : ByteArray), .slice none 0 0] 25 (0, 0))) := ⟨by rw [← hw_]; exact (pl_blk (blk_far (p := ⟨gb222, 1, none⟩) (blk_far (p := ⟨gb222, 0, none⟩) (blk_put (blk_put (blk_put (blk_put (blk_put BK238.out 0 (.int .i64 t223) rfl) 1 (.int .i64 t228) rfl) 2 (.int .i64 t233) rfl) 3 (.string (⟨#[]⟩ : ByteArray)) rfl) 4 (.slice none 0 0) rfl) NB238_222.out (.slice Ao53 t240.length co53)) NB238_222.out (.bool t243)))⟩
   have n8_ : Aside0 (Below w.heap.size w w55) := ⟨by rw [← hw_]; exact (by repeat (first | (with_reducible first | exact HB.out | apply below_alloc | apply pw_below_drewN | apply below_drew1 | refine below_set ?_ GE222.out | refine below_set ?_ GE238.out) | exact HB.out))⟩
   (try clear HO0)
   (try clear HO226)
   (try clear HO231)
   (try clear HO236)
   (try clear HO242)
   (try clear BK221)
   (try clear BK222)
   (try clear BK238)
   (try clear HB)
   clear hw_
   have HO0 := n0_
   have HO226 := n1_
   have HO231 := n2_
   have HO236 := n3_
   have HO242 := n4_
   have BK221 := n5_
   have BK222 := n6_
   have BK238 := n7_
   have HB := n8_
   clear n0_ n1_ n2_ n3_ n4_ n5_ n6_ n7_ n8_
   replace HO0 := Aside0.mk (Kd.V_drew HO0.out)
   replace HO226 := Aside0.mk (Kd.V_drew HO226.out)
   replace HO231 := Aside0.mk (Kd.V_drew HO231.out)
   replace HO236 := Aside0.mk (Kd.V_drew HO236.out)
   replace HO242 := Aside0.mk (Kd.V_drew HO242.out)
   replace BK221 := Aside0.mk (blk_drew BK221.out)
   replace BK222 := Aside0.mk (blk_drew BK222.out)
   replace BK238 := Aside0.mk (blk_drew BK238.out)
   replace HB := Aside0.mk (below_drew1 HB.out)
   have q57 : (t239 : Int) ≤ ((t240.length : Int) : Int) := of_decide_eq_true (by first | (with_reducible assumption) | assumption)
   obtain ⟨i057, hi057, _, hsz57, _⟩ := info_parts info5
   have hroom57 : t240.length ≤ co53 := (Kd.V_reads' HO242.out).2.1
   have hC57 : Kd.F (Kd.int .u8) _ _ Ao53 t240.length t240 := (Kd.V_at (base := w.heap.size) HO242.out).2.2
   have hcut57 := cut_to (P := Try.prog) 40 5 .i64 Try.underlying40 hi057 Ao53 t240.length co53 t239 (of_decide_eq_true (by first | (with_reducible assumption) | assumption)) q57 hroom57
   have hr57 := Kd.F_take (m := (t239 : Int).toNat) hC57 (by omega)
   have hy57 : y244.length = (t239 : Int).toNat := (by rw [Ny244.out, List.length_take]; omega)
   rw [← Ny244.out] at hr57
   rw [← hy57] at hcut57
   have HO248 := Aside0.mk (show Kd.V (Kd.int .u8) 5 _ w.heap.size _ (.slice Ao53 y244.length co53) y244 from Kd.V_mk (by omega) hr57)
   have HC248 := Aside0.mk (show y244.length ≤ co53 from by omega)
   clear hr57 hC57 hroom57 hi057 hsz57
   have KY57 := Aside0.mk hy57
   clear hy57
   replace q57 := eq_true q57
   have q58 : (t239 : Int) ≤ ((t240.length : Int) : Int) := of_decide_eq_true (by first | (with_reducible assumption) | assumption)
   obtain ⟨i058, hi058, _, hsz58, _⟩ := info_parts info5
   have hroom58 : t240.length ≤ co53 := (Kd.V_reads' HO242.out).2.1
   have hC58 : Kd.F (Kd.int .u8) _ _ Ao53 t240.length t240 := (Kd.V_at (base := w.heap.size) HO242.out).2.2
   have q058 : (0 : Int) ≤ (t239 : Int) := of_decide_eq_true (by first | (with_reducible assumption) | assumption)
   have hcut58 := cut_from (P := Try.prog) 40 5 .i64 Try.underlying40 hi058 1 hsz58 Ao53 t240.length co53 t239 q058 q58
   have hr58 := Kd.F_cut (m := (t239 : Int).toNat) (c := co53) hC58 (by omega) hroom58
   obtain ⟨A58, hA58⟩ : ∃ A1, A1 = (if co53 = (t239 : Int).toNat then Ao53 else (Ao53 : Option Addr).map (·.add ((t239 : Int).toNat * 1))) := ⟨_, rfl⟩
   obtain ⟨c58, hc58⟩ : ∃ c1, c1 = co53 - (t239 : Int).toNat := ⟨_, rfl⟩
   have hy58 : y249.length = t240.length - (t239 : Int).toNat := (by rw [Ny249.out, List.length_drop] <;> omega)
   rw [show (t240).drop (t239 : Int).toNat = y249 from Ny249.out.symm] at hr58
   replace hr58 : Kd.F (Kd.int .u8) _ _ A58 y249.length y249 := (by rw [hA58]; exact hr58)
   rw [← hy58, ← hA58, ← hc58] at hcut58
   have HO253 := Aside0.mk (show Kd.V (Kd.int .u8) 5 _ w.heap.size _ (.slice A58 y249.length c58) y249 from Kd.V_mk (by rw [hy58, hc58]; exact Nat.sub_le_sub_right hroom58 _) hr58)
   have HC253 := Aside0.mk (show y249.length ≤ c58 from by rw [hy58, hc58]; exact Nat.sub_le_sub_right hroom58 _)
   clear hr58 hC58 hroom58 hi058 hsz58 hc58
   have KY58 := Aside0.mk hy58
   have KA58 := Aside0.mk hA58
   clear hy58 hA58
   replace q58 := eq_true q58
   refine start_ (n := 19) (S := fun w' => w'.cell? ⟨gb222, 0, none⟩ = some (.slice Ao53 t240.length co53) ∧ w'.cell? ⟨gb222, 1, none⟩ = some (.bool t243)) (ds := [18]) #[false, false, false, false, false, false, false, false, false, false, false, false, false, false, false, false, false, false, false] (by kernel_rfl) rfl rfl ⟨(blk_cell BK222.out 0).trans rfl, (blk_cell BK222.out 1).trans rfl⟩ (fun hHeld => ?_); refine with_tabW event_Get.tab6 event_Get.bits6 (fun HT_ HW_ => ?_)
   generalize w55.drew = w56 at HO0 HO226 HO231 HO236 HO242 BK221 BK222 BK238 HB HO0 HO226 HO231 HO236 HO242 HO248 HO253 hHeld ⊢
   refine pure_ (i := 0) (N := some 30) (v := ?_) (a' := ?_) #[true, false, false, false, false, false, false, false, false, false, false, false, false, false, false, false, false, false, false] rfl rfl (any_of HT_.out (by kernel_rfl)) (fun _ _ _ h => h) (Or.inl ⟨by rfl, ?_⟩) ?_ ?_
   rotate_left
   ·intro w'
    go_simp
    with_reducible rfl
   rotate_left
   ·simp only [Act.put, List.setIfInBounds_toArray, List.set_cons_zero, List.set_cons_succ, i64_w, i32_w]
    rfl
   refine pure_ (i := 1) (N := some 31) (v := ?_) (a' := ?_) #[true, true, false, false, false, false, false, false, false, false, false, false, false, false, false, false, false, false, false] rfl rfl (any_of HT_.out (by kernel_rfl)) (fun _ _ _ h => h) (Or.inl ⟨by rfl, ?_⟩) ?_ ?_
   rotate_left
   ·intro w'
    go_simp
    with_reducible rfl
   rotate_left
   ·simp only [Act.put, List.setIfInBounds_toArray, List.set_cons_zero, List.set_cons_succ, i64_w, i32_w]
    rfl
   refine pure_ (i := 2) (N := some 32) (v := ?_) (a' := ?_) #[true, true, true, false, false, false, false, false, false, false, false, false, false, false, false, false, false, false, false] rfl rfl (any_of HT_.out (by kernel_rfl)) (fun _ _ _ h => h) (Or.inl ⟨by rfl, ?_⟩) ?_ ?_
   rotate_left
   ·intro w'
    go_simp
    with_reducible rfl
   rotate_left
   ·simp only [Act.put, List.setIfInBounds_toArray, List.set_cons_zero, List.set_cons_succ, i64_w, i32_w]
    rfl
   refine pure_ (i := 3) (N := some 33) (v := ?_) (a' := ?_) #[true, true, true, true, false, false, false, false, false, false, false, false, false, false, false, false, false, false, false] rfl rfl (any_of HT_.out (by kernel_rfl)) (fun _ _ _ h => h) (Or.inl ⟨by rfl, ?_⟩) ?_ ?_
   rotate_left
   ·intro w'
    go_simp
    with_reducible rfl
   rotate_left
   ·simp only [Act.put, List.setIfInBounds_toArray, List.set_cons_zero, List.set_cons_succ, i64_w, i32_w]
    rfl
   refine pure_ (i := 5) (N := some 35) (v := ?_) (a' := ?_) #[true, true, true, true, false, true, false, false, false, false, false, false, false, false, false, false, false, false, false] rfl rfl (any_of HT_.out (by kernel_rfl)) (fun _ _ _ h => h) (Or.inl ⟨by rfl, ?_⟩) ?_ ?_
   rotate_left
   ·intro w'
    go_simp
    with_reducible rfl
   rotate_left
   ·simp only [Act.put, List.setIfInBounds_toArray, List.set_cons_zero, List.set_cons_succ, i64_w, i32_w]
    rfl
   refine pure_ (i := 8) (N := some 38) (v := ?_) (a' := ?_) #[true, true, true, true, false, true, false, false, true, false, false, false, false, false, false, false, false, false, false] rfl rfl (any_of HT_.out (by kernel_rfl)) (fun _ _ _ h => h) (Or.inl ⟨by rfl, ?_⟩) ?_ ?_
   rotate_left
   ·intro w'
    go_simp
    with_reducible rfl
   rotate_left
   ·simp only [Act.put, List.setIfInBounds_toArray, List.set_cons_zero, List.set_cons_succ, i64_w, i32_w]
    rfl
   refine pure_ (i := 9) (N := some 39) (v := ?_) (a' := ?_) #[true, true, true, true, false, true, false, false, true, true, false, false, false, false, false, false, false, false, false] rfl rfl (any_of HT_.out (by kernel_rfl)) (fun _ _ _ h => h) (Or.inl ⟨by rfl, ?_⟩) ?_ ?_
   rotate_left
   ·intro w'
    go_simp
    with_reducible rfl
   rotate_left
   ·simp only [Act.put, List.setIfInBounds_toArray, List.set_cons_zero, List.set_cons_succ, i64_w, i32_w]
    rfl
   refine pure_ (i := 10) (N := some 40) (v := ?_) (a' := ?_) #[true, true, true, true, false, true, false, false, true, true, true, false, false, false, false, false, false, false, false] rfl rfl (any_of HT_.out (by kernel_rfl)) (fun _ _ _ h => h) (Or.inl ⟨by rfl, ?_⟩) ?_ ?_
   rotate_left
   ·intro w'
    go_simp
    with_reducible rfl
   rotate_left
   ·simp only [Act.put, List.setIfInBounds_toArray, List.set_cons_zero, List.set_cons_succ, i64_w, i32_w]
    rfl
   refine pure_ (i := 12) (N := some 42) (v := ?_) (a' := ?_) #[true, true, true, true, false, true, false, false, true, true, true, false, true, false, false, false, false, false, false] rfl rfl (any_of HT_.out (by kernel_rfl)) (fun _ _ _ h => h) (Or.inl ⟨by rfl, ?_⟩) ?_ ?_
   rotate_left
   ·intro w'
    go_simp
    with_reducible rfl
   rotate_left
   ·simp only [Act.put, List.setIfInBounds_toArray, List.set_cons_zero, List.set_cons_succ, i64_w, i32_w]
    rfl
   refine take_ (i := 4) (N := some 34) (v := ?_) (a' := ?_) #[true, true, true, true, true, true, false, false, true, true, true, false, true, false, false, false, false, false, false] rfl rfl (take_ofW HT_.out HW_.out (by kernel_rfl)) (fun _ _ _ h => h) (Or.inl ⟨by rfl, ?_⟩) hHeld ?_ ?_
   rotate_left
   ·rintro w' ⟨s0, s1⟩
    go_simp
    with_reducible rfl
   rotate_left
   ·simp only [Act.put, List.setIfInBounds_toArray, List.set_cons_zero, List.set_cons_succ, i64_w, i32_w]
    rfl
   refine pure_ (i := 6) (N := some 36) (v := ?_) (a' := ?_) #[true, true, true, true, true, true, true, false, true, true, true, false, true, false, false, false, false, false, false] rfl rfl (any_of HT_.out (by kernel_rfl)) (fun _ _ _ h => h) (Or.inl ⟨by rfl, ?_⟩) ?_ ?_
   rotate_left
   ·intro w'
    go_simp
    with_reducible rfl
   rotate_left
   ·simp only [Act.put, List.setIfInBounds_toArray, List.set_cons_zero, List.set_cons_succ, i64_w, i32_w]
    rfl
   refine take_ (i := 11) (N := some 41) (v := ?_) (a' := ?_) #[true, true, true, true, true, true, true, false, true, true, true, true, true, false, false, false, false, false, false] rfl rfl (take_ofW HT_.out HW_.out (by kernel_rfl)) (fun _ _ _ h => h) (Or.inl ⟨by rfl, ?_⟩) hHeld ?_ ?_
   rotate_left
   ·rintro w' ⟨s0, s1⟩
    go_simp
    with_reducible rfl
   rotate_left
   ·simp only [Act.put, List.setIfInBounds_toArray, List.set_cons_zero, List.set_cons_succ, i64_w, i32_w]
    rfl
   refine pure_ (i := 13) (N := some 43) (v := ?_) (a' := ?_) #[true, true, true, true, true, true, true, false, true, true, true, true, true, true, false, false, false, false, false] rfl rfl (any_of HT_.out (by kernel_rfl)) (fun _ _ _ h => h) (Or.inl ⟨by rfl, ?_⟩) ?_ ?_
   rotate_left
   ·intro w'
    go_simp
    with_reducible rfl
   rotate_left
   ·simp only [Act.put, List.setIfInBounds_toArray, List.set_cons_zero, List.set_cons_succ, i64_w, i32_w]
    rfl
   refine one_ (i := 7) (N := some 37) #[true, true, true, true, true, true, true, true, true, true, true, true, true, true, false, false, false, false, false] rfl rfl (one_of HT_.out (by kernel_rfl)) (by decide) (fun K hK => ?_)
   have hcv59 := Kd.C_string (P := Try.prog) (c := co53) Try.underlying40 Try.underlying5 Try.underlying9 (Kd.V_reads' HO248.out).2.2
   refine value_ (w1 := ?_) (v := ?_) (by rfl) rfl ?_ ?_
   rotate_left 2
   ·go_simp
    constructor
    ·rfl
    ·rfl
   clear hcv59
   refine hK.out _ _ ⟨(blk_cell BK222.out 0).trans rfl, (blk_cell BK222.out 1).trans rfl⟩ (fun hHeld => ?_)
   clear hK K
   refine norm_ (a' := ?_) ?_ ?_
   rotate_left
   ·show Act.put _ (some 37) _ = _
    simp only [Act.put, List.setIfInBounds_toArray, List.set_cons_zero, List.set_cons_succ, i64_w, i32_w]
    rfl
   refine pure_ (i := 14) (N := some 44) (v := ?_) (a' := ?_) #[true, true, true, true, true, true, true, true, true, true, true, true, true, true, true, false, false, false, false] rfl rfl (any_of HT_.out (by kernel_rfl)) (fun _ _ _ h => h) (Or.inl ⟨by rfl, ?_⟩) ?_ ?_
   rotate_left
   ·intro w'
    go_simp
    with_reducible rfl
   rotate_left
   ·simp only [Act.put, List.setIfInBounds_toArray, List.set_cons_zero, List.set_cons_succ, i64_w, i32_w]
    rfl
   refine one_ (i := 15) (N := none) #[true, true, true, true, true, true, true, true, true, true, true, true, true, true, true, true, false, false, false] rfl rfl (one_of HT_.out (by kernel_rfl)) (by decide) (fun K hK => ?_)
   have hs60 : w56.cell? ⟨gb238, 3, none⟩ = some (.string (⟨#[]⟩ : ByteArray)) := (blk_cell BK238.out 3).trans rfl
   have hfs60 := blk_frozen BK238.out 3
   have hns60_0 := NB221_238.out
   have hns60_1 := NB222_238.out
   have hms60_0 := NB238_221.out
   have hms60_1 := NB238_222.out
   refine skip_ (w1 := ?_) (by rfl) rfl ?_ ?_
   rotate_left
   ·go_simp
    rfl
   refine hK.out _ _ ⟨((cell_far (p := ⟨gb238, _, none⟩) NB222_238.out _).trans (hHeld.1)), ((cell_far (p := ⟨gb238, _, none⟩) NB222_238.out _).trans (hHeld.2))⟩ (fun hHeld => ?_)
   clear hK K
   refine pure_ (i := 16) (N := some 45) (v := ?_) (a' := ?_) #[true, true, true, true, true, true, true, true, true, true, true, true, true, true, true, true, true, false, false] rfl rfl (any_of HT_.out (by kernel_rfl)) (fun _ _ _ h => h) (Or.inl ⟨by rfl, ?_⟩) ?_ ?_
   rotate_left
   ·intro w'
    go_simp
    with_reducible rfl
   rotate_left
   ·simp only [Act.put, List.setIfInBounds_toArray, List.set_cons_zero, List.set_cons_succ, i64_w, i32_w]
    rfl
   refine pure_ (i := 17) (N := some 46) (v := ?_) (a' := ?_) #[true, true, true, true, true, true, true, true, true, true, true, true, true, true, true, true, true, true, false] rfl rfl (any_of HT_.out (by kernel_rfl)) (fun _ _ _ h => h) (Or.inl ⟨by rfl, ?_⟩) ?_ ?_
   rotate_left
   ·intro w'
    go_simp
    with_reducible rfl
   rotate_left
   ·simp only [Act.put, List.setIfInBounds_toArray, List.set_cons_zero, List.set_cons_succ, i64_w, i32_w]
    rfl
   refine last_ (i := 18) (N := none) #[true, true, true, true, true, true, true, true, true, true, true, true, true, true, true, true, true, true, true] rfl rfl (one_of HT_.out (by kernel_rfl)) (by decide) (fun K hK => ?_)
   have hs61 : w56.cell? ⟨gb222, 0, none⟩ = some (.slice Ao53 t240.length co53) := (blk_cell BK222.out 0).trans rfl
   have hfs61 := blk_frozen BK222.out 0
   have hns61_0 := NB221_222.out
   have hns61_2 := NB238_222.out
   have hms61_0 := NB222_221.out
   have hms61_2 := NB222_238.out
   refine skip_ (w1 := ?_) (by rfl) rfl ?_ ?_
   rotate_left
   ·go_simp
    rfl
   refine hK.out _ _ ?_
   clear hK K
   refine done_ (done_of HT_.out (by kernel_rfl)) ?_
   obtain ⟨hcz62_0, hcz62_1, hfz62_0, hfz62_1⟩ := blk_c2 BK222.out
   try go_wp2_with (fail)
   go_at_call 44; (with_reducible refine (event_reader_num.calls k gb222 A58 c58 y249 t243 8 t254 t255 t258 5 w.heap.size (fun k_ => ((P0_ k_ ∨ w.heap.size ≤ k_) ∧ (k_ ≠ gb221 ∧ (k_ ≠ gb222 ∧ k_ ≠ gb238)))) _ ?side1 ?side2 A33.out).mono ?_)
   (case side1 => exact (pl_blk (blk_put (blk_far (p := ⟨gb238, 3, none⟩) BK222.out NB222_238.out (.string (strOfNums y244))) 0 (.slice A58 y249.length c58) rfl)))
   (case side2 => exact (by (with_reducible repeat (first | apply Kd.V_alloc | apply Kd.V_drewN | apply Kd.V_drew)); exact (Kd.V_mono (Kd.V_mono (Kd.V_far (p := ⟨gb222, 0, none⟩) (Kd.V_far (p := ⟨gb238, 3, none⟩) (Kd.V_mono (Kd.V_mono HO253.out (fun k_ hk => (⟨hk, hk.2.2.2⟩ : _ ∧ k_ ≠ gb238))) (fun k_ hk => (⟨hk, hk.1.2.2.1⟩ : _ ∧ k_ ≠ gb222))) (fun _ hk => hk.1.2) (.string (strOfNums y244))) (fun _ hk => hk.2) (.slice A58 y249.length c58)) (fun _ h_ => h_.1)) (fun _ h_ => h_.1))))
   rintro e w_ ⟨v256, rfl, rfl, hV_⟩
   have HO257 := Aside0.mk hV_
   clear hV_
   obtain ⟨Ao63, co63, eo63⟩ := Kd.V_slice HO257.out
   subst eo63
   obtain ⟨hcz64_0, hcz64_1, hfz64_0, hfz64_1⟩ := blk_c2 BK222.out
   have cy65 : (((w56.setCell ⟨gb238, 3, none⟩ (.string (strOfNums y244))).setCell ⟨gb222, 0, none⟩ (.slice A58 y249.length c58)).setCell ⟨gb222, 0, none⟩ (.slice Ao63 t255.length co63)).heap[gb222]? = some (.cells #[.slice Ao63 t255.length co63, .bool t243] 70 (0, 0)) := (pl_blk (blk_put (blk_put (blk_far (p := ⟨gb238, 3, none⟩) BK222.out NB222_238.out (.string (strOfNums y244))) 0 (.slice A58 y249.length c58) rfl) 0 (.slice Ao63 t255.length co63) rfl))
   have hcy65_0 : (((w56.setCell ⟨gb238, 3, none⟩ (.string (strOfNums y244))).setCell ⟨gb222, 0, none⟩ (.slice A58 y249.length c58)).setCell ⟨gb222, 0, none⟩ (.slice Ao63 t255.length co63)).cell? ⟨gb222, 0, none⟩ = some (.slice Ao63 t255.length co63) := (blk_cell cy65 0).trans rfl
   have hcy65_1 : (((w56.setCell ⟨gb238, 3, none⟩ (.string (strOfNums y244))).setCell ⟨gb222, 0, none⟩ (.slice A58 y249.length c58)).setCell ⟨gb222, 0, none⟩ (.slice Ao63 t255.length co63)).cell? ⟨gb222, 1, none⟩ = some (.bool t243) := (blk_cell cy65 1).trans rfl
   clear cy65
   try go_wp2_with (fail)
   go_loopg [49] k (fun kq v49 w' => ∃ (x49_1 : Int) (x222000_1 : Int) (x222001_1 : Int) (x222002_1 : Int) (x222003_1 : ByteArray) (x223000_1 : List Int) (x239004_1 : List (S52)) (u223000 : Value) (u239004 : Value), v49 = .int .i64 x49_1 ∧ Aside0 (event_Get.l0 kq t254 x49_1 x223000_1 t258 t223 t228 t233 (strOfNums y244) x239004_1 = some (r1, r2, r3, r4, r5, r6)) ∧ Aside0 (kq ≤ k) ∧ Aside0 (Kd.V (Kd.int .u8) 5 w' w.heap.size (fun k_ => (P0_ k_ ∨ w.heap.size ≤ k_) ∧ some k_ ≠ (u239004 : Value).ownBlock ∧ k_ ≠ gb221 ∧ k_ ≠ gb222 ∧ k_ ≠ gb238) u223000 x223000_1) ∧ Aside0 (Kd.R k52 52 w' w.heap.size (fun k_ => (w.heap.size ≤ k_)) u239004 x239004_1) ∧ Aside0 (w'.heap[gb221]? = some (.cells #[.int .i64 x222000_1, .int .i64 x222001_1, .int .i64 x222002_1, .string x222003_1, (.slice none 0 0)] 25 (0, 0))) ∧ Aside0 (w'.heap[gb222]? = some (.cells #[u223000, .bool t258] 70 (0, 0))) ∧ Aside0 (w'.heap[gb238]? = some (.cells #[.int .i64 t223, .int .i64 t228, .int .i64 t233, .string (strOfNums y244), u239004] 25 (0, 0))) ∧ Aside0 (Below w.heap.size w w'))
   case atStart => exact ⟨(0), (0), (0), (0), ((⟨#[]⟩ : ByteArray)), (t255), (([] : List (S52))), (.slice Ao63 t255.length co63), (.slice none 0 0), (by first | rfl | (simp; done) | (simp [*]; done) | grind), H', ⟨Nat.le_refl _⟩, ⟨by (with_reducible repeat (first | apply Kd.V_alloc | apply Kd.V_drewN | apply Kd.V_drew)); exact Kd.V_mono (Kd.V_far (p := ⟨gb222, 1, none⟩) (Kd.V_far (p := ⟨gb222, 0, none⟩) (Kd.V_mono HO257.out (fun k_ hk => (⟨hk, hk.2.2.1⟩ : _ ∧ k_ ≠ gb222))) (fun _ hk => hk.2) (.slice Ao63 t255.length co63)) (fun _ hk => hk.2) (.bool t258)) (fun _ hk => ⟨hk.1.1, ⟨(by simp [Value.ownBlock]), ⟨hk.1.2.1, ⟨hk.1.2.2.1, hk.1.2.2.2⟩⟩⟩⟩)⟩, ⟨by first | exact Kd.R_nil _ _ _ _ _ | exact Kd.N_nil _ _ _ _ _ | exact Kd.V_nil _ _ _ _ _ | exact Kd.Q_nil _ _ _ _ _ | exact Kd.S_nil _ _ _ _ _⟩, ⟨pl_blk (blk_far (p := ⟨gb222, 1, none⟩) (blk_far (p := ⟨gb222, 0, none⟩) (blk_far (p := ⟨gb222, 0, none⟩) (blk_far (p := ⟨gb238, 3, none⟩) BK221.out NB221_238.out (.string (strOfNums y244))) NB221_222.out (.slice A58 y249.length c58)) NB221_222.out (.slice Ao63 t255.length co63)) NB221_222.out (.bool t258))⟩, ⟨pl_blk (blk_put (blk_put (blk_put (blk_far (p := ⟨gb238, 3, none⟩) BK222.out NB222_238.out (.string (strOfNums y244))) 0 (.slice A58 y249.length c58) rfl) 0 (.slice Ao63 t255.length co63) rfl) 1 (.bool t258) rfl)⟩, ⟨pl_blk (blk_far (p := ⟨gb222, 1, none⟩) (blk_far (p := ⟨gb222, 0, none⟩) (blk_far (p := ⟨gb222, 0, none⟩) (blk_put BK238.out 3 (.string (strOfNums y244)) rfl) NB238_222.out (.slice A58 y249.length c58)) NB238_222.out (.slice Ao63 t255.length co63)) NB238_222.out (.bool t258))⟩, ⟨by repeat (first | (with_reducible first | exact HB.out | apply below_alloc | apply pw_below_drewN | apply below_drew1 | refine below_set ?_ GE222.out | refine below_set ?_ GE238.out) | exact HB.out)⟩⟩
   case round =>
    clear H'
    (try clear c1); (try clear c2); (try clear p2); (try clear c3); (try clear c4); (try clear c5); (try clear q5); (try clear hcv5); (try clear c6); (try clear c6b0); (try clear c9); (try clear c22); (try clear c23); (try clear c25); (try clear c29); (try clear c29b0); (try clear c29b1); (try clear c30); (try clear c30b0); (try clear c30b1); (try clear c31); (try clear c31b0); (try clear c32); (try clear c32b0); (try clear c36); (try clear c49); (try clear c50); (try clear q57); (try clear c58); (try clear q58); (try clear hcv59); (try clear q058); (try clear hcz10_0 hcz10_1 hfz10_0 hfz10_1); (try clear hcz12_0 hcz12_1 hfz12_0 hfz12_1); (try clear hcz14_0 hcz14_1 hfz14_0 hfz14_1); (try clear hcz18_0 hcz18_1 hfz18_0 hfz18_1); (try clear hcz24_0 hcz24_1 hcz24_2 hcz24_3 hcz24_4 hfz24_0 hfz24_1 hfz24_2 hfz24_3 hfz24_4); (try clear hcz25_0 hcz25_1 hfz25_0 hfz25_1); (try clear hcz27_0 hcz27_1 hfz27_0 hfz27_1); (try clear hcz28_0 hcz28_1 hcz28_2 hcz28_3 hcz28_4 hfz28_0 hfz28_1 hfz28_2 hfz28_3 hfz28_4); (try clear hcz37_0 hcz37_1 hfz37_0 hfz37_1); (try clear hcz39_0 hcz39_1 hfz39_0 hfz39_1); (try clear hcz41_0 hcz41_1 hfz41_0 hfz41_1); (try clear hcz45_0 hcz45_1 hfz45_0 hfz45_1); (try clear hcz51_0 hcz51_1 hcz51_2 hcz51_3 hcz51_4 hfz51_0 hfz51_1 hfz51_2 hfz51_3 hfz51_4); (try clear hcz52_0 hcz52_1 hfz52_0 hfz52_1); (try clear hcz54_0 hcz54_1 hfz54_0 hfz54_1); (try clear hcz62_0 hcz62_1 hfz62_0 hfz62_1); (try clear hcz64_0 hcz64_1 hfz64_0 hfz64_1)
    obtain ⟨x49_1, x222000_1, x222001_1, x222002_1, x222003_1, x223000_1, x239004_1, u223000, u239004, rfl, HA, HK1, HO_223000, HO_239004, BK221, BK222, BK238, HB⟩ := hrel
    cases gk with
    | zero => exact absurd HA.out (by simp [event_Get.l0])
    | succ k1 =>
     have H := HA.out
     clear HA
     simp only [event_Get.l0] at H
     by_cases c66 : x49_1 < t254
     ·rw [if_pos c66] at H
      have c66b0 : decide (x49_1 < t254) = true := decide_eq_true c66
      clear c66
      replace H := Option.bind_eq_some_iff.mp H
      obtain ⟨⟨t259, t260, t261, t262, t263⟩, A67, H⟩ := H
      (try dsimp only at H)
      replace A67 := Aside0.mk A67
      by_cases c68 : t263 = true
      ·subst c68
       rw [if_pos rfl] at H
       replace H := Option.bind_eq_some_iff.mp H
       obtain ⟨y265, hy265, H⟩ := H
       replace hy265 := (Option.some.inj hy265).symm
       (try dsimp only at H)
       have Ny265 := Aside0.mk hy265
       clear hy265
       by_cases c69 : x239004_1.length + y265.length < 4398046511104; rotate_left
       ·rw [if_neg c69] at H; cases H
       rw [if_pos c69] at H
       have LMc69 := Aside0.mk c69
       clear c69
       obtain ⟨y268, hy268⟩ : ∃ y_ : List (S52), y_ = (x239004_1 ++ y265) := ⟨_, rfl⟩
       replace H : (if 0 ≤ t262 then (if t262 ≤ (x223000_1.length : Int) then (event_Get.l0 k1 t254 (wrap64 (x49_1 + 1)) (x223000_1.drop (t262 : Int).toNat) t258 t223 t228 t233 (strOfNums y244) y268) else (none)) else (none)) = some (r1, r2, r3, r4, r5, r6) := by first | (rw [hy268]; with_reducible exact H) | (have H2_ := (Option.bind_some _ _).symm.trans H; rw [hy268]; with_reducible exact H2_) | (have H2_ := (Option.bind_some _ _).symm.trans H; with_reducible exact H2_) | with_reducible exact H | (rw [hy268]; exact H) | exact H
       have Ny268 := Aside0.mk hy268
       clear hy268
       by_cases c70 : 0 ≤ t262; rotate_left
       ·rw [if_neg c70] at H; cases H
       rw [if_pos c70] at H
       have c70b0 := eq_true c70
       have c70b1 : decide (0 ≤ t262) = true := decide_eq_true c70
       clear c70
       by_cases c71 : t262 ≤ (x223000_1.length : Int); rotate_left
       ·rw [if_neg c71] at H; cases H
       rw [if_pos c71] at H
       have c71b0 := eq_true c71
       have c71b1 : decide (t262 ≤ (x223000_1.length : Int)) = true := decide_eq_true c71
       clear c71
       obtain ⟨y271, hy271⟩ : ∃ y_ : List Int, y_ = (x223000_1.drop (t262 : Int).toNat) := ⟨_, rfl⟩
       replace H : (event_Get.l0 k1 t254 (wrap64 (x49_1 + 1)) y271 t258 t223 t228 t233 (strOfNums y244) y268) = some (r1, r2, r3, r4, r5, r6) := by first | (rw [hy271]; with_reducible exact H) | (have H2_ := (Option.bind_some _ _).symm.trans H; rw [hy271]; with_reducible exact H2_) | (have H2_ := (Option.bind_some _ _).symm.trans H; with_reducible exact H2_) | with_reducible exact H | (rw [hy271]; exact H) | exact H
       have Ny271 := Aside0.mk hy271
       clear hy271
       have H' := Aside0.mk H
       clear H
       have hnb72 := NB222_221.out
       have hnc72 := NB221_222.out
       have hnb73 := NB222_238.out
       have hnc73 := NB238_222.out
       obtain ⟨hcz74_0, hcz74_1, hfz74_0, hfz74_1⟩ := blk_c2 BK222.out
       obtain ⟨Ao75, co75, eo75⟩ := Kd.V_slice HO_223000.out
       subst eo75
       try go_wp2_with (first | ((with_reducible refine gate_callee (f := 45) rfl ?_); refine goesL_ (some 56) rfl rfl Try.func45 (by kernel_rfl) rfl #[.slice Ao75 x223000_1.length co75] rfl (by (try simp only [List.map_toArray, List.map_cons, List.map_nil]); first | done | rfl | (simp only [List.length_drop, List.length_take]; rfl)) ?_; (with_reducible refine (value_Get.calls k1 _ _ x223000_1 t259 t260 t261 t262 true _ ?side1 ?side2 A67.out).mono ?_); (case side1 => repeat (first | exact (Kd.V_reads' HO_223000.out).2.2 | (with_reducible refine Kd.C_alloc ?_ _) | (with_reducible refine Kd.C_drewN ?_ _) | (with_reducible refine Kd.C_drew ?_))); (case side2 => exact (Kd.V_reads' HO_223000.out).2.1); rintro e w76 ⟨rfl, hb⟩; refine ⟨_, rfl, ?_⟩; replace HO_223000 := Aside0.mk (Kd.V_below (Kd.pl_V HO_223000.out) hb); replace HO_239004 := Aside0.mk (Kd.R_below (Kd.pl_R HO_239004.out) hb); replace BK221 := bb BK221 hb; replace BK222 := bb BK222 hb; replace BK238 := bb BK238 hb; replace HB := hB HB hb; (try clear hb); (try clear hb2); (try clear hk); (try clear hi)) | ((with_reducible refine gate_dst (N := 7) rfl ?_); (try (refine gate_guard (by rfl) ?_; dsimp only)); refine box_event ?hg (N := 7) ?hd (cs := #[.int .i64 0, .int .i64 0, .string (⟨#[]⟩ : ByteArray)]) (t := 52) ?hr ?_; (case hd => rfl); (case hg => rfl); (case hr => first | (go_simp; done) | (go_simp; rfl)); intro gb264 hg w77 hbox hb; replace HO_223000 := Aside0.mk (Kd.V_below (Kd.V_elderB (Kd.pl_V HO_223000.out) gb264 (Nat.le_of_eq hg.symm)) hb); replace HO_239004 := Aside0.mk (Kd.R_below (Kd.R_elderB (Kd.pl_R HO_239004.out) gb264 (Nat.le_of_eq hg.symm)) hb); have BK264 := Aside0.mk (hbox); have GW264 := hG HB hg; have GE264 := hG HB hg; replace HB := hB HB hb; have NB221_264 := hN BK221 hg; have NB264_221 := hM BK221 hg; replace BK221 := bb BK221 hb; have NB222_264 := hN BK222 hg; have NB264_222 := hM BK222 hg; replace BK222 := bb BK222 hb; have NB238_264 := hN BK238 hg; have NB264_238 := hM BK238 hg; replace BK238 := bb BK238 hb; clear hb hbox hg; have hnb78 := NB264_221.out; have hnc78 := NB221_264.out; have hnb79 := NB264_222.out; have hnc79 := NB222_264.out; have hnb80 := NB264_238.out; have hnc80 := NB238_264.out; obtain ⟨hcz81_0, hcz81_1, hcz81_2, hfz81_0, hfz81_1, hfz81_2⟩ := blk_c3 BK264.out; obtain ⟨Ao82, co82, eo82⟩ := Kd.R_slice HO_239004.out; subst eo82))
       generalize hw_ : (((w77.setCell ⟨gb264, 0, none⟩ (.int .i64 t259)).setCell ⟨gb264, 1, none⟩ (.int .i64 t260)).setCell ⟨gb264, 2, none⟩ (.string t261)) = w83
       have n0_ : Aside0 (Kd.V (Kd.int .u8) 5 w83 w.heap.size (fun k_ => (P0_ k_ ∨ w.heap.size ≤ k_) ∧ some k_ ≠ (.slice Ao82 x239004_1.length co82 : Value).ownBlock ∧ k_ ≠ gb221 ∧ k_ ≠ gb222 ∧ k_ ≠ gb238 ∧ k_ ≠ gb264) (.slice Ao75 x223000_1.length co75) x223000_1) := ⟨by rw [← hw_]; exact (by (with_reducible repeat (first | apply Kd.V_alloc | apply Kd.V_drewN | apply Kd.V_drew)); exact Kd.V_mono (Kd.V_far (p := ⟨gb264, 2, none⟩) (Kd.V_far (p := ⟨gb264, 1, none⟩) (Kd.V_far (p := ⟨gb264, 0, none⟩) (Kd.V_mono HO_223000.out (fun k_ hk => (⟨hk, hk.2⟩ : _ ∧ k_ ≠ gb264))) (fun _ hk => hk.2) (.int .i64 t259)) (fun _ hk => hk.2) (.int .i64 t260)) (fun _ hk => hk.2) (.string t261)) (fun _ hk => ⟨hk.1.1.1, ⟨hk.1.1.2.1, ⟨hk.1.1.2.2.1, ⟨hk.1.1.2.2.2.1, ⟨hk.1.1.2.2.2.2, hk.1.2⟩⟩⟩⟩⟩))⟩
       have n1_ : Aside0 (Kd.R k52 52 w83 w.heap.size (fun k_ => (w.heap.size ≤ k_) ∧ k_ ≠ gb264) (.slice Ao82 x239004_1.length co82) x239004_1) := ⟨by rw [← hw_]; exact (by (with_reducible repeat (first | apply Kd.R_alloc | apply Kd.R_drewN | apply Kd.R_drew)); exact Kd.R_mono (Kd.R_far (p := ⟨gb264, 2, none⟩) (Kd.R_far (p := ⟨gb264, 1, none⟩) (Kd.R_far (p := ⟨gb264, 0, none⟩) (Kd.R_mono HO_239004.out (fun k_ hk => (⟨hk, hk.2⟩ : _ ∧ k_ ≠ gb264))) (fun _ hk => hk.2) (.int .i64 t259)) (fun _ hk => hk.2) (.int .i64 t260)) (fun _ hk => hk.2) (.string t261)) (fun _ hk => ⟨hk.1.1, hk.1.2⟩))⟩
       have n2_ : Aside0 (w83.heap[gb221]? = some (.cells #[.int .i64 x222000_1, .int .i64 x222001_1, .int .i64 x222002_1, .string x222003_1, .slice none 0 0] 25 (0, 0))) := ⟨by rw [← hw_]; exact (pl_blk (blk_far (p := ⟨gb264, 2, none⟩) (blk_far (p := ⟨gb264, 1, none⟩) (blk_far (p := ⟨gb264, 0, none⟩) BK221.out NB221_264.out (.int .i64 t259)) NB221_264.out (.int .i64 t260)) NB221_264.out (.string t261)))⟩
       have n3_ : Aside0 (w83.heap[gb222]? = some (.cells #[.slice Ao75 x223000_1.length co75, .bool t258] 70 (0, 0))) := ⟨by rw [← hw_]; exact (pl_blk (blk_far (p := ⟨gb264, 2, none⟩) (blk_far (p := ⟨gb264, 1, none⟩) (blk_far (p := ⟨gb264, 0, none⟩) BK222.out NB222_264.out (.int .i64 t259)) NB222_264.out (.int .i64 t260)) NB222_264.out (.string t261)))⟩
       have n4_ : Aside0 (w83.heap[gb238]? = some (.cells #[.int .i64 t223, .int .i64 t228, .int .i64 t233, .string (strOfNums y244), .slice Ao82 x239004_1.length co82] 25 (0, 0))) := ⟨by rw [← hw_]; exact (pl_blk (blk_far (p := ⟨gb264, 2, none⟩) (blk_far (p := ⟨gb264, 1, none⟩) (blk_far (p := ⟨gb264, 0, none⟩) BK238.out NB238_264.out (.int .i64 t259)) NB238_264.out (.int .i64 t260)) NB238_264.out (.string t261)))⟩
       have n5_ : Aside0 (w83.heap[gb264]? = some (.cells #[.int .i64 t259, .int .i64 t260, .string t261] 52 (0, 0))) := ⟨by rw [← hw_]; exact (pl_blk (blk_put (blk_put (blk_put BK264.out 0 (.int .i64 t259) rfl) 1 (.int .i64 t260) rfl) 2 (.string t261) rfl))⟩
       have n6_ : Aside0 (Below w.heap.size w w83) := ⟨by rw [← hw_]; exact (by repeat (first | (with_reducible first | exact HB.out | apply below_alloc | apply pw_below_drewN | apply below_drew1 | refine below_set ?_ GE264.out) | exact HB.out))⟩
       (try clear HO_223000)
       (try clear HO_239004)
       (try clear BK221)
       (try clear BK222)
       (try clear BK238)
       (try clear BK264)
       (try clear HB)
       clear hw_
       have HO_223000 := n0_
       have HO_239004 := n1_
       have BK221 := n2_
       have BK222 := n3_
       have BK238 := n4_
       have BK264 := n5_
       have HB := n6_
       clear n0_ n1_ n2_ n3_ n4_ n5_ n6_
       replace HO_223000 := Aside0.mk (Kd.V_drew HO_223000.out)
       replace HO_239004 := Aside0.mk (Kd.R_drew HO_239004.out)
       replace BK221 := Aside0.mk (blk_drew BK221.out)
       replace BK222 := Aside0.mk (blk_drew BK222.out)
       replace BK238 := Aside0.mk (blk_drew BK238.out)
       replace BK264 := Aside0.mk (blk_drew BK264.out)
       replace HB := Aside0.mk (below_drew1 HB.out)
       have q85 : (t262 : Int) ≤ ((x223000_1.length : Int) : Int) := of_decide_eq_true (by first | (with_reducible assumption) | assumption)
       obtain ⟨i085, hi085, _, hsz85, _⟩ := info_parts info5
       have hroom85 : x223000_1.length ≤ co75 := (Kd.V_reads' HO_223000.out).2.1
       have hC85 : Kd.F (Kd.int .u8) _ _ Ao75 x223000_1.length x223000_1 := (Kd.V_at (base := w.heap.size) HO_223000.out).2.2
       have q085 : (0 : Int) ≤ (t262 : Int) := of_decide_eq_true (by first | (with_reducible assumption) | assumption)
       have hcut85 := cut_from (P := Try.prog) 40 5 .i64 Try.underlying40 hi085 1 hsz85 Ao75 x223000_1.length co75 t262 q085 q85
       have hr85 := Kd.F_cut (m := (t262 : Int).toNat) (c := co75) hC85 (by omega) hroom85
       obtain ⟨A85, hA85⟩ : ∃ A1, A1 = (if co75 = (t262 : Int).toNat then Ao75 else (Ao75 : Option Addr).map (·.add ((t262 : Int).toNat * 1))) := ⟨_, rfl⟩
       obtain ⟨c85, hc85⟩ : ∃ c1, c1 = co75 - (t262 : Int).toNat := ⟨_, rfl⟩
       have hy85 : y271.length = x223000_1.length - (t262 : Int).toNat := (by rw [Ny271.out, List.length_drop] <;> omega)
       rw [show (x223000_1).drop (t262 : Int).toNat = y271 from Ny271.out.symm] at hr85
       replace hr85 : Kd.F (Kd.int .u8) _ _ A85 y271.length y271 := (by rw [hA85]; exact hr85)
       rw [← hy85, ← hA85, ← hc85] at hcut85
       have HO275 := Aside0.mk (show Kd.V (Kd.int .u8) 5 _ w.heap.size _ (.slice A85 y271.length c85) y271 from Kd.V_mk (by rw [hy85, hc85]; exact Nat.sub_le_sub_right hroom85 _) hr85)
       have HC275 := Aside0.mk (show y271.length ≤ c85 from by rw [hy85, hc85]; exact Nat.sub_le_sub_right hroom85 _)
       clear hr85 hC85 hroom85 hi085 hsz85 hc85
       have KY85 := Aside0.mk hy85
       have KA85 := Aside0.mk hA85
       clear hy85 hA85
       replace q85 := eq_true q85
       refine start_ (n := 17) (S := fun w' => w'.cell? ⟨gb264, 0, none⟩ = some (.int .i64 t259) ∧ w'.cell? ⟨gb264, 1, none⟩ = some (.int .i64 t260) ∧ w'.cell? ⟨gb264, 2, none⟩ = some (.string t261) ∧ w'.cell? ⟨gb222, 0, none⟩ = some (.slice Ao75 x223000_1.length co75) ∧ w'.cell? ⟨gb222, 1, none⟩ = some (.bool t258)) (ds := [16]) #[false, false, false, false, false, false, false, false, false, false, false, false, false, false, false, false, false] (by kernel_rfl) rfl rfl ⟨(blk_cell BK264.out 0).trans rfl, (blk_cell BK264.out 1).trans rfl, (blk_cell BK264.out 2).trans rfl, (blk_cell BK222.out 0).trans rfl, (blk_cell BK222.out 1).trans rfl⟩ (fun hHeld => ?_); refine with_tabW event_Get.tab12 event_Get.bits12 (fun HT_ HW_ => ?_)
       generalize w83.drew = w84 at HO_223000 HO_239004 BK221 BK222 BK238 BK264 HB HO275 hHeld ⊢
       refine pure_ (i := 0) (N := some 63) (v := ?_) (a' := ?_) #[true, false, false, false, false, false, false, false, false, false, false, false, false, false, false, false, false] rfl rfl (any_of HT_.out (by kernel_rfl)) (fun _ _ _ h => h) (Or.inl ⟨by rfl, ?_⟩) ?_ ?_
       rotate_left
       ·intro w'
        go_simp
        with_reducible rfl
       rotate_left
       ·simp only [Act.put, List.setIfInBounds_toArray, List.set_cons_zero, List.set_cons_succ, i64_w, i32_w]
        rfl
       refine pure_ (i := 1) (N := some 64) (v := ?_) (a' := ?_) #[true, true, false, false, false, false, false, false, false, false, false, false, false, false, false, false, false] rfl rfl (any_of HT_.out (by kernel_rfl)) (fun _ _ _ h => h) (Or.inl ⟨by rfl, ?_⟩) ?_ ?_
       rotate_left
       ·intro w'
        go_simp
        with_reducible rfl
       rotate_left
       ·simp only [Act.put, List.setIfInBounds_toArray, List.set_cons_zero, List.set_cons_succ, i64_w, i32_w]
        rfl
       refine pure_ (i := 6) (N := some 69) (v := ?_) (a' := ?_) #[true, true, false, false, false, false, true, false, false, false, false, false, false, false, false, false, false] rfl rfl (any_of HT_.out (by kernel_rfl)) (fun _ _ _ h => h) (Or.inl ⟨by rfl, ?_⟩) ?_ ?_
       rotate_left
       ·intro w'
        go_simp
        with_reducible rfl
       rotate_left
       ·simp only [Act.put, List.setIfInBounds_toArray, List.set_cons_zero, List.set_cons_succ, i64_w, i32_w]
        rfl
       refine pure_ (i := 7) (N := some 70) (v := ?_) (a' := ?_) #[true, true, false, false, false, false, true, true, false, false, false, false, false, false, false, false, false] rfl rfl (any_of HT_.out (by kernel_rfl)) (fun _ _ _ h => h) (Or.inl ⟨by rfl, ?_⟩) ?_ ?_
       rotate_left
       ·intro w'
        go_simp
        with_reducible rfl
       rotate_left
       ·simp only [Act.put, List.setIfInBounds_toArray, List.set_cons_zero, List.set_cons_succ, i64_w, i32_w]
        rfl
       refine pure_ (i := 8) (N := some 71) (v := ?_) (a' := ?_) #[true, true, false, false, false, false, true, true, true, false, false, false, false, false, false, false, false] rfl rfl (any_of HT_.out (by kernel_rfl)) (fun _ _ _ h => h) (Or.inl ⟨by rfl, ?_⟩) ?_ ?_
       rotate_left
       ·intro w'
        go_simp
        with_reducible rfl
       rotate_left
       ·simp only [Act.put, List.setIfInBounds_toArray, List.set_cons_zero, List.set_cons_succ, i64_w, i32_w]
        rfl
       refine pure_ (i := 10) (N := some 73) (v := ?_) (a' := ?_) #[true, true, false, false, false, false, true, true, true, false, true, false, false, false, false, false, false] rfl rfl (any_of HT_.out (by kernel_rfl)) (fun _ _ _ h => h) (Or.inl ⟨by rfl, ?_⟩) ?_ ?_
       rotate_left
       ·intro w'
        go_simp
        with_reducible rfl
       rotate_left
       ·simp only [Act.put, List.setIfInBounds_toArray, List.set_cons_zero, List.set_cons_succ, i64_w, i32_w]
        rfl
       refine take_ (i := 3) (N := some 66) (v := ?_) (a' := ?_) #[true, true, false, true, false, false, true, true, true, false, true, false, false, false, false, false, false] rfl rfl (take_ofW HT_.out HW_.out (by kernel_rfl)) (fun _ _ _ h => h) (Or.inl ⟨by rfl, ?_⟩) hHeld ?_ ?_
       rotate_left
       ·rintro w' ⟨s0, s1, s2, s3, s4⟩
        go_simp
        with_reducible rfl
       rotate_left
       ·simp only [Act.put, List.setIfInBounds_toArray, List.set_cons_zero, List.set_cons_succ, i64_w, i32_w]
        rfl
       refine take_ (i := 9) (N := some 72) (v := ?_) (a' := ?_) #[true, true, false, true, false, false, true, true, true, true, true, false, false, false, false, false, false] rfl rfl (take_ofW HT_.out HW_.out (by kernel_rfl)) (fun _ _ _ h => h) (Or.inl ⟨by rfl, ?_⟩) hHeld ?_ ?_
       rotate_left
       ·rintro w' ⟨s0, s1, s2, s3, s4⟩
        go_simp
        with_reducible rfl
       rotate_left
       ·simp only [Act.put, List.setIfInBounds_toArray, List.set_cons_zero, List.set_cons_succ, i64_w, i32_w]
        rfl
       refine pure_ (i := 11) (N := some 74) (v := ?_) (a' := ?_) #[true, true, false, true, false, false, true, true, true, true, true, true, false, false, false, false, false] rfl rfl (any_of HT_.out (by kernel_rfl)) (fun _ _ _ h => h) (Or.inl ⟨by rfl, ?_⟩) ?_ ?_
       rotate_left
       ·intro w'
        go_simp
        with_reducible rfl
       rotate_left
       ·simp only [Act.put, List.setIfInBounds_toArray, List.set_cons_zero, List.set_cons_succ, i64_w, i32_w]
        rfl
       refine join_ (σ := Value) 6 #[true, true, true, true, true, false, true, true, true, true, true, true, false, false, false, false, false] (fun s_ => [(65, .slice Ao82 x239004_1.length co82), (67, s_)]) (fun s_ w' => (w'.cell? ⟨gb264, 0, none⟩ = some (.int .i64 t259) ∧ w'.cell? ⟨gb264, 1, none⟩ = some (.int .i64 t260) ∧ w'.cell? ⟨gb264, 2, none⟩ = some (.string t261) ∧ w'.cell? ⟨gb222, 0, none⟩ = some (.slice Ao75 x223000_1.length co75) ∧ w'.cell? ⟨gb222, 1, none⟩ = some (.bool t258)) ∧ (Kd.R k52 52 w' w.heap.size (fun k_ => (w.heap.size ≤ k_) ∧ some k_ ≠ (.slice Ao82 x239004_1.length co82 : Value).ownBlock ∧ k_ ≠ gb264) s_ y265) ∧ (Kd.V (Kd.int .u8) 5 w' w.heap.size (fun k_ => (P0_ k_ ∨ w.heap.size ≤ k_) ∧ some k_ ≠ (s_ : Value).ownBlock ∧ some k_ ≠ (.slice Ao82 x239004_1.length co82 : Value).ownBlock ∧ k_ ≠ gb221 ∧ k_ ≠ gb222 ∧ k_ ≠ gb238 ∧ k_ ≠ gb264) (.slice A85 y271.length c85) y271) ∧ (Kd.V (Kd.int .u8) 5 w' w.heap.size (fun k_ => (P0_ k_ ∨ w.heap.size ≤ k_) ∧ some k_ ≠ (s_ : Value).ownBlock ∧ some k_ ≠ (.slice Ao82 x239004_1.length co82 : Value).ownBlock ∧ k_ ≠ gb221 ∧ k_ ≠ gb222 ∧ k_ ≠ gb238 ∧ k_ ≠ gb264) (.slice Ao75 x223000_1.length co75) x223000_1) ∧ (Kd.R k52 52 w' w.heap.size (fun k_ => (w.heap.size ≤ k_) ∧ some k_ ≠ (s_ : Value).ownBlock ∧ k_ ≠ gb264) (.slice Ao82 x239004_1.length co82) x239004_1) ∧ (w'.heap[gb221]? = some (.cells #[.int .i64 x222000_1, .int .i64 x222001_1, .int .i64 x222002_1, .string x222003_1, .slice none 0 0] 25 (0, 0))) ∧ (w'.heap[gb222]? = some (.cells #[.slice Ao75 x223000_1.length co75, .bool t258] 70 (0, 0))) ∧ (w'.heap[gb238]? = some (.cells #[.int .i64 t223, .int .i64 t228, .int .i64 t233, .string (strOfNums y244), .slice Ao82 x239004_1.length co82] 25 (0, 0))) ∧ (w'.heap[gb264]? = some (.cells #[.int .i64 t259, .int .i64 t260, .string t261] 52 (0, 0))) ∧ (Below w.heap.size w w')) ?_ ?_
       rotate_left
       ·intro hCont
        refine two_ (i := 2) (j := 4) (Ni := some 65) (Nj := some 67) #[true, true, true, true, false, false, true, true, true, true, true, true, false, false, false, false, false] #[true, true, false, true, true, false, true, true, true, true, true, true, false, false, false, false, false] rfl rfl rfl rfl (two_of HT_.out (by kernel_rfl)) (by decide) (by decide) (fun K hK => ?_) (fun K hK => ?_)
        ·skip
         have hcv86 := (blk_cell BK238.out 4).trans rfl
         refine value_ (w1 := ?_) (v := ?_) (by rfl) rfl ?_ ?_
         rotate_left 2
         ·go_simp
          constructor
          ·rfl
          ·rfl
         clear hcv86
         refine hK.out _ _ ⟨(blk_cell BK264.out 0).trans rfl, (blk_cell BK264.out 1).trans rfl, (blk_cell BK264.out 2).trans rfl, (blk_cell BK222.out 0).trans rfl, (blk_cell BK222.out 1).trans rfl⟩ (fun hHeld => ?_)
         clear hK K
         refine norm_ (a' := ?_) ?_ ?_
         rotate_left
         ·show Act.put _ (some 65) _ = _
          simp only [Act.put, List.setIfInBounds_toArray, List.set_cons_zero, List.set_cons_succ, i64_w, i32_w]
          rfl
         refine one_ (i := 4) (N := some 67) #[true, true, true, true, true, false, true, true, true, true, true, true, false, false, false, false, false] rfl rfl (one_of HT_.out (by kernel_rfl)) (by decide) (fun K hK => ?_)
         refine Kd.R_lit_step k52 _ 52 ?hg (N := 67) ?hd (xs := ([(⟨t259, t260, t261⟩ : S52)] : List (S52))) (inner := [.int .i64 t259, .int .i64 t260, .string t261]) (ok := fun _ => True) (okp := fun _ => True) ?hr ?hp (fun _ hk => hk) trivial (Below.refl _ _) (Nat.le_refl _) (by simp) ?_; (case hd => rfl); (case hg => rfl); (case hr => first | (go_simp; done) | (go_simp; rfl)); (case hp => exact (Reps.c3 (show Kd.M k52 _ _ _ (⟨t259, t260, t261⟩ : S52) [.int .i64 t259, .int .i64 t260, .string t261] from (k52_mkM _ _ _ (⟨t259, t260, t261⟩ : S52) )) (Reps.none _ _)))
         intro v266 w87 ho88 hb hg_ hnew_
         clear hg_ hnew_
         (first | rw [← Ny265.out] at ho88 | (simp only [Int.reduceToNat] at ho88; rw [← Ny265.out] at ho88))
         replace HO_223000 := Aside0.mk (Kd.V_elder' (Kd.pl_V HO_223000.out) (Kd.R_base ho88) hb)
         replace HO275 := Aside0.mk (Kd.V_elder' (Kd.pl_V HO275.out) (Kd.R_base ho88) hb)
         have HO267 := Aside0.mk (Kd.R_lower (Kd.R_newB (Kd.R_new' (Kd.R_newM (M := fun k_ => (w.heap.size ≤ k_)) ho88 (below_size (pl_below HB.out)) (fun k_ h_ => h_)) (Kd.R_lt (Kd.pl_R HO_239004.out))) (pl_blk BK264.out)) (below_size (pl_below HB.out)))
         replace HO_239004 := Aside0.mk (Kd.R_elder' (Kd.pl_R HO_239004.out) (Kd.R_base ho88) hb)
         replace BK221 := bb BK221 hb
         replace BK222 := bb BK222 hb
         replace BK238 := bb BK238 hb
         replace BK264 := bb BK264 hb
         replace HB := hB HB hb
         clear hb ho88
         refine hK.out _ _ ⟨(blk_cell BK264.out 0).trans rfl, (blk_cell BK264.out 1).trans rfl, (blk_cell BK264.out 2).trans rfl, (blk_cell BK222.out 0).trans rfl, (blk_cell BK222.out 1).trans rfl⟩ (fun hHeld => ?_)
         clear hK K
         refine norm_ (a' := ?_) ?_ ?_
         rotate_left
         ·show Act.put _ (some 67) _ = _
          simp only [Act.put, List.setIfInBounds_toArray, List.set_cons_zero, List.set_cons_succ, i64_w, i32_w]
          rfl
         exact norm_ (by simp only [putAll, Act.put, List.setIfInBounds_toArray, List.set_cons_zero, List.set_cons_succ]) (hCont (v266) _ ⟨hHeld, (by (with_reducible repeat (first | apply Kd.R_alloc | apply Kd.R_drewN | apply Kd.R_drew)); exact Kd.R_mono HO267.out (fun _ hk => ⟨hk.1.1.1, ⟨hk.1.2, hk.2⟩⟩)), (by (with_reducible repeat (first | apply Kd.V_alloc | apply Kd.V_drewN | apply Kd.V_drew)); exact Kd.V_mono HO275.out (fun _ hk => ⟨hk.1.1, ⟨hk.2, ⟨hk.1.2.1, ⟨hk.1.2.2.1, ⟨hk.1.2.2.2.1, ⟨hk.1.2.2.2.2.1, hk.1.2.2.2.2.2⟩⟩⟩⟩⟩⟩)), (by (with_reducible repeat (first | apply Kd.V_alloc | apply Kd.V_drewN | apply Kd.V_drew)); exact Kd.V_mono HO_223000.out (fun _ hk => ⟨hk.1.1, ⟨hk.2, ⟨hk.1.2.1, ⟨hk.1.2.2.1, ⟨hk.1.2.2.2.1, ⟨hk.1.2.2.2.2.1, hk.1.2.2.2.2.2⟩⟩⟩⟩⟩⟩)), (by (with_reducible repeat (first | apply Kd.R_alloc | apply Kd.R_drewN | apply Kd.R_drew)); exact Kd.R_mono HO_239004.out (fun _ hk => ⟨hk.1.1, ⟨hk.2, hk.1.2⟩⟩)), (pl_blk BK221.out), (pl_blk BK222.out), (pl_blk BK238.out), (pl_blk BK264.out), (pl_below HB.out)⟩)
        ·skip
         refine Kd.R_lit_step k52 _ 52 ?hg (N := 67) ?hd (xs := ([(⟨t259, t260, t261⟩ : S52)] : List (S52))) (inner := [.int .i64 t259, .int .i64 t260, .string t261]) (ok := fun _ => True) (okp := fun _ => True) ?hr ?hp (fun _ hk => hk) trivial (Below.refl _ _) (Nat.le_refl _) (by simp) ?_; (case hd => rfl); (case hg => rfl); (case hr => first | (go_simp; done) | (go_simp; rfl)); (case hp => exact (Reps.c3 (show Kd.M k52 _ _ _ (⟨t259, t260, t261⟩ : S52) [.int .i64 t259, .int .i64 t260, .string t261] from (k52_mkM _ _ _ (⟨t259, t260, t261⟩ : S52) )) (Reps.none _ _)))
         intro v266 w86 ho87 hb hg_ hnew_
         clear hg_ hnew_
         (first | rw [← Ny265.out] at ho87 | (simp only [Int.reduceToNat] at ho87; rw [← Ny265.out] at ho87))
         replace HO_223000 := Aside0.mk (Kd.V_elder' (Kd.pl_V HO_223000.out) (Kd.R_base ho87) hb)
         replace HO275 := Aside0.mk (Kd.V_elder' (Kd.pl_V HO275.out) (Kd.R_base ho87) hb)
         have HO267 := Aside0.mk (Kd.R_lower (Kd.R_newB (Kd.R_new' (Kd.R_newM (M := fun k_ => (w.heap.size ≤ k_)) ho87 (below_size (pl_below HB.out)) (fun k_ h_ => h_)) (Kd.R_lt (Kd.pl_R HO_239004.out))) (pl_blk BK264.out)) (below_size (pl_below HB.out)))
         replace HO_239004 := Aside0.mk (Kd.R_elder' (Kd.pl_R HO_239004.out) (Kd.R_base ho87) hb)
         replace BK221 := bb BK221 hb
         replace BK222 := bb BK222 hb
         replace BK238 := bb BK238 hb
         replace BK264 := bb BK264 hb
         replace HB := hB HB hb
         clear hb ho87
         refine hK.out _ _ ⟨(blk_cell BK264.out 0).trans rfl, (blk_cell BK264.out 1).trans rfl, (blk_cell BK264.out 2).trans rfl, (blk_cell BK222.out 0).trans rfl, (blk_cell BK222.out 1).trans rfl⟩ (fun hHeld => ?_)
         clear hK K
         refine norm_ (a' := ?_) ?_ ?_
         rotate_left
         ·show Act.put _ (some 67) _ = _
          simp only [Act.put, List.setIfInBounds_toArray, List.set_cons_zero, List.set_cons_succ, i64_w, i32_w]
          rfl
         refine one_ (i := 2) (N := some 65) #[true, true, true, true, true, false, true, true, true, true, true, true, false, false, false, false, false] rfl rfl (one_of HT_.out (by kernel_rfl)) (by decide) (fun K hK => ?_)
         have hcv88 := (blk_cell BK238.out 4).trans rfl
         refine value_ (w1 := ?_) (v := ?_) (by rfl) rfl ?_ ?_
         rotate_left 2
         ·go_simp
          constructor
          ·rfl
          ·rfl
         clear hcv88
         refine hK.out _ _ ⟨(blk_cell BK264.out 0).trans rfl, (blk_cell BK264.out 1).trans rfl, (blk_cell BK264.out 2).trans rfl, (blk_cell BK222.out 0).trans rfl, (blk_cell BK222.out 1).trans rfl⟩ (fun hHeld => ?_)
         clear hK K
         refine norm_ (a' := ?_) ?_ ?_
         rotate_left
         ·show Act.put _ (some 65) _ = _
          simp only [Act.put, List.setIfInBounds_toArray, List.set_cons_zero, List.set_cons_succ, i64_w, i32_w]
          rfl
         exact norm_ (by simp only [putAll, Act.put, List.setIfInBounds_toArray, List.set_cons_zero, List.set_cons_succ]) (hCont (v266) _ ⟨hHeld, (by (with_reducible repeat (first | apply Kd.R_alloc | apply Kd.R_drewN | apply Kd.R_drew)); exact Kd.R_mono HO267.out (fun _ hk => ⟨hk.1.1.1, ⟨hk.1.2, hk.2⟩⟩)), (by (with_reducible repeat (first | apply Kd.V_alloc | apply Kd.V_drewN | apply Kd.V_drew)); exact Kd.V_mono HO275.out (fun _ hk => ⟨hk.1.1, ⟨hk.2, ⟨hk.1.2.1, ⟨hk.1.2.2.1, ⟨hk.1.2.2.2.1, ⟨hk.1.2.2.2.2.1, hk.1.2.2.2.2.2⟩⟩⟩⟩⟩⟩)), (by (with_reducible repeat (first | apply Kd.V_alloc | apply Kd.V_drewN | apply Kd.V_drew)); exact Kd.V_mono HO_223000.out (fun _ hk => ⟨hk.1.1, ⟨hk.2, ⟨hk.1.2.1, ⟨hk.1.2.2.1, ⟨hk.1.2.2.2.1, ⟨hk.1.2.2.2.2.1, hk.1.2.2.2.2.2⟩⟩⟩⟩⟩⟩)), (by (with_reducible repeat (first | apply Kd.R_alloc | apply Kd.R_drewN | apply Kd.R_drew)); exact Kd.R_mono HO_239004.out (fun _ hk => ⟨hk.1.1, ⟨hk.2, hk.1.2⟩⟩)), (pl_blk BK221.out), (pl_blk BK222.out), (pl_blk BK238.out), (pl_blk BK264.out), (pl_below HB.out)⟩)
       rintro v266 w89 ⟨hS_, h0_, h1_, h2_, h3_, h4_, h5_, h6_, h7_, h8_⟩
       have n0_ : Aside0 (Kd.R k52 52 w89 w.heap.size (fun k_ => (w.heap.size ≤ k_) ∧ some k_ ≠ (.slice Ao82 x239004_1.length co82 : Value).ownBlock ∧ k_ ≠ gb264) v266 y265) := ⟨h0_⟩
       have n1_ : Aside0 (Kd.V (Kd.int .u8) 5 w89 w.heap.size (fun k_ => (P0_ k_ ∨ w.heap.size ≤ k_) ∧ some k_ ≠ (v266 : Value).ownBlock ∧ some k_ ≠ (.slice Ao82 x239004_1.length co82 : Value).ownBlock ∧ k_ ≠ gb221 ∧ k_ ≠ gb222 ∧ k_ ≠ gb238 ∧ k_ ≠ gb264) (.slice A85 y271.length c85) y271) := ⟨h1_⟩
       have n2_ : Aside0 (Kd.V (Kd.int .u8) 5 w89 w.heap.size (fun k_ => (P0_ k_ ∨ w.heap.size ≤ k_) ∧ some k_ ≠ (v266 : Value).ownBlock ∧ some k_ ≠ (.slice Ao82 x239004_1.length co82 : Value).ownBlock ∧ k_ ≠ gb221 ∧ k_ ≠ gb222 ∧ k_ ≠ gb238 ∧ k_ ≠ gb264) (.slice Ao75 x223000_1.length co75) x223000_1) := ⟨h2_⟩
       have n3_ : Aside0 (Kd.R k52 52 w89 w.heap.size (fun k_ => (w.heap.size ≤ k_) ∧ some k_ ≠ (v266 : Value).ownBlock ∧ k_ ≠ gb264) (.slice Ao82 x239004_1.length co82) x239004_1) := ⟨h3_⟩
       have n4_ : Aside0 (w89.heap[gb221]? = some (.cells #[.int .i64 x222000_1, .int .i64 x222001_1, .int .i64 x222002_1, .string x222003_1, .slice none 0 0] 25 (0, 0))) := ⟨h4_⟩
       have n5_ : Aside0 (w89.heap[gb222]? = some (.cells #[.slice Ao75 x223000_1.length co75, .bool t258] 70 (0, 0))) := ⟨h5_⟩
       have n6_ : Aside0 (w89.heap[gb238]? = some (.cells #[.int .i64 t223, .int .i64 t228, .int .i64 t233, .string (strOfNums y244), .slice Ao82 x239004_1.length co82] 25 (0, 0))) := ⟨h6_⟩
       have n7_ : Aside0 (w89.heap[gb264]? = some (.cells #[.int .i64 t259, .int .i64 t260, .string t261] 52 (0, 0))) := ⟨h7_⟩
       have n8_ : Aside0 (Below w.heap.size w w89) := ⟨h8_⟩
       clear HO_223000
       clear HO_239004
       clear BK221
       clear BK222
       clear BK238
       clear BK264
       clear HB
       clear h0_ h1_ h2_ h3_ h4_ h5_ h6_ h7_ h8_
       have HO267 := n0_
       have HO275 := n1_
       have HO_223000 := n2_
       have HO_239004 := n3_
       have BK221 := n4_
       have BK222 := n5_
       have BK238 := n6_
       have BK264 := n7_
       have HB := n8_
       clear n0_ n1_ n2_ n3_ n4_ n5_ n6_ n7_ n8_
       have hHeld : w89.cell? ⟨gb264, 0, none⟩ = some (.int .i64 t259) ∧ w89.cell? ⟨gb264, 1, none⟩ = some (.int .i64 t260) ∧ w89.cell? ⟨gb264, 2, none⟩ = some (.string t261) ∧ w89.cell? ⟨gb222, 0, none⟩ = some (.slice Ao75 x223000_1.length co75) ∧ w89.cell? ⟨gb222, 1, none⟩ = some (.bool t258) := hS_
       obtain ⟨Ao91, co91, eo91⟩ := Kd.R_slice HO267.out
       (first | subst eo91 | (injection eo91 with f1_ f2_ f3_; have f4_ := f1_.symm; have f5_ := f3_.symm; clear f1_ f2_ f3_; subst f4_; subst f5_))
       refine norm_ (a' := ?_) ?_ ?_
       rotate_left
       ·simp only [putAll, Act.put, List.setIfInBounds_toArray, List.set_cons_zero, List.set_cons_succ]
        rfl
       refine one_ (i := 5) (N := some 68) #[true, true, true, true, true, true, true, true, true, true, true, true, false, false, false, false, false] rfl rfl (one_of HT_.out (by kernel_rfl)) (by decide) (fun K hK => ?_)
       refine Kd.R_append_rows_step k52 (w0 := w) w.heap.size (by rfl) (.tmp 65) (.tmp 67) 23 52 (.agg #[(.int .i64 0), (.int .i64 0), (.string ⟨#[]⟩)]) 32 rfl Try.underlying23 info52 rfl (by decide) (by omega) (.slice Ao82 x239004_1.length co82) x239004_1 y265 _ _ _ (fun k_ => (w.heap.size ≤ k_) ∧ some k_ ≠ (.slice Ao91 y265.length co91 : Value).ownBlock ∧ k_ ≠ gb264) (fun _ => False) rfl rfl ?aO ?aR (fun _ _ h => h) (fun _ h => h.elim) ?aF ?aB ?aS ?aL ?_
       (case aR => repeat (first | exact (Kd.R_reads' HO267.out).2.2 | (with_reducible refine Kd.C_alloc ?_ _) | (with_reducible refine Kd.C_drewN ?_ _) | (with_reducible refine Kd.C_drew ?_)))
       (case aB => exact (pl_below HB.out))
       (case aF => exact (fun k_ hk => ⟨(Nat.le_trans (below_size (pl_below HB.out)) hk), Kd.fresh' (Kd.R_lt (Kd.pl_R HO267.out)) k_ hk, Kd.freshB (g := gb264) (o := .cells #[.int .i64 t259, .int .i64 t260, .string t261] 52 (0, 0)) (pl_blk BK264.out) k_ hk⟩))
       (case aO => exact (Kd.pl_R HO_239004.out))
       (case aS => exact (below_size (pl_below HB.out)))
       (case aL => have := LMc69.out; omega)
       intro v269 w90 ho hb hg hat
       rw [← Ny268.out] at ho
       replace HO_223000 := Aside0.mk (Kd.V_afterv (ok := (fun k_ => (P0_ k_ ∨ w.heap.size ≤ k_) ∧ some k_ ≠ (.slice Ao91 y265.length co91 : Value).ownBlock ∧ k_ ≠ gb221 ∧ k_ ≠ gb222 ∧ k_ ≠ gb238 ∧ k_ ≠ gb264)) (by (with_reducible repeat (first | apply Kd.V_alloc | apply Kd.V_drewN | apply Kd.V_drew)); exact Kd.V_mono HO_223000.out (fun _ hk => ⟨⟨hk.1, ⟨hk.2.1, ⟨hk.2.2.2.1, ⟨hk.2.2.2.2.1, ⟨hk.2.2.2.2.2.1, hk.2.2.2.2.2.2⟩⟩⟩⟩⟩, hk.2.2.1⟩)) hg hat)
       replace BK221 := Aside0.mk (blk_grown (pl_blk BK221.out) hg (Kd.R_ne HO_239004.out BK221.out (by decide)))
       replace BK222 := Aside0.mk (blk_grown (pl_blk BK222.out) hg (Kd.R_ne HO_239004.out BK222.out (by decide)))
       replace BK238 := Aside0.mk (blk_grown (pl_blk BK238.out) hg (Kd.R_ne HO_239004.out BK238.out (by decide)))
       replace BK264 := Aside0.mk (blk_grown (pl_blk BK264.out) hg (Kd.R_away HO_239004.out (fun _ hk => hk.2.2)))
       replace HO275 := Aside0.mk (Kd.V_afterv (ok := (fun k_ => (P0_ k_ ∨ w.heap.size ≤ k_) ∧ some k_ ≠ (.slice Ao91 y265.length co91 : Value).ownBlock ∧ k_ ≠ gb221 ∧ k_ ≠ gb222 ∧ k_ ≠ gb238 ∧ k_ ≠ gb264)) (by (with_reducible repeat (first | apply Kd.V_alloc | apply Kd.V_drewN | apply Kd.V_drew)); exact Kd.V_mono HO275.out (fun _ hk => ⟨⟨hk.1, ⟨hk.2.1, ⟨hk.2.2.2.1, ⟨hk.2.2.2.2.1, ⟨hk.2.2.2.2.2.1, hk.2.2.2.2.2.2⟩⟩⟩⟩⟩, hk.2.2.1⟩)) hg hat)
       replace HO267 := Aside0.mk (Kd.R_after (ok := (fun k_ => (w.heap.size ≤ k_) ∧ k_ ≠ gb264)) (by (with_reducible repeat (first | apply Kd.R_alloc | apply Kd.R_drewN | apply Kd.R_drew)); exact Kd.R_mono HO267.out (fun _ hk => ⟨⟨hk.1, hk.2.2⟩, hk.2.1⟩)) hg hat)
       replace HB := Aside0.mk (hb)
       have HO270 := Aside0.mk (ho)
       clear HO_239004
       clear ho hb hg hat
       obtain ⟨Ao92, co92, eo92⟩ := Kd.R_slice HO270.out
       (first | subst eo92 | (injection eo92 with f1_ f2_ f3_; have f4_ := f1_.symm; have f5_ := f3_.symm; clear f1_ f2_ f3_; subst f4_; subst f5_))
       refine hK.out _ _ ⟨(blk_cell BK264.out 0).trans rfl, (blk_cell BK264.out 1).trans rfl, (blk_cell BK264.out 2).trans rfl, (blk_cell BK222.out 0).trans rfl, (blk_cell BK222.out 1).trans rfl⟩ (fun hHeld => ?_)
       clear hK K
       refine norm_ (a' := ?_) ?_ ?_
       rotate_left
       ·show Act.put _ (some 68) _ = _
        simp only [Act.put, List.setIfInBounds_toArray, List.set_cons_zero, List.set_cons_succ, i64_w, i32_w]
        rfl
       refine pure_ (i := 12) (N := some 75) (v := ?_) (a' := ?_) #[true, true, true, true, true, true, true, true, true, true, true, true, true, false, false, false, false] rfl rfl (any_of HT_.out (by kernel_rfl)) (fun _ _ _ h => h) (Or.inl ⟨by rfl, ?_⟩) ?_ ?_
       rotate_left
       ·intro w'
        go_simp
        with_reducible rfl
       rotate_left
       ·simp only [Act.put, List.setIfInBounds_toArray, List.set_cons_zero, List.set_cons_succ, i64_w, i32_w]
        rfl
       refine one_ (i := 13) (N := none) #[true, true, true, true, true, true, true, true, true, true, true, true, true, true, false, false, false] rfl rfl (one_of HT_.out (by kernel_rfl)) (by decide) (fun K hK => ?_)
       have hs93 : w90.cell? ⟨gb238, 4, none⟩ = some (.slice Ao82 x239004_1.length co82) := (blk_cell BK238.out 4).trans rfl
       have hfs93 := blk_frozen BK238.out 4
       have hns93_0 := NB221_238.out
       have hns93_1 := NB222_238.out
       have hns93_3 := NB264_238.out
       have hms93_0 := NB238_221.out
       have hms93_1 := NB238_222.out
       have hms93_3 := NB238_264.out
       refine skip_ (w1 := ?_) (by rfl) rfl ?_ ?_
       rotate_left
       ·go_simp
        rfl
       refine hK.out _ _ ⟨((cell_far (p := ⟨gb238, _, none⟩) NB264_238.out _).trans (hHeld.1)), ((cell_far (p := ⟨gb238, _, none⟩) NB264_238.out _).trans (hHeld.2.1)), ((cell_far (p := ⟨gb238, _, none⟩) NB264_238.out _).trans (hHeld.2.2.1)), ((cell_far (p := ⟨gb238, _, none⟩) NB222_238.out _).trans (hHeld.2.2.2.1)), ((cell_far (p := ⟨gb238, _, none⟩) NB222_238.out _).trans (hHeld.2.2.2.2))⟩ (fun hHeld => ?_)
       clear hK K
       refine pure_ (i := 14) (N := some 76) (v := ?_) (a' := ?_) #[true, true, true, true, true, true, true, true, true, true, true, true, true, true, true, false, false] rfl rfl (any_of HT_.out (by kernel_rfl)) (fun _ _ _ h => h) (Or.inl ⟨by rfl, ?_⟩) ?_ ?_
       rotate_left
       ·intro w'
        go_simp
        with_reducible rfl
       rotate_left
       ·simp only [Act.put, List.setIfInBounds_toArray, List.set_cons_zero, List.set_cons_succ, i64_w, i32_w]
        rfl
       refine pure_ (i := 15) (N := some 77) (v := ?_) (a' := ?_) #[true, true, true, true, true, true, true, true, true, true, true, true, true, true, true, true, false] rfl rfl (any_of HT_.out (by kernel_rfl)) (fun _ _ _ h => h) (Or.inl ⟨by rfl, ?_⟩) ?_ ?_
       rotate_left
       ·intro w'
        go_simp
        with_reducible rfl
       rotate_left
       ·simp only [Act.put, List.setIfInBounds_toArray, List.set_cons_zero, List.set_cons_succ, i64_w, i32_w]
        rfl
       refine last_ (i := 16) (N := none) #[true, true, true, true, true, true, true, true, true, true, true, true, true, true, true, true, true] rfl rfl (one_of HT_.out (by kernel_rfl)) (by decide) (fun K hK => ?_)
       have hs94 : w90.cell? ⟨gb222, 0, none⟩ = some (.slice Ao75 x223000_1.length co75) := (blk_cell BK222.out 0).trans rfl
       have hfs94 := blk_frozen BK222.out 0
       have hns94_0 := NB221_222.out
       have hns94_2 := NB238_222.out
       have hns94_3 := NB264_222.out
       have hms94_0 := NB222_221.out
       have hms94_2 := NB222_238.out
       have hms94_3 := NB222_264.out
       refine skip_ (w1 := ?_) (by rfl) rfl ?_ ?_
       rotate_left
       ·go_simp
        rfl
       refine hK.out _ _ ?_
       clear hK K
       refine done_ (done_of HT_.out (by kernel_rfl)) ?_
       try go_wp2
       go_roundg k1
       case measure => have := HK1.out; omega
       case rel => exact ⟨(wrap64 (x49_1 + 1)), (x222000_1), (x222001_1), (x222002_1), (x222003_1), (y271), (y268), (.slice A85 y271.length c85), (.slice Ao92 y268.length co92), (by first | rfl | (simp; done) | (simp [*]; done) | grind), H', ⟨by have := HK1.out; omega⟩, ⟨by (with_reducible repeat (first | apply Kd.V_alloc | apply Kd.V_drewN | apply Kd.V_drew)); exact Kd.V_mono (Kd.V_far (p := ⟨gb222, 0, none⟩) (Kd.V_far (p := ⟨gb238, 4, none⟩) (Kd.V_mono (Kd.V_mono HO275.out (fun k_ hk => (⟨hk, hk.1.2.2.2.2.1⟩ : _ ∧ k_ ≠ gb238))) (fun k_ hk => (⟨hk, hk.1.1.2.2.2.1⟩ : _ ∧ k_ ≠ gb222))) (fun _ hk => hk.1.2) (.slice Ao92 y268.length co92)) (fun _ hk => hk.2) (.slice A85 y271.length c85)) (fun _ hk => ⟨hk.1.1.1.1, ⟨hk.1.1.2, ⟨hk.1.1.1.2.2.1, ⟨hk.1.1.1.2.2.2.1, hk.1.1.1.2.2.2.2.1⟩⟩⟩⟩)⟩, ⟨by (with_reducible repeat (first | apply Kd.R_alloc | apply Kd.R_drewN | apply Kd.R_drew)); exact Kd.R_mono (Kd.R_far (p := ⟨gb222, 0, none⟩) (Kd.R_far (p := ⟨gb238, 4, none⟩) (Kd.R_types (Kd.R_types HO270.out BK238.out (by decide)) BK222.out (by decide)) (fun _ hk => hk.1.2) (.slice Ao92 y268.length co92)) (fun _ hk => hk.2) (.slice A85 y271.length c85)) (fun _ hk => hk.1.1.1)⟩, ⟨pl_blk (blk_far (p := ⟨gb222, 0, none⟩) (blk_far (p := ⟨gb238, 4, none⟩) BK221.out NB221_238.out (.slice Ao92 y268.length co92)) NB221_222.out (.slice A85 y271.length c85))⟩, ⟨pl_blk (blk_put (blk_far (p := ⟨gb238, 4, none⟩) BK222.out NB222_238.out (.slice Ao92 y268.length co92)) 0 (.slice A85 y271.length c85) rfl)⟩, ⟨pl_blk (blk_far (p := ⟨gb222, 0, none⟩) (blk_put BK238.out 4 (.slice Ao92 y268.length co92) rfl) NB238_222.out (.slice A85 y271.length c85))⟩, ⟨by repeat (first | (with_reducible first | exact HB.out | apply below_alloc | apply pw_below_drewN | apply below_drew1 | refine below_set ?_ GE222.out | refine below_set ?_ GE238.out) | exact HB.out)⟩⟩
      ·replace c68 := Bool.eq_false_iff.mpr c68
       subst c68
       rw [if_neg (show ¬ (false = true) by decide)] at H
       simp only [Option.some.injEq, Prod.mk.injEq] at H
       obtain ⟨rfl, rfl, rfl, rfl, rfl, rfl⟩ := H
       have hnb95 := NB222_221.out
       have hnc95 := NB221_222.out
       have hnb96 := NB222_238.out
       have hnc96 := NB238_222.out
       obtain ⟨hcz97_0, hcz97_1, hfz97_0, hfz97_1⟩ := blk_c2 BK222.out
       obtain ⟨Ao98, co98, eo98⟩ := Kd.V_slice HO_223000.out
       subst eo98
       go_wp2_with (first | ((with_reducible refine gate_callee (f := 45) rfl ?_); refine goesL_ (some 56) rfl rfl Try.func45 (by kernel_rfl) rfl #[.slice Ao98 x223000_1.length co98] rfl (by (try simp only [List.map_toArray, List.map_cons, List.map_nil]); first | done | rfl | (simp only [List.length_drop, List.length_take]; rfl)) ?_; (with_reducible refine (value_Get.calls k1 _ _ x223000_1 t259 t260 t261 t262 false _ ?side1 ?side2 A67.out).mono ?_); (case side1 => repeat (first | exact (Kd.V_reads' HO_223000.out).2.2 | (with_reducible refine Kd.C_alloc ?_ _) | (with_reducible refine Kd.C_drewN ?_ _) | (with_reducible refine Kd.C_drew ?_))); (case side2 => exact (Kd.V_reads' HO_223000.out).2.1); rintro e w99 ⟨rfl, hb⟩; refine ⟨_, rfl, ?_⟩; replace HO_223000 := Aside0.mk (Kd.V_below (Kd.pl_V HO_223000.out) hb); replace HO_239004 := Aside0.mk (Kd.R_below (Kd.pl_R HO_239004.out) hb); replace BK221 := bb BK221 hb; replace BK222 := bb BK222 hb; replace BK238 := bb BK238 hb; replace HB := hB HB hb; (try clear hb); (try clear hb2); (try clear hk); (try clear hi)) | ((with_reducible refine gate_dst (N := 7) rfl ?_); (try (refine gate_guard (by rfl) ?_; dsimp only)); refine box_event ?hg (N := 7) ?hd (cs := #[.int .i64 0, .int .i64 0, .string (⟨#[]⟩ : ByteArray)]) (t := 52) ?hr ?_; (case hd => rfl); (case hg => rfl); (case hr => first | (go_simp; done) | (go_simp; rfl)); intro gb264 hg w100 hbox hb; replace HO_223000 := Aside0.mk (Kd.V_below (Kd.V_elderB (Kd.pl_V HO_223000.out) gb264 (Nat.le_of_eq hg.symm)) hb); replace HO_239004 := Aside0.mk (Kd.R_below (Kd.R_elderB (Kd.pl_R HO_239004.out) gb264 (Nat.le_of_eq hg.symm)) hb); have BK264 := Aside0.mk (hbox); have GW264 := hG HB hg; have GE264 := hG HB hg; replace HB := hB HB hb; have NB221_264 := hN BK221 hg; have NB264_221 := hM BK221 hg; replace BK221 := bb BK221 hb; have NB222_264 := hN BK222 hg; have NB264_222 := hM BK222 hg; replace BK222 := bb BK222 hb; have NB238_264 := hN BK238 hg; have NB264_238 := hM BK238 hg; replace BK238 := bb BK238 hb; clear hb hbox hg; have hnb101 := NB264_221.out; have hnc101 := NB221_264.out; have hnb102 := NB264_222.out; have hnc102 := NB222_264.out; have hnb103 := NB264_238.out; have hnc103 := NB238_264.out; obtain ⟨hcz104_0, hcz104_1, hcz104_2, hfz104_0, hfz104_1, hfz104_2⟩ := blk_c3 BK264.out; have hnb105 := NB221_238.out; have hnc105 := NB238_221.out; obtain ⟨hcz106_0, hcz106_1, hcz106_2, hcz106_3, hcz106_4, hfz106_0, hfz106_1, hfz106_2, hfz106_3, hfz106_4⟩ := blk_c5 BK221.out))
       refine bodyPost_ret (results_ct rfl _ _ gb221 25 #[.int .i64 0, .int .i64 0, .int .i64 0, .string (⟨#[]⟩ : ByteArray), .slice none 0 0] (0, 0) _ rfl (pl_blk (blk_put (blk_put (blk_put (blk_put (blk_put (blk_far (p := ⟨gb264, 2, none⟩) (blk_far (p := ⟨gb264, 1, none⟩) (blk_far (p := ⟨gb264, 0, none⟩) BK221.out NB221_264.out (.int .i64 t259)) NB221_264.out (.int .i64 t260)) NB221_264.out (.string t261)) 0 (.int .i64 0) rfl) 1 (.int .i64 0) rfl) 2 (.int .i64 0) rfl) 3 (.string (⟨#[]⟩ : ByteArray)) rfl) 4 (.slice none 0 0) rfl)) Try.underlying25 rfl (by kernel_rfl)) rfl ?_
       exact ⟨_, by first | rfl | (simp [errW_none, errW_some] <;> rfl) | (simp [*, errW_none, errW_some] <;> rfl), by first | exact Kd.R_nil _ _ _ _ _ | exact Kd.N_nil _ _ _ _ _ | exact Kd.V_nil _ _ _ _ _ | exact Kd.Q_nil _ _ _ _ _ | exact Kd.S_nil _ _ _ _ _, by repeat (first | (with_reducible first | exact HB.out | apply below_alloc | apply pw_below_drewN | apply below_drew1 | refine below_set ?_ GE221.out | refine below_set ?_ GE264.out) | exact HB.out)⟩
     ·rw [if_neg c66] at H
      have c66b0 : decide (x49_1 < t254) = false := decide_eq_false c66
      clear c66
      by_cases c107 : t258 = true
      ·subst c107
       rw [if_pos rfl] at H
       simp only [Option.some.injEq, Prod.mk.injEq] at H
       obtain ⟨rfl, rfl, rfl, rfl, rfl, rfl⟩ := H
       have hnb108 := NB222_221.out
       have hnc108 := NB221_222.out
       have hnb109 := NB222_238.out
       have hnc109 := NB238_222.out
       obtain ⟨hcz110_0, hcz110_1, hfz110_0, hfz110_1⟩ := blk_c2 BK222.out
       have hnb111 := NB221_238.out
       have hnc111 := NB238_221.out
       obtain ⟨hcz112_0, hcz112_1, hcz112_2, hcz112_3, hcz112_4, hfz112_0, hfz112_1, hfz112_2, hfz112_3, hfz112_4⟩ := blk_c5 BK221.out
       go_wp2
       refine bodyPost_ret (results_ct rfl _ _ gb221 25 #[.int .i64 0, .int .i64 0, .int .i64 0, .string (⟨#[]⟩ : ByteArray), .slice none 0 0] (0, 0) _ rfl (pl_blk (blk_put (blk_put (blk_put (blk_put (blk_put BK221.out 0 (.int .i64 0) rfl) 1 (.int .i64 0) rfl) 2 (.int .i64 0) rfl) 3 (.string (⟨#[]⟩ : ByteArray)) rfl) 4 (.slice none 0 0) rfl)) Try.underlying25 rfl (by kernel_rfl)) rfl ?_
       exact ⟨_, by first | rfl | (simp [errW_none, errW_some] <;> rfl) | (simp [*, errW_none, errW_some] <;> rfl), by first | exact Kd.R_nil _ _ _ _ _ | exact Kd.N_nil _ _ _ _ _ | exact Kd.V_nil _ _ _ _ _ | exact Kd.Q_nil _ _ _ _ _ | exact Kd.S_nil _ _ _ _ _, by repeat (first | (with_reducible first | exact HB.out | apply below_alloc | apply pw_below_drewN | apply below_drew1 | refine below_set ?_ GE221.out) | exact HB.out)⟩
      ·replace c107 := Bool.eq_false_iff.mpr c107
       subst c107
       rw [if_neg (show ¬ (false = true) by decide)] at H
       by_cases c113 : (x223000_1.length : Int) > 0
       ·rw [if_pos c113] at H
        have c113b0 : decide (0 < (x223000_1.length : Int)) = true := decide_eq_true c113
        have c113b1 : decide (0 < x223000_1.length) = true := decide_eq_true (by omega)
        clear c113
        simp only [Option.some.injEq, Prod.mk.injEq] at H
        obtain ⟨rfl, rfl, rfl, rfl, rfl, rfl⟩ := H
        have hnb114 := NB222_221.out
        have hnc114 := NB221_222.out
        have hnb115 := NB222_238.out
        have hnc115 := NB238_222.out
        obtain ⟨hcz116_0, hcz116_1, hfz116_0, hfz116_1⟩ := blk_c2 BK222.out
        obtain ⟨Ao117, co117, eo117⟩ := Kd.V_slice HO_223000.out
        subst eo117
        have hnb118 := NB221_238.out
        have hnc118 := NB238_221.out
        obtain ⟨hcz119_0, hcz119_1, hcz119_2, hcz119_3, hcz119_4, hfz119_0, hfz119_1, hfz119_2, hfz119_3, hfz119_4⟩ := blk_c5 BK221.out
        go_wp2
        refine bodyPost_ret (results_ct rfl _ _ gb221 25 #[.int .i64 0, .int .i64 0, .int .i64 0, .string (⟨#[]⟩ : ByteArray), .slice none 0 0] (0, 0) _ rfl (pl_blk (blk_put (blk_put (blk_put (blk_put (blk_put BK221.out 0 (.int .i64 0) rfl) 1 (.int .i64 0) rfl) 2 (.int .i64 0) rfl) 3 (.string (⟨#[]⟩ : ByteArray)) rfl) 4 (.slice none 0 0) rfl)) Try.underlying25 rfl (by kernel_rfl)) rfl ?_
        exact ⟨_, by first | rfl | (simp [errW_none, errW_some] <;> rfl) | (simp [*, errW_none, errW_some] <;> rfl), by first | exact Kd.R_nil _ _ _ _ _ | exact Kd.N_nil _ _ _ _ _ | exact Kd.V_nil _ _ _ _ _ | exact Kd.Q_nil _ _ _ _ _ | exact Kd.S_nil _ _ _ _ _, by repeat (first | (with_reducible first | exact HB.out | apply below_alloc | apply pw_below_drewN | apply below_drew1 | refine below_set ?_ GE221.out) | exact HB.out)⟩
       ·rw [if_neg c113] at H
        have c113b0 : decide (0 < (x223000_1.length : Int)) = false := decide_eq_false c113
        have c113b1 : decide (0 < x223000_1.length) = false := decide_eq_false (by omega)
        clear c113
        replace H := Option.bind_eq_some_iff.mp H
        obtain ⟨t276, A120, H⟩ := H
        (try dsimp only at H)
        replace A120 := Aside0.mk A120
        by_cases c121 : t276 = true
        ·subst c121
         rw [if_pos rfl] at H
         simp only [Option.some.injEq, Prod.mk.injEq] at H
         obtain ⟨rfl, rfl, rfl, rfl, rfl, rfl⟩ := H
         have hnb122 := NB222_221.out
         have hnc122 := NB221_222.out
         have hnb123 := NB222_238.out
         have hnc123 := NB238_222.out
         obtain ⟨hcz124_0, hcz124_1, hfz124_0, hfz124_1⟩ := blk_c2 BK222.out
         obtain ⟨Ao125, co125, eo125⟩ := Kd.V_slice HO_223000.out
         subst eo125
         have hnb126 := NB238_221.out
         have hnc126 := NB221_238.out
         obtain ⟨hcz127_0, hcz127_1, hcz127_2, hcz127_3, hcz127_4, hfz127_0, hfz127_1, hfz127_2, hfz127_3, hfz127_4⟩ := blk_c5 BK238.out
         obtain ⟨Ao128, co128, eo128⟩ := Kd.R_slice HO_239004.out
         subst eo128
         go_wp2_with (first | (go_at_call 35; (with_reducible refine (event_right.calls k1 t223 t228 t233 (strOfNums y244) _ _ x239004_1 true _ ?side1 ?side2 A120.out).mono ?_); (case side1 => repeat (first | exact (Kd.R_reads' HO_239004.out).2.2 | (with_reducible refine Kd.C_alloc ?_ _) | (with_reducible refine Kd.C_drewN ?_ _) | (with_reducible refine Kd.C_drew ?_))); (case side2 => exact (Kd.R_reads' HO_239004.out).2.1); rintro e w129 ⟨rfl, hb⟩; replace HO_223000 := Aside0.mk (Kd.V_below (Kd.pl_V HO_223000.out) hb); replace HO_239004 := Aside0.mk (Kd.R_below (Kd.pl_R HO_239004.out) hb); replace BK221 := bb BK221 hb; replace BK222 := bb BK222 hb; replace BK238 := bb BK238 hb; replace HB := hB HB hb; (try clear hb); (try clear hb2); (try clear hk); (try clear hi); obtain ⟨hcz130_0, hcz130_1, hcz130_2, hcz130_3, hcz130_4, hfz130_0, hfz130_1, hfz130_2, hfz130_3, hfz130_4⟩ := blk_c5 BK238.out; obtain ⟨hcz131_0, hcz131_1, hcz131_2, hcz131_3, hcz131_4, hfz131_0, hfz131_1, hfz131_2, hfz131_3, hfz131_4⟩ := blk_c5 BK221.out))
         refine bodyPost_ret (results_ct rfl _ _ gb221 25 #[.int .i64 t223, .int .i64 t228, .int .i64 t233, .string (strOfNums y244), .slice Ao128 x239004_1.length co128] (0, 0) _ rfl (pl_blk (blk_put (blk_put (blk_put (blk_put (blk_put BK221.out 0 (.int .i64 t223) rfl) 1 (.int .i64 t228) rfl) 2 (.int .i64 t233) rfl) 3 (.string (strOfNums y244)) rfl) 4 (.slice Ao128 x239004_1.length co128) rfl)) Try.underlying25 rfl (by kernel_rfl)) rfl ?_
         exact ⟨_, by first | rfl | (simp [errW_none, errW_some] <;> rfl) | (simp [*, errW_none, errW_some] <;> rfl), by (with_reducible repeat (first | apply Kd.R_alloc | apply Kd.R_drewN | apply Kd.R_drew)); exact Kd.R_mono (Kd.R_far (p := ⟨gb221, 4, none⟩) (Kd.R_far (p := ⟨gb221, 3, none⟩) (Kd.R_far (p := ⟨gb221, 2, none⟩) (Kd.R_far (p := ⟨gb221, 1, none⟩) (Kd.R_far (p := ⟨gb221, 0, none⟩) (Kd.R_types HO_239004.out BK221.out (by decide)) (fun _ hk => hk.2) (.int .i64 t223)) (fun _ hk => hk.2) (.int .i64 t228)) (fun _ hk => hk.2) (.int .i64 t233)) (fun _ hk => hk.2) (.string (strOfNums y244))) (fun _ hk => hk.2) (.slice Ao128 x239004_1.length co128)) (fun _ hk => hk.1), by repeat (first | (with_reducible first | exact HB.out | apply below_alloc | apply pw_below_drewN | apply below_drew1 | refine below_set ?_ GE221.out) | exact HB.out)⟩
        ·replace c121 := Bool.eq_false_iff.mpr c121
         subst c121
         rw [if_neg (show ¬ (false = true) by decide)] at H
         simp only [Option.some.injEq, Prod.mk.injEq] at H
         obtain ⟨rfl, rfl, rfl, rfl, rfl, rfl⟩ := H
         have hnb132 := NB222_221.out
         have hnc132 := NB221_222.out
         have hnb133 := NB222_238.out
         have hnc133 := NB238_222.out
         obtain ⟨hcz134_0, hcz134_1, hfz134_0, hfz134_1⟩ := blk_c2 BK222.out
         obtain ⟨Ao135, co135, eo135⟩ := Kd.V_slice HO_223000.out
         subst eo135
         have hnb136 := NB238_221.out
         have hnc136 := NB221_238.out
         obtain ⟨hcz137_0, hcz137_1, hcz137_2, hcz137_3, hcz137_4, hfz137_0, hfz137_1, hfz137_2, hfz137_3, hfz137_4⟩ := blk_c5 BK238.out
         obtain ⟨Ao138, co138, eo138⟩ := Kd.R_slice HO_239004.out
         subst eo138
         go_wp2_with (first | (go_at_call 35; (with_reducible refine (event_right.calls k1 t223 t228 t233 (strOfNums y244) _ _ x239004_1 false _ ?side1 ?side2 A120.out).mono ?_); (case side1 => repeat (first | exact (Kd.R_reads' HO_239004.out).2.2 | (with_reducible refine Kd.C_alloc ?_ _) | (with_reducible refine Kd.C_drewN ?_ _) | (with_reducible refine Kd.C_drew ?_))); (case side2 => exact (Kd.R_reads' HO_239004.out).2.1); rintro e w139 ⟨rfl, hb⟩; replace HO_223000 := Aside0.mk (Kd.V_below (Kd.pl_V HO_223000.out) hb); replace HO_239004 := Aside0.mk (Kd.R_below (Kd.pl_R HO_239004.out) hb); replace BK221 := bb BK221 hb; replace BK222 := bb BK222 hb; replace BK238 := bb BK238 hb; replace HB := hB HB hb; (try clear hb); (try clear hb2); (try clear hk); (try clear hi); obtain ⟨hcz140_0, hcz140_1, hcz140_2, hcz140_3, hcz140_4, hfz140_0, hfz140_1, hfz140_2, hfz140_3, hfz140_4⟩ := blk_c5 BK221.out))
         refine bodyPost_ret (results_ct rfl _ _ gb221 25 #[.int .i64 0, .int .i64 0, .int .i64 0, .string (⟨#[]⟩ : ByteArray), .slice none 0 0] (0, 0) _ rfl (pl_blk (blk_put (blk_put (blk_put (blk_put (blk_put BK221.out 0 (.int .i64 0) rfl) 1 (.int .i64 0) rfl) 2 (.int .i64 0) rfl) 3 (.string (⟨#[]⟩ : ByteArray)) rfl) 4 (.slice none 0 0) rfl)) Try.underlying25 rfl (by kernel_rfl)) rfl ?_
         exact ⟨_, by first | rfl | (simp [errW_none, errW_some] <;> rfl) | (simp [*, errW_none, errW_some] <;> rfl), by first | exact Kd.R_nil _ _ _ _ _ | exact Kd.N_nil _ _ _ _ _ | exact Kd.V_nil _ _ _ _ _ | exact Kd.Q_nil _ _ _ _ _ | exact Kd.S_nil _ _ _ _ _, by repeat (first | (with_reducible first | exact HB.out | apply below_alloc | apply pw_below_drewN | apply below_drew1 | refine below_set ?_ GE221.out) | exact HB.out)⟩

end Go.Proofs.Ytbnjhmcbkocdjaa.PAll
