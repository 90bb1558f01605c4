/- Written by this session's own program (wip/xprint): functions of the Go program as Lean functions, and proofs that the Go code computes them. -/
import Derived.Test.YtbnjhmcbkocdjaaPAllx0
namespace Go.Proofs.Ytbnjhmcbkocdjaa.PAll
open Go.RowKit Go.Proofs.YtbnjhmcbkocdjaaW.PrintWords Go.Proofs.YtbnjhmcbkocdjaaW.PrintLast Go.Proofs.YtbnjhmcbkocdjaaW.PrintMore
attribute [local go_sem] max2_int min2_int max_two min_two max_three min_three max_four min_four   -- for this text's walks alone
set_option linter.unusedVariables false
set_option linter.unusedSimpArgs false

/-! ### auguryref05_Field: function 15 -/
def auguryref05_Field.l0 : Nat → ByteArray → Int → ByteArray → List (S55) → Option (Int × Int)
  | 0, _, _, _, _ => none
  | k + 1, x1, x6, x335000, x335001 => if x6 < (x335001.length : Int) then (if 0 ≤ x6 then (if ((rd_T55 x335001 x6).f0).toList = x1.toList then (some (x6, (rd_T55 x335001 x6).f1)) else (auguryref05_Field.l0 k x1 (wrap64 (x6 + 1)) x335000 x335001)) else (none)) else (some ((-1), 0))
def auguryref05_Field.f (k : Nat) (a0_0 : ByteArray) (l0_1 : List (S55)) (a1 : ByteArray) : Option (Int × Int) := auguryref05_Field.l0 k a1 0 a0_0 l0_1
theorem auguryref05_Field.mono_l : ∀ k, (∀ y0 y1 y2 y3, LeO (auguryref05_Field.l0 k y0 y1 y2 y3) (auguryref05_Field.l0 (k + 1) y0 y1 y2 y3))
  | 0 => fun _ _ _ _ r h => by simp [auguryref05_Field.l0] at h
  | k + 1 => by
    have ih0 := auguryref05_Field.mono_l k
    · intro y0 y1 y2 y3
      unfold auguryref05_Field.l0
      repeat' first
      | (with_reducible exact ih0 _ _ _ _)
      | (with_reducible exact LeO.refl _)
      | (with_reducible exact LeO.none _)
      | (with_reducible refine LeO.ite ?_ ?_)
      | (with_reducible refine LeO.bind ?_ (fun _ => ?_))
      | exact LeO.none _
      | refine LeO.ite ?_ ?_
      | refine LeO.bind ?_ (fun _ => ?_)
theorem auguryref05_Field.mono : ∀ a0 a1 a2 k, LeO (auguryref05_Field.f k a0 a1 a2) (auguryref05_Field.f (k + 1) a0 a1 a2) := by
  intro a0 a1 a2 k
  have ih0 := auguryref05_Field.mono_l k
  unfold auguryref05_Field.f
  repeat' first
      | (with_reducible exact ih0 _ _ _ _)
      | (with_reducible exact LeO.refl _)
      | (with_reducible exact LeO.none _)
      | (with_reducible refine LeO.ite ?_ ?_)
      | (with_reducible refine LeO.bind ?_ (fun _ => ?_))
      | exact LeO.none _
      | refine LeO.ite ?_ ?_
      | refine LeO.bind ?_ (fun _ => ?_)
set_option maxHeartbeats 8000000 in
set_option maxRecDepth 100000 in
theorem auguryref05_Field.calls (k : Nat) (a0_0 : ByteArray) (A0_1 : Option Addr) (c0_1 : Nat) (l0_1 : List (S55)) (a1 : ByteArray) (r1 : Int) (r2 : Int) (w : World) (hr0_1 : Kd.C k55 w A0_1 l0_1.length l0_1) (hc0_1 : l0_1.length ≤ c0_1) (h : auguryref05_Field.f k a0_0 l0_1 a1 = some (r1, r2)) :
    Calls Try.prog 15 #[.agg #[.string a0_0, .slice A0_1 l0_1.length c0_1], .string a1] w fun e w' => e = .returned (.tuple #[.int .i64 r1, .int .i64 r2]) ∧ Below w.heap.size w w' := by
  have hu31 := Try.underlying31
  have HR0_1 := Aside0.mk hr0_1
  have HC0_1 := Aside0.mk hc0_1
  clear hr0_1 hc0_1
  have HB := Aside0.mk (Below.refl w.heap.size w)
  have H : (auguryref05_Field.l0 k a1 0 a0_0 l0_1) = some (r1, r2) := h
  clear h
  have H' := Aside0.mk H
  clear H
  go_enter Try.func15, Try.ntmps15
  go_wp2_with (first | ((with_reducible refine gate_dst (N := 2) rfl ?_); refine box_event ?hg (N := 2) ?hd (cs := #[.string a0_0, .slice A0_1 l0_1.length c0_1]) (t := 31) ?hr ?_; (case hd => rfl); (case hg => rfl); (case hr => first | (go_simp; done) | (go_simp; rfl)); intro gb334 hg w3 hbox hb; have BK334 := Aside0.mk (hbox); have GW334 := hG HB hg; have GE334 := hG HB hg; replace HB := hB HB hb; clear hb hbox hg))
  repeat (go_quiet (first | ((with_reducible refine gate_dst (N := 2) rfl ?_); refine box_event ?hg (N := 2) ?hd (cs := #[.string a0_0, .slice A0_1 l0_1.length c0_1]) (t := 31) ?hr ?_; (case hd => rfl); (case hg => rfl); (case hr => first | (go_simp; done) | (go_simp; rfl)); intro gb334 hg w3 hbox hb; have BK334 := Aside0.mk (hbox); have GW334 := hG HB hg; have GE334 := hG HB hg; replace HB := hB HB hb; clear hb hbox hg)); try go_wp2_with (first | ((with_reducible refine gate_dst (N := 2) rfl ?_); refine box_event ?hg (N := 2) ?hd (cs := #[.string a0_0, .slice A0_1 l0_1.length c0_1]) (t := 31) ?hr ?_; (case hd => rfl); (case hg => rfl); (case hr => first | (go_simp; done) | (go_simp; rfl)); intro gb334 hg w3 hbox hb; have BK334 := Aside0.mk (hbox); have GW334 := hG HB hg; have GE334 := hG HB hg; replace HB := hB HB hb; clear hb hbox hg)))
  go_loopg [6] k (fun kq v6 w' => ∃ (x6_1 : Int), v6 = .int .i64 x6_1 ∧ Aside0 (auguryref05_Field.l0 kq a1 x6_1 a0_0 l0_1 = some (r1, r2)) ∧ Aside0 (kq ≤ k) ∧ Aside0 (w'.heap[gb334]? = some (.cells #[.string a0_0, (.slice A0_1 l0_1.length c0_1)] 31 (0, 0))) ∧ Aside0 (Below w.heap.size w w'))
  case atStart => exact ⟨(0), (by first | rfl | (simp; done) | (simp [*]; done) | grind), H', ⟨Nat.le_refl _⟩, ⟨pl_blk BK334.out⟩, ⟨pl_below HB.out⟩⟩
  case round =>
   clear H'
   (try clear c1); (try clear p2)
   obtain ⟨x6_1, rfl, HA, HK1, BK334, HB⟩ := hrel
   cases gk with
   | zero => exact absurd HA.out (by simp [auguryref05_Field.l0])
   | succ k1 =>
    have H := HA.out
    clear HA
    simp only [auguryref05_Field.l0] at H
    by_cases c4 : x6_1 < (l0_1.length : Int)
    ·rw [if_pos c4] at H
     have c4b0 : decide (x6_1 < (l0_1.length : Int)) = true := decide_eq_true c4
     clear c4
     by_cases c5 : 0 ≤ x6_1; rotate_left
     ·rw [if_neg c5] at H; cases H
     rw [if_pos c5] at H
     have c5b0 : decide (0 ≤ x6_1) = true := decide_eq_true c5
     clear c5
     by_cases c6 : ((rd_T55 l0_1 x6_1).f0).toList = a1.toList
     ·rw [if_pos c6] at H
      have c6b0 : (((rd_T55 l0_1 x6_1).f0).toList == a1.toList) = true := beq_iff_eq.mpr c6
      have c6b1 : (((rd_T55 l0_1 x6_1).f0).toList != a1.toList) = false := bne_eq_false_iff_eq.mpr c6
      clear c6
      simp only [Option.some.injEq, Prod.mk.injEq] at H
      obtain ⟨rfl, rfl⟩ := H
      obtain ⟨hcz7_0, hcz7_1, hfz7_0, hfz7_1⟩ := blk_c2 BK334.out
      have p335 : 0 ≤ (x6_1 : Int) := of_decide_eq_true (by first | (with_reducible assumption) | assumption)
      have q335 : x6_1 < (l0_1.length : Int) := of_decide_eq_true (by first | (with_reducible assumption) | assumption)
      obtain ⟨ad335, e335, hx335_0, hx335_1⟩ := at_T55 HR0_1.out x6_1 p335 q335
      cases e335
      replace hx335_0 := (HB.out.cell (World.block_lt_of_cell? w _ hx335_0)).trans hx335_0
      replace hx335_1 := (HB.out.cell (World.block_lt_of_cell? w _ hx335_1)).trans hx335_1
      replace p335 := eq_true p335
      replace q335 := eq_true q335
      have p336 : 0 ≤ (x6_1 : Int) := of_decide_eq_true (by first | (with_reducible assumption) | assumption)
      have q336 : x6_1 < (l0_1.length : Int) := of_decide_eq_true (by first | (with_reducible assumption) | assumption)
      obtain ⟨ad336, e336, hx336_0, hx336_1⟩ := at_T55 HR0_1.out x6_1 p336 q336
      obtain rfl : ad335 = ad336 := (by injection e336)
      replace hx336_0 := (HB.out.cell (World.block_lt_of_cell? w _ hx336_0)).trans hx336_0
      replace hx336_1 := (HB.out.cell (World.block_lt_of_cell? w _ hx336_1)).trans hx336_1
      replace p336 := eq_true p336
      replace q336 := eq_true q336
      go_wp2
      repeat (go_quiet (fail); try go_wp2)
      go_ret2
      exact ⟨by first | rfl | (simp [errW_none, errW_some] <;> rfl) | (simp [*, errW_none, errW_some] <;> rfl), pl_below HB.out⟩
     ·rw [if_neg c6] at H
      have c6b0 : (((rd_T55 l0_1 x6_1).f0).toList == a1.toList) = false := beq_eq_false_iff_ne.mpr c6
      have c6b1 : (((rd_T55 l0_1 x6_1).f0).toList != a1.toList) = true := bne_iff_ne.mpr c6
      have H' := Aside0.mk H
      clear H
      obtain ⟨hcz8_0, hcz8_1, hfz8_0, hfz8_1⟩ := blk_c2 BK334.out
      have p335 : 0 ≤ (x6_1 : Int) := of_decide_eq_true (by first | (with_reducible assumption) | assumption)
      have q335 : x6_1 < (l0_1.length : Int) := of_decide_eq_true (by first | (with_reducible assumption) | assumption)
      obtain ⟨ad335, e335, hx335_0, hx335_1⟩ := at_T55 HR0_1.out x6_1 p335 q335
      cases e335
      replace hx335_0 := (HB.out.cell (World.block_lt_of_cell? w _ hx335_0)).trans hx335_0
      replace hx335_1 := (HB.out.cell (World.block_lt_of_cell? w _ hx335_1)).trans hx335_1
      replace p335 := eq_true p335
      replace q335 := eq_true q335
      go_wp2
      repeat (go_quiet (fail); try go_wp2)
      go_roundg k1
      case measure => have := HK1.out; omega
      case rel => exact ⟨(wrap64 (x6_1 + 1)), (by first | rfl | (simp; done) | (simp [*]; done) | grind), H', ⟨by have := HK1.out; omega⟩, ⟨pl_blk BK334.out⟩, ⟨pl_below HB.out⟩⟩
    ·rw [if_neg c4] at H
     have c4b0 : decide (x6_1 < (l0_1.length : Int)) = false := decide_eq_false c4
     clear c4
     simp only [Option.some.injEq, Prod.mk.injEq] at H
     obtain ⟨rfl, rfl⟩ := H
     obtain ⟨hcz9_0, hcz9_1, hfz9_0, hfz9_1⟩ := blk_c2 BK334.out
     go_wp2
     repeat (go_quiet (fail); try go_wp2)
     go_ret2
     exact ⟨by first | rfl | (simp [errW_none, errW_some] <;> rfl) | (simp [*, errW_none, errW_some] <;> rfl), pl_below HB.out⟩

end Go.Proofs.Ytbnjhmcbkocdjaa.PAll
