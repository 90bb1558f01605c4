/- Written by this session's own program (wip/xprint): functions of the Go program as Lean functions, and proofs that the Go code computes them. -/
import Derived.Test.YtbnjhmcbkocdjaaPAllx0
namespace Go.Proofs.Ytbnjhmcbkocdjaa.PAll
open Go.RowKit Go.Proofs.YtbnjhmcbkocdjaaW.PrintWords Go.Proofs.YtbnjhmcbkocdjaaW.PrintLast Go.Proofs.YtbnjhmcbkocdjaaW.PrintMore
attribute [local go_sem] max2_int min2_int max_two min_two max_three min_three max_four min_four   -- for this text's walks alone
set_option linter.unusedVariables false
set_option linter.unusedSimpArgs false

/-! ### augurylaw05_GreatEvent: function 11 -/
def augurylaw05_GreatEvent.l0 : Nat → Int → Int → Int → Int → Int → ByteArray → List (S52) → Option (Bool)
  | 0, _, _, _, _, _, _, _ => none
  | k + 1, x3, x4, x330000, x330001, x330002, x330003, x330004 => if x4 < (x330004.length : Int) then (if x3 < 9000 then (if 0 ≤ x4 then (augurylaw05_GreatEvent.l0 k (wrap64 (x3 + (mn (((rd_T52 x330004 x4).f2).size : Int) 9000))) (wrap64 (x4 + 1)) x330000 x330001 x330002 x330003 x330004) else (none)) else (some (decide (x3 ≥ 9000)))) else (some (decide (x3 ≥ 9000)))
def augurylaw05_GreatEvent.f (k : Nat) (a0_0 : Int) (a0_1 : Int) (a0_2 : Int) (a0_3 : ByteArray) (l0_4 : List (S52)) : Option (Bool) := augurylaw05_GreatEvent.l0 k (wrap64 ((a0_3.size : Int) + (l0_4.length : Int))) 0 a0_0 a0_1 a0_2 a0_3 l0_4
theorem augurylaw05_GreatEvent.mono_l : ∀ k, (∀ y0 y1 y2 y3 y4 y5 y6, LeO (augurylaw05_GreatEvent.l0 k y0 y1 y2 y3 y4 y5 y6) (augurylaw05_GreatEvent.l0 (k + 1) y0 y1 y2 y3 y4 y5 y6))
  | 0 => fun _ _ _ _ _ _ _ r h => by simp [augurylaw05_GreatEvent.l0] at h
  | k + 1 => by
    have ih0 := augurylaw05_GreatEvent.mono_l k
    · intro y0 y1 y2 y3 y4 y5 y6
      unfold augurylaw05_GreatEvent.l0
      repeat' first
      | (with_reducible exact ih0 _ _ _ _ _ _ _)
      | (with_reducible exact LeO.refl _)
      | (with_reducible exact LeO.none _)
      | (with_reducible refine LeO.ite ?_ ?_)
      | (with_reducible refine LeO.bind ?_ (fun _ => ?_))
      | exact LeO.none _
      | refine LeO.ite ?_ ?_
      | refine LeO.bind ?_ (fun _ => ?_)
theorem augurylaw05_GreatEvent.mono : ∀ a0 a1 a2 a3 a4 k, LeO (augurylaw05_GreatEvent.f k a0 a1 a2 a3 a4) (augurylaw05_GreatEvent.f (k + 1) a0 a1 a2 a3 a4) := by
  intro a0 a1 a2 a3 a4 k
  have ih0 := augurylaw05_GreatEvent.mono_l k
  unfold augurylaw05_GreatEvent.f
  repeat' first
      | (with_reducible exact ih0 _ _ _ _ _ _ _)
      | (with_reducible exact LeO.refl _)
      | (with_reducible exact LeO.none _)
      | (with_reducible refine LeO.ite ?_ ?_)
      | (with_reducible refine LeO.bind ?_ (fun _ => ?_))
      | exact LeO.none _
      | refine LeO.ite ?_ ?_
      | refine LeO.bind ?_ (fun _ => ?_)
set_option maxHeartbeats 8000000 in
set_option maxRecDepth 100000 in
theorem augurylaw05_GreatEvent.calls (k : Nat) (a0_0 : Int) (a0_1 : Int) (a0_2 : Int) (a0_3 : ByteArray) (A0_4 : Option Addr) (c0_4 : Nat) (l0_4 : List (S52)) (r : Bool) (w : World) (hr0_4 : Kd.C k52 w A0_4 l0_4.length l0_4) (hc0_4 : l0_4.length ≤ c0_4) (h : augurylaw05_GreatEvent.f k a0_0 a0_1 a0_2 a0_3 l0_4 = some r) :
    Calls Try.prog 11 #[.agg #[.int .i64 a0_0, .int .i64 a0_1, .int .i64 a0_2, .string a0_3, .slice A0_4 l0_4.length c0_4]] w fun e w' => e = .returned (.bool r) ∧ Below w.heap.size w w' := by
  have hu25 := Try.underlying25
  have HR0_4 := Aside0.mk hr0_4
  have HC0_4 := Aside0.mk hc0_4
  clear hr0_4 hc0_4
  have HB := Aside0.mk (Below.refl w.heap.size w)
  have H : (augurylaw05_GreatEvent.l0 k (wrap64 ((a0_3.size : Int) + (l0_4.length : Int))) 0 a0_0 a0_1 a0_2 a0_3 l0_4) = some r := h
  clear h
  have H' := Aside0.mk H
  clear H
  go_enter Try.func11, Try.ntmps11
  go_wp2_with (first | ((with_reducible refine gate_dst (N := 1) rfl ?_); refine box_event ?hg (N := 1) ?hd (cs := #[.int .i64 a0_0, .int .i64 a0_1, .int .i64 a0_2, .string a0_3, .slice A0_4 l0_4.length c0_4]) (t := 25) ?hr ?_; (case hd => rfl); (case hg => rfl); (case hr => first | (go_simp; done) | (go_simp; rfl)); intro gb329 hg w2 hbox hb; have BK329 := Aside0.mk (hbox); have GW329 := hG HB hg; have GE329 := hG HB hg; replace HB := hB HB hb; clear hb hbox hg; obtain ⟨hcz3_0, hcz3_1, hcz3_2, hcz3_3, hcz3_4, hfz3_0, hfz3_1, hfz3_2, hfz3_3, hfz3_4⟩ := blk_c5 BK329.out))
  go_loopg [3, 4] k (fun kq v3 v4 w' => ∃ (x3_1 : Int) (x4_1 : Int), v3 = .int .i64 x3_1 ∧ v4 = .int .i64 x4_1 ∧ Aside0 (augurylaw05_GreatEvent.l0 kq x3_1 x4_1 a0_0 a0_1 a0_2 a0_3 l0_4 = some r) ∧ Aside0 (kq ≤ k) ∧ Aside0 (w'.heap[gb329]? = some (.cells #[.int .i64 a0_0, .int .i64 a0_1, .int .i64 a0_2, .string a0_3, (.slice A0_4 l0_4.length c0_4)] 25 (0, 0))) ∧ Aside0 (Below w.heap.size w w'))
  case atStart => exact ⟨(wrap64 ((a0_3.size : Int) + (l0_4.length : Int))), (0), (by first | rfl | (simp; done) | (simp [*]; done) | grind), (by first | rfl | (simp; done) | (simp [*]; done) | grind), H', ⟨Nat.le_refl _⟩, ⟨pl_blk BK329.out⟩, ⟨pl_below HB.out⟩⟩
  case round =>
   clear H'
   (try clear c1); (try clear p2); (try clear hcz3_0 hcz3_1 hcz3_2 hcz3_3 hcz3_4 hfz3_0 hfz3_1 hfz3_2 hfz3_3 hfz3_4)
   obtain ⟨x3_1, x4_1, rfl, rfl, HA, HK1, BK329, HB⟩ := hrel
   cases gk with
   | zero => exact absurd HA.out (by simp [augurylaw05_GreatEvent.l0])
   | succ k1 =>
    have H := HA.out
    clear HA
    simp only [augurylaw05_GreatEvent.l0] at H
    by_cases c4 : x4_1 < (l0_4.length : Int)
    ·rw [if_pos c4] at H
     have c4b0 : decide (x4_1 < (l0_4.length : Int)) = true := decide_eq_true c4
     clear c4
     by_cases c5 : x3_1 < 9000
     ·rw [if_pos c5] at H
      have c5b0 : decide (x3_1 < 9000) = true := decide_eq_true c5
      clear c5
      by_cases c6 : 0 ≤ x4_1; rotate_left
      ·rw [if_neg c6] at H; cases H
      rw [if_pos c6] at H
      have c6b0 : decide (0 ≤ x4_1) = true := decide_eq_true c6
      clear c6
      obtain ⟨ji7, hji7⟩ : ∃ j_ : Int, (mn (((rd_T52 l0_4 x4_1).f2).size : Int) 9000) = j_ := ⟨_, rfl⟩
      first | rw [hji7] at H | simp only [hji7] at H
      have hji7_ : (if 9000 < (((rd_T52 l0_4 x4_1).f2).size : Int) then 9000 else (((rd_T52 l0_4 x4_1).f2).size : Int)) = ji7 := hji7
      have H' := Aside0.mk H
      clear H
      obtain ⟨hcz8_0, hcz8_1, hcz8_2, hcz8_3, hcz8_4, hfz8_0, hfz8_1, hfz8_2, hfz8_3, hfz8_4⟩ := blk_c5 BK329.out
      have p330 : 0 ≤ (x4_1 : Int) := of_decide_eq_true (by first | (with_reducible assumption) | assumption)
      have q330 : x4_1 < (l0_4.length : Int) := of_decide_eq_true (by first | (with_reducible assumption) | assumption)
      obtain ⟨ad330, e330, hx330_0, hx330_1, hx330_2⟩ := at_T52 HR0_4.out x4_1 p330 q330
      cases e330
      replace hx330_0 := (HB.out.cell (World.block_lt_of_cell? w _ hx330_0)).trans hx330_0
      replace hx330_1 := (HB.out.cell (World.block_lt_of_cell? w _ hx330_1)).trans hx330_1
      replace hx330_2 := (HB.out.cell (World.block_lt_of_cell? w _ hx330_2)).trans hx330_2
      replace p330 := eq_true p330
      replace q330 := eq_true q330
      go_wp2
      go_roundg k1
      case measure => have := HK1.out; omega
      case rel => exact ⟨(wrap64 (x3_1 + (ji7))), (wrap64 (x4_1 + 1)), (by first | rfl | (simp; done) | (simp only [← hji7] <;> (first | rfl | simp)) | (simp [*]; done)), (by first | rfl | (simp; done) | (simp [*]; done) | grind), H', ⟨by have := HK1.out; omega⟩, ⟨pl_blk BK329.out⟩, ⟨pl_below HB.out⟩⟩
     ·rw [if_neg c5] at H
      have c5b0 : decide (x3_1 < 9000) = false := decide_eq_false c5
      clear c5
      obtain rfl := Option.some.inj H
      obtain ⟨hcz9_0, hcz9_1, hcz9_2, hcz9_3, hcz9_4, hfz9_0, hfz9_1, hfz9_2, hfz9_3, hfz9_4⟩ := blk_c5 BK329.out
      go_wp2
      go_ret
      exact ⟨by first | rfl | (simp [errW_none, errW_some] <;> rfl) | (simp [*, errW_none, errW_some] <;> rfl), pl_below HB.out⟩
    ·rw [if_neg c4] at H
     have c4b0 : decide (x4_1 < (l0_4.length : Int)) = false := decide_eq_false c4
     clear c4
     obtain rfl := Option.some.inj H
     obtain ⟨hcz10_0, hcz10_1, hcz10_2, hcz10_3, hcz10_4, hfz10_0, hfz10_1, hfz10_2, hfz10_3, hfz10_4⟩ := blk_c5 BK329.out
     go_wp2
     go_ret
     exact ⟨by first | rfl | (simp [errW_none, errW_some] <;> rfl) | (simp [*, errW_none, errW_some] <;> rfl), pl_below HB.out⟩

end Go.Proofs.Ytbnjhmcbkocdjaa.PAll
