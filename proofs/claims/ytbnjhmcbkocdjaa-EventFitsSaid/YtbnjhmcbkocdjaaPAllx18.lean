/- Written by this session's own program (wip/xprint): functions of the Go program as Lean functions, and proofs that the Go code computes them. -/
import Derived.Test.YtbnjhmcbkocdjaaPAllx0
import Derived.Test.YtbnjhmcbkocdjaaPAllx17
namespace Go.Proofs.Ytbnjhmcbkocdjaa.PAll
open Go.RowKit Go.Proofs.YtbnjhmcbkocdjaaW.PrintWords Go.Proofs.YtbnjhmcbkocdjaaW.PrintLast Go.Proofs.YtbnjhmcbkocdjaaW.PrintMore
attribute [local go_sem] max2_int min2_int max_two min_two max_three min_three max_four min_four   -- for this text's walks alone
set_option linter.unusedVariables false
set_option linter.unusedSimpArgs false

/-! ### api_Field__f37: function 36 -/
def api_Field__f37.l0 : Nat → List (S55) → List (S52) → Int → Int → Option (Bool)
  | 0, _, _, _, _ => none
  | k + 1, x1, x15, x16, x17 => if x17 < x16 then (if 0 ≤ x17 then (if x17 < (x15.length : Int) then (if x17 < (x1.length : Int) then ((event_Fits_1.f ((rd_T52 x15 x17).f0) ((rd_T52 x15 x17).f1) ((rd_T52 x15 x17).f2) ((rd_T55 x1 x17).f0) ((rd_T55 x1 x17).f1)).bind fun t133 => (if t133 = true then (api_Field__f37.l0 k x1 x15 x16 (wrap64 (x17 + 1))) else (some false))) else (none)) else (none)) else (none)) else (some true)
def api_Field__f37.f (k : Nat) (l0 : List (S52)) (l1 : List (S55))  : Option (Bool) := if (l0.length : Int) = (l1.length : Int) then (api_Field__f37.l0 k l1 l0 (l0.length : Int) 0) else (some false)
theorem api_Field__f37.mono_l : ∀ k, (∀ y0 y1 y2 y3, LeO (api_Field__f37.l0 k y0 y1 y2 y3) (api_Field__f37.l0 (k + 1) y0 y1 y2 y3))
  | 0 => fun _ _ _ _ r h => by simp [api_Field__f37.l0] at h
  | k + 1 => by
    have ih0 := api_Field__f37.mono_l k
    · intro y0 y1 y2 y3
      unfold api_Field__f37.l0
      repeat' first
      | (with_reducible exact ih0 _ _ _ _)
      | (with_reducible exact LeO.refl _)
      | (with_reducible exact LeO.none _)
      | (with_reducible refine LeO.ite ?_ ?_)
      | (with_reducible refine LeO.bind ?_ (fun _ => ?_))
      | exact LeO.none _
      | refine LeO.ite ?_ ?_
      | refine LeO.bind ?_ (fun _ => ?_)
theorem api_Field__f37.mono : ∀ a0 a1 k, LeO (api_Field__f37.f k a0 a1) (api_Field__f37.f (k + 1) a0 a1) := by
  intro a0 a1 k
  have ih0 := api_Field__f37.mono_l k
  unfold api_Field__f37.f
  repeat' first
      | (with_reducible exact ih0 _ _ _ _)
      | (with_reducible exact LeO.refl _)
      | (with_reducible exact LeO.none _)
      | (with_reducible refine LeO.ite ?_ ?_)
      | (with_reducible refine LeO.bind ?_ (fun _ => ?_))
      | exact LeO.none _
      | refine LeO.ite ?_ ?_
      | refine LeO.bind ?_ (fun _ => ?_)
set_option maxHeartbeats 8000000 in
set_option maxRecDepth 100000 in
theorem api_Field__f37.calls (k : Nat) (A0 : Option Addr) (c0 : Nat) (l0 : List (S52)) (A1 : Option Addr) (c1 : Nat) (l1 : List (S55))  (r : Bool) (w : World) (hr0 : Kd.C k52 w A0 l0.length l0) (hc0 : l0.length ≤ c0) (hr1 : Kd.C k55 w A1 l1.length l1) (hc1 : l1.length ≤ c1) (h : api_Field__f37.f k l0 l1 = some r) :
    Calls Try.prog 36 #[.slice A0 l0.length c0, .slice A1 l1.length c1, .func (.func 37) #[] #[]] w fun e w' => e = .returned (.bool r) ∧ Below w.heap.size w w' := by
  have hu52 := Try.underlying52
  have hu55 := Try.underlying55
  have HR0 := Aside0.mk hr0
  have HC0 := Aside0.mk hc0
  clear hr0 hc0
  have HR1 := Aside0.mk hr1
  have HC1 := Aside0.mk hc1
  clear hr1 hc1
  have HB := Aside0.mk (Below.refl w.heap.size w)
  have H : (if (l0.length : Int) = (l1.length : Int) then (api_Field__f37.l0 k l1 l0 (l0.length : Int) 0) else (some false)) = some r := h
  clear h
  by_cases c4 : (l0.length : Int) = (l1.length : Int)
  ·rw [if_pos c4] at H
   have c4b0 : ((l0.length : Int) == (l1.length : Int)) = true := beq_iff_eq.mpr c4
   have c4b1 : ((l0.length : Int) != (l1.length : Int)) = false := bne_eq_false_iff_eq.mpr c4
   have c4b2 : (l0.length == l1.length) = true := by first | simpa using c4 | (simp at c4 ⊢; omega)
   clear c4
   have H' := Aside0.mk H
   clear H
   go_enter Try.func36, Try.ntmps36
   go_wp2
   go_loopg [17] k (fun kq v17 w' => ∃ (x17_1 : Int), v17 = .int .i64 x17_1 ∧ Aside0 (api_Field__f37.l0 kq l1 l0 (l0.length : Int) x17_1 = some r) ∧ Aside0 (kq ≤ k) ∧ Aside0 (Below w.heap.size w w'))
   case atStart => exact ⟨(0), (by first | rfl | (simp; done) | (simp [*]; done) | grind), H', ⟨Nat.le_refl _⟩, ⟨pl_below HB.out⟩⟩
   case round =>
    clear H'
    (try clear c1); (try clear p2); (try clear c4); (try clear c4b0); (try clear c4b1); (try clear c4b2)
    obtain ⟨x17_1, rfl, HA, HK1, HB⟩ := hrel
    cases gk with
    | zero => exact absurd HA.out (by simp [api_Field__f37.l0])
    | succ k1 =>
     have H := HA.out
     clear HA
     simp only [api_Field__f37.l0] at H
     by_cases c5 : x17_1 < (l0.length : Int)
     ·rw [if_pos c5] at H
      have c5b0 : decide (x17_1 < (l0.length : Int)) = true := decide_eq_true c5
      clear c5
      by_cases c6 : 0 ≤ x17_1; rotate_left
      ·rw [if_neg c6] at H; cases H
      rw [if_pos c6] at H
      have c6b0 : decide (0 ≤ x17_1) = true := decide_eq_true c6
      clear c6
      by_cases c7 : x17_1 < (l0.length : Int); rotate_left
      ·rw [if_neg c7] at H; cases H
      rw [if_pos c7] at H
      have c7b0 : decide (x17_1 < (l0.length : Int)) = true := decide_eq_true c7
      clear c7
      by_cases c8 : x17_1 < (l1.length : Int); rotate_left
      ·rw [if_neg c8] at H; cases H
      rw [if_pos c8] at H
      have c8b0 : decide (x17_1 < (l1.length : Int)) = true := decide_eq_true c8
      clear c8
      replace H := Option.bind_eq_some_iff.mp H
      obtain ⟨t133, A9, H⟩ := H
      (try dsimp only at H)
      replace A9 := Aside0.mk A9
      by_cases c10 : t133 = true
      ·subst c10
       rw [if_pos rfl] at H
       have H' := Aside0.mk H
       clear H
       have p129 : 0 ≤ (x17_1 : Int) := of_decide_eq_true (by first | (with_reducible assumption) | assumption)
       have q129 : x17_1 < (l0.length : Int) := of_decide_eq_true (by first | (with_reducible assumption) | assumption)
       obtain ⟨ad129, e129, hx129_0, hx129_1, hx129_2⟩ := at_T52 HR0.out x17_1 p129 q129
       cases e129
       replace hx129_0 := (HB.out.cell (World.block_lt_of_cell? w _ hx129_0)).trans hx129_0
       replace hx129_1 := (HB.out.cell (World.block_lt_of_cell? w _ hx129_1)).trans hx129_1
       replace hx129_2 := (HB.out.cell (World.block_lt_of_cell? w _ hx129_2)).trans hx129_2
       replace p129 := eq_true p129
       replace q129 := eq_true q129
       go_wp2_with (first | ((with_reducible refine gate_dst (N := 8) rfl ?_); refine box_event ?hg (N := 8) ?hd (cs := #[.int .i64 0, .int .i64 0, .string (⟨#[]⟩ : ByteArray)]) (t := 52) ?hr ?_; (case hd => rfl); (case hg => rfl); (case hr => first | (go_simp; done) | (go_simp; rfl)); intro gb130 hg w11 hbox hb; have BK130 := Aside0.mk (hbox); have GW130 := hG HB hg; have GE130 := hG HB hg; replace HB := hB HB hb; clear hb hbox hg; obtain ⟨hcz12_0, hcz12_1, hcz12_2, hfz12_0, hfz12_1, hfz12_2⟩ := blk_c3 BK130.out; have p131 : 0 ≤ (x17_1 : Int) := of_decide_eq_true (by first | (with_reducible assumption) | assumption); have q131 : x17_1 < (l1.length : Int) := of_decide_eq_true (by first | (with_reducible assumption) | assumption); obtain ⟨ad131, e131, hx131_0, hx131_1⟩ := at_T55 HR1.out x17_1 p131 q131; cases e131; have hn131_0 : ad131.block ≠ gb130 := Nat.ne_of_lt (Nat.lt_of_lt_of_le (by have := World.block_lt_of_cell? _ _ hx131_0; first | rwa [add_block] at this | exact this) GW130.out); have hn131_1 : ad131.block ≠ gb130 := Nat.ne_of_lt (Nat.lt_of_lt_of_le (by have := World.block_lt_of_cell? _ _ hx131_0; first | rwa [add_block] at this | exact this) GW130.out); have hn131_2 : ad131.block ≠ gb130 := Nat.ne_of_lt (Nat.lt_of_lt_of_le (by have := World.block_lt_of_cell? _ _ hx131_0; first | rwa [add_block] at this | exact this) GW130.out); replace hx131_0 := (HB.out.cell (World.block_lt_of_cell? w _ hx131_0)).trans hx131_0; replace hx131_1 := (HB.out.cell (World.block_lt_of_cell? w _ hx131_1)).trans hx131_1; replace hx131_0 := (cell_far (p := ⟨gb130, 0, none⟩) (by first | (rw [add_block]; exact hn131_0) | (show (Addr.add _ _).block ≠ _; rw [add_block]; exact hn131_0) | exact hn131_0) (.int .i64 ((rd_T52 l0 x17_1).f0))).trans hx131_0; replace hx131_1 := (cell_far (p := ⟨gb130, 0, none⟩) (by first | (rw [add_block]; exact hn131_0) | (show (Addr.add _ _).block ≠ _; rw [add_block]; exact hn131_0) | exact hn131_0) (.int .i64 ((rd_T52 l0 x17_1).f0))).trans hx131_1; replace hx131_0 := (cell_far (p := ⟨gb130, 1, none⟩) (by first | (rw [add_block]; exact hn131_1) | (show (Addr.add _ _).block ≠ _; rw [add_block]; exact hn131_1) | exact hn131_1) (.int .i64 ((rd_T52 l0 x17_1).f1))).trans hx131_0; replace hx131_1 := (cell_far (p := ⟨gb130, 1, none⟩) (by first | (rw [add_block]; exact hn131_1) | (show (Addr.add _ _).block ≠ _; rw [add_block]; exact hn131_1) | exact hn131_1) (.int .i64 ((rd_T52 l0 x17_1).f1))).trans hx131_1; replace hx131_0 := (cell_far (p := ⟨gb130, 2, none⟩) (by first | (rw [add_block]; exact hn131_2) | (show (Addr.add _ _).block ≠ _; rw [add_block]; exact hn131_2) | exact hn131_2) (.string ((rd_T52 l0 x17_1).f2))).trans hx131_0; replace hx131_1 := (cell_far (p := ⟨gb130, 2, none⟩) (by first | (rw [add_block]; exact hn131_2) | (show (Addr.add _ _).block ≠ _; rw [add_block]; exact hn131_2) | exact hn131_2) (.string ((rd_T52 l0 x17_1).f2))).trans hx131_1; clear hn131_0; clear hn131_1; clear hn131_2; replace p131 := eq_true p131; replace q131 := eq_true q131) | ((with_reducible refine gate_dst (N := 9) rfl ?_); refine box_event ?hg (N := 9) ?hd (cs := #[.string (⟨#[]⟩ : ByteArray), .int .i64 0]) (t := 55) ?hr ?_; (case hd => rfl); (case hg => rfl); (case hr => first | (go_simp; done) | (go_simp; rfl)); intro gb132 hg w13 hbox hb; have BK132 := Aside0.mk (hbox); have GW132 := Aside0.mk ((by rw [hg]; exact (below_size (by repeat (first | (with_reducible first | exact HB.out | apply below_alloc | apply pw_below_drewN | apply below_drew1 | refine below_set ?_ GE130.out) | exact HB.out))) : w.heap.size ≤ gb132)); have GE132 := Aside0.mk ((by rw [hg]; exact (below_size (by repeat (first | (with_reducible first | exact HB.out | apply below_alloc | apply pw_below_drewN | apply below_drew1 | refine below_set ?_ GE130.out) | exact HB.out))) : w.heap.size ≤ gb132)); replace HB := Aside0.mk (below_step (by repeat (first | (with_reducible first | exact HB.out | apply below_alloc | apply pw_below_drewN | apply below_drew1 | refine below_set ?_ GE130.out) | exact HB.out)) hb); have NB130_132 := Aside0.mk ((by rw [hg]; exact Nat.ne_of_lt (blk_lt (pl_blk (blk_put (blk_put (blk_put BK130.out 0 (.int .i64 ((rd_T52 l0 x17_1).f0)) rfl) 1 (.int .i64 ((rd_T52 l0 x17_1).f1)) rfl) 2 (.string ((rd_T52 l0 x17_1).f2)) rfl))) : gb130 ≠ gb132)); have NB132_130 := Aside0.mk ((by rw [hg]; exact Nat.ne_of_gt (blk_lt (pl_blk (blk_put (blk_put (blk_put BK130.out 0 (.int .i64 ((rd_T52 l0 x17_1).f0)) rfl) 1 (.int .i64 ((rd_T52 l0 x17_1).f1)) rfl) 2 (.string ((rd_T52 l0 x17_1).f2)) rfl))) : gb132 ≠ gb130)); replace BK130 := Aside0.mk (blk_below (pl_blk (blk_put (blk_put (blk_put BK130.out 0 (.int .i64 ((rd_T52 l0 x17_1).f0)) rfl) 1 (.int .i64 ((rd_T52 l0 x17_1).f1)) rfl) 2 (.string ((rd_T52 l0 x17_1).f2)) rfl)) hb); clear hb hbox hg; have hnb14 := NB132_130.out; have hnc14 := NB130_132.out; obtain ⟨hcz15_0, hcz15_1, hfz15_0, hfz15_1⟩ := blk_c2 BK132.out; obtain ⟨hcz16_0, hcz16_1, hcz16_2, hfz16_0, hfz16_1, hfz16_2⟩ := blk_c3 BK130.out) | ((with_reducible refine gate_calleev rfl ?_); refine goesLv_ (some 29) rfl rfl Try.func37 (by kernel_rfl) rfl #[.agg #[.int .i64 ((rd_T52 l0 x17_1).f0), .int .i64 ((rd_T52 l0 x17_1).f1), .string ((rd_T52 l0 x17_1).f2)], .agg #[.string ((rd_T55 l1 x17_1).f0), .int .i64 ((rd_T55 l1 x17_1).f1)]] rfl rfl (by (try simp only [List.map_toArray, List.map_cons, List.map_nil]); first | done | rfl | (simp only [List.length_drop, List.length_take]; rfl)) ?_; (with_reducible refine (event_Fits_1.calls ((rd_T52 l0 x17_1).f0) ((rd_T52 l0 x17_1).f1) ((rd_T52 l0 x17_1).f2) ((rd_T55 l1 x17_1).f0) ((rd_T55 l1 x17_1).f1) true _ A9.out).mono ?_); rintro e w17 ⟨rfl, hb⟩; refine ⟨_, rfl, ?_⟩; replace BK130 := Aside0.mk (blk_below (pl_blk (blk_far (p := ⟨gb132, 1, none⟩) (blk_far (p := ⟨gb132, 0, none⟩) BK130.out NB130_132.out (.string ((rd_T55 l1 x17_1).f0))) NB130_132.out (.int .i64 ((rd_T55 l1 x17_1).f1)))) hb); replace BK132 := Aside0.mk (blk_below (pl_blk (blk_put (blk_put BK132.out 0 (.string ((rd_T55 l1 x17_1).f0)) rfl) 1 (.int .i64 ((rd_T55 l1 x17_1).f1)) rfl)) hb); replace HB := Aside0.mk (below_step (by repeat (first | (with_reducible first | exact HB.out | apply below_alloc | apply pw_below_drewN | apply below_drew1 | refine below_set ?_ GE132.out) | exact HB.out)) hb); (try clear hb); (try clear hb2); (try clear hk); (try clear hi)))
       go_roundg k1
       case measure => have := HK1.out; omega
       case rel => exact ⟨(wrap64 (x17_1 + 1)), (by first | rfl | (simp; done) | (simp [*]; done) | grind), H', ⟨by have := HK1.out; omega⟩, ⟨pl_below HB.out⟩⟩
      ·replace c10 := Bool.eq_false_iff.mpr c10
       subst c10
       rw [if_neg (show ¬ (false = true) by decide)] at H
       obtain rfl := Option.some.inj H
       have p129 : 0 ≤ (x17_1 : Int) := of_decide_eq_true (by first | (with_reducible assumption) | assumption)
       have q129 : x17_1 < (l0.length : Int) := of_decide_eq_true (by first | (with_reducible assumption) | assumption)
       obtain ⟨ad129, e129, hx129_0, hx129_1, hx129_2⟩ := at_T52 HR0.out x17_1 p129 q129
       cases e129
       replace hx129_0 := (HB.out.cell (World.block_lt_of_cell? w _ hx129_0)).trans hx129_0
       replace hx129_1 := (HB.out.cell (World.block_lt_of_cell? w _ hx129_1)).trans hx129_1
       replace hx129_2 := (HB.out.cell (World.block_lt_of_cell? w _ hx129_2)).trans hx129_2
       replace p129 := eq_true p129
       replace q129 := eq_true q129
       go_wp2_with (first | ((with_reducible refine gate_dst (N := 8) rfl ?_); refine box_event ?hg (N := 8) ?hd (cs := #[.int .i64 0, .int .i64 0, .string (⟨#[]⟩ : ByteArray)]) (t := 52) ?hr ?_; (case hd => rfl); (case hg => rfl); (case hr => first | (go_simp; done) | (go_simp; rfl)); intro gb130 hg w18 hbox hb; have BK130 := Aside0.mk (hbox); have GW130 := hG HB hg; have GE130 := hG HB hg; replace HB := hB HB hb; clear hb hbox hg; obtain ⟨hcz19_0, hcz19_1, hcz19_2, hfz19_0, hfz19_1, hfz19_2⟩ := blk_c3 BK130.out; have p131 : 0 ≤ (x17_1 : Int) := of_decide_eq_true (by first | (with_reducible assumption) | assumption); have q131 : x17_1 < (l1.length : Int) := of_decide_eq_true (by first | (with_reducible assumption) | assumption); obtain ⟨ad131, e131, hx131_0, hx131_1⟩ := at_T55 HR1.out x17_1 p131 q131; cases e131; have hn131_0 : ad131.block ≠ gb130 := Nat.ne_of_lt (Nat.lt_of_lt_of_le (by have := World.block_lt_of_cell? _ _ hx131_0; first | rwa [add_block] at this | exact this) GW130.out); have hn131_1 : ad131.block ≠ gb130 := Nat.ne_of_lt (Nat.lt_of_lt_of_le (by have := World.block_lt_of_cell? _ _ hx131_0; first | rwa [add_block] at this | exact this) GW130.out); have hn131_2 : ad131.block ≠ gb130 := Nat.ne_of_lt (Nat.lt_of_lt_of_le (by have := World.block_lt_of_cell? _ _ hx131_0; first | rwa [add_block] at this | exact this) GW130.out); replace hx131_0 := (HB.out.cell (World.block_lt_of_cell? w _ hx131_0)).trans hx131_0; replace hx131_1 := (HB.out.cell (World.block_lt_of_cell? w _ hx131_1)).trans hx131_1; replace hx131_0 := (cell_far (p := ⟨gb130, 0, none⟩) (by first | (rw [add_block]; exact hn131_0) | (show (Addr.add _ _).block ≠ _; rw [add_block]; exact hn131_0) | exact hn131_0) (.int .i64 ((rd_T52 l0 x17_1).f0))).trans hx131_0; replace hx131_1 := (cell_far (p := ⟨gb130, 0, none⟩) (by first | (rw [add_block]; exact hn131_0) | (show (Addr.add _ _).block ≠ _; rw [add_block]; exact hn131_0) | exact hn131_0) (.int .i64 ((rd_T52 l0 x17_1).f0))).trans hx131_1; replace hx131_0 := (cell_far (p := ⟨gb130, 1, none⟩) (by first | (rw [add_block]; exact hn131_1) | (show (Addr.add _ _).block ≠ _; rw [add_block]; exact hn131_1) | exact hn131_1) (.int .i64 ((rd_T52 l0 x17_1).f1))).trans hx131_0; replace hx131_1 := (cell_far (p := ⟨gb130, 1, none⟩) (by first | (rw [add_block]; exact hn131_1) | (show (Addr.add _ _).block ≠ _; rw [add_block]; exact hn131_1) | exact hn131_1) (.int .i64 ((rd_T52 l0 x17_1).f1))).trans hx131_1; replace hx131_0 := (cell_far (p := ⟨gb130, 2, none⟩) (by first | (rw [add_block]; exact hn131_2) | (show (Addr.add _ _).block ≠ _; rw [add_block]; exact hn131_2) | exact hn131_2) (.string ((rd_T52 l0 x17_1).f2))).trans hx131_0; replace hx131_1 := (cell_far (p := ⟨gb130, 2, none⟩) (by first | (rw [add_block]; exact hn131_2) | (show (Addr.add _ _).block ≠ _; rw [add_block]; exact hn131_2) | exact hn131_2) (.string ((rd_T52 l0 x17_1).f2))).trans hx131_1; clear hn131_0; clear hn131_1; clear hn131_2; replace p131 := eq_true p131; replace q131 := eq_true q131) | ((with_reducible refine gate_dst (N := 9) rfl ?_); refine box_event ?hg (N := 9) ?hd (cs := #[.string (⟨#[]⟩ : ByteArray), .int .i64 0]) (t := 55) ?hr ?_; (case hd => rfl); (case hg => rfl); (case hr => first | (go_simp; done) | (go_simp; rfl)); intro gb132 hg w20 hbox hb; have BK132 := Aside0.mk (hbox); have GW132 := Aside0.mk ((by rw [hg]; exact (below_size (by repeat (first | (with_reducible first | exact HB.out | apply below_alloc | apply pw_below_drewN | apply below_drew1 | refine below_set ?_ GE130.out) | exact HB.out))) : w.heap.size ≤ gb132)); have GE132 := Aside0.mk ((by rw [hg]; exact (below_size (by repeat (first | (with_reducible first | exact HB.out | apply below_alloc | apply pw_below_drewN | apply below_drew1 | refine below_set ?_ GE130.out) | exact HB.out))) : w.heap.size ≤ gb132)); replace HB := Aside0.mk (below_step (by repeat (first | (with_reducible first | exact HB.out | apply below_alloc | apply pw_below_drewN | apply below_drew1 | refine below_set ?_ GE130.out) | exact HB.out)) hb); have NB130_132 := Aside0.mk ((by rw [hg]; exact Nat.ne_of_lt (blk_lt (pl_blk (blk_put (blk_put (blk_put BK130.out 0 (.int .i64 ((rd_T52 l0 x17_1).f0)) rfl) 1 (.int .i64 ((rd_T52 l0 x17_1).f1)) rfl) 2 (.string ((rd_T52 l0 x17_1).f2)) rfl))) : gb130 ≠ gb132)); have NB132_130 := Aside0.mk ((by rw [hg]; exact Nat.ne_of_gt (blk_lt (pl_blk (blk_put (blk_put (blk_put BK130.out 0 (.int .i64 ((rd_T52 l0 x17_1).f0)) rfl) 1 (.int .i64 ((rd_T52 l0 x17_1).f1)) rfl) 2 (.string ((rd_T52 l0 x17_1).f2)) rfl))) : gb132 ≠ gb130)); replace BK130 := Aside0.mk (blk_below (pl_blk (blk_put (blk_put (blk_put BK130.out 0 (.int .i64 ((rd_T52 l0 x17_1).f0)) rfl) 1 (.int .i64 ((rd_T52 l0 x17_1).f1)) rfl) 2 (.string ((rd_T52 l0 x17_1).f2)) rfl)) hb); clear hb hbox hg; have hnb21 := NB132_130.out; have hnc21 := NB130_132.out; obtain ⟨hcz22_0, hcz22_1, hfz22_0, hfz22_1⟩ := blk_c2 BK132.out; obtain ⟨hcz23_0, hcz23_1, hcz23_2, hfz23_0, hfz23_1, hfz23_2⟩ := blk_c3 BK130.out) | ((with_reducible refine gate_calleev rfl ?_); refine goesLv_ (some 29) rfl rfl Try.func37 (by kernel_rfl) rfl #[.agg #[.int .i64 ((rd_T52 l0 x17_1).f0), .int .i64 ((rd_T52 l0 x17_1).f1), .string ((rd_T52 l0 x17_1).f2)], .agg #[.string ((rd_T55 l1 x17_1).f0), .int .i64 ((rd_T55 l1 x17_1).f1)]] rfl rfl (by (try simp only [List.map_toArray, List.map_cons, List.map_nil]); first | done | rfl | (simp only [List.length_drop, List.length_take]; rfl)) ?_; (with_reducible refine (event_Fits_1.calls ((rd_T52 l0 x17_1).f0) ((rd_T52 l0 x17_1).f1) ((rd_T52 l0 x17_1).f2) ((rd_T55 l1 x17_1).f0) ((rd_T55 l1 x17_1).f1) false _ A9.out).mono ?_); rintro e w24 ⟨rfl, hb⟩; refine ⟨_, rfl, ?_⟩; replace BK130 := Aside0.mk (blk_below (pl_blk (blk_far (p := ⟨gb132, 1, none⟩) (blk_far (p := ⟨gb132, 0, none⟩) BK130.out NB130_132.out (.string ((rd_T55 l1 x17_1).f0))) NB130_132.out (.int .i64 ((rd_T55 l1 x17_1).f1)))) hb); replace BK132 := Aside0.mk (blk_below (pl_blk (blk_put (blk_put BK132.out 0 (.string ((rd_T55 l1 x17_1).f0)) rfl) 1 (.int .i64 ((rd_T55 l1 x17_1).f1)) rfl)) hb); replace HB := Aside0.mk (below_step (by repeat (first | (with_reducible first | exact HB.out | apply below_alloc | apply pw_below_drewN | apply below_drew1 | refine below_set ?_ GE132.out) | exact HB.out)) hb); (try clear hb); (try clear hb2); (try clear hk); (try clear hi)))
       go_ret
       exact ⟨by first | rfl | (simp [errW_none, errW_some] <;> rfl) | (simp [*, errW_none, errW_some] <;> rfl), pl_below HB.out⟩
     ·rw [if_neg c5] at H
      have c5b0 : decide (x17_1 < (l0.length : Int)) = false := decide_eq_false c5
      clear c5
      obtain rfl := Option.some.inj H
      go_wp2
      go_ret
      exact ⟨by first | rfl | (simp [errW_none, errW_some] <;> rfl) | (simp [*, errW_none, errW_some] <;> rfl), pl_below HB.out⟩
  ·rw [if_neg c4] at H
   have c4b0 : ((l0.length : Int) == (l1.length : Int)) = false := beq_eq_false_iff_ne.mpr c4
   have c4b1 : ((l0.length : Int) != (l1.length : Int)) = true := bne_iff_ne.mpr c4
   have c4b2 : (l0.length == l1.length) = false := by first | simpa using c4 | (simp at c4 ⊢; omega)
   obtain rfl := Option.some.inj H
   go_enter Try.func36, Try.ntmps36
   go_wp2
   go_ret
   exact ⟨by first | rfl | (simp [errW_none, errW_some] <;> rfl) | (simp [*, errW_none, errW_some] <;> rfl), pl_below HB.out⟩

end Go.Proofs.Ytbnjhmcbkocdjaa.PAll
