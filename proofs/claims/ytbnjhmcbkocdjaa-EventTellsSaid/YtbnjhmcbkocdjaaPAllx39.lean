/- Written by this session's own program (wip/xprint): functions of the Go program as Lean functions, and proofs that the Go code computes them. -/
import Derived.Test.YtbnjhmcbkocdjaaPAllx0
import Derived.Test.YtbnjhmcbkocdjaaPAllx2
namespace Go.Proofs.Ytbnjhmcbkocdjaa.PAll
open Go.RowKit Go.Proofs.YtbnjhmcbkocdjaaW.PrintWords Go.Proofs.YtbnjhmcbkocdjaaW.PrintLast Go.Proofs.YtbnjhmcbkocdjaaW.PrintMore
attribute [local go_sem] max2_int min2_int max_two min_two max_three min_three max_four min_four   -- for this text's walks alone
set_option linter.unusedVariables false
set_option linter.unusedSimpArgs false

attribute [local go_sem high] eqA55
/-! ### auguryref05_SameSchema: function 18 -/
mutual
def auguryref05_SameSchema.j0 : Nat → Bool → ByteArray → List (S55) → ByteArray → List (S55) → Option (Bool)
  | 0, _, _, _, _, _ => none
  | k + 1, x19, x344000, x344001, x345000, x345001 => if x19 = true then (some false) else (auguryref05_SameSchema.l0 k 0 x344000 x344001 x345000 x345001)
def auguryref05_SameSchema.l0 : Nat → Int → ByteArray → List (S55) → ByteArray → List (S55) → Option (Bool)
  | 0, _, _, _, _, _ => none
  | k + 1, x5, x344000, x344001, x345000, x345001 => if x5 < (x344001.length : Int) then (if 0 ≤ x5 then (if x5 < (x345001.length : Int) then (if (!((((rd_T55 x344001 x5).f0).toList) == (((rd_T55 x345001 x5).f0).toList)) || (!(((rd_T55 x344001 x5).f1) == ((rd_T55 x345001 x5).f1)))) = true then (some false) else (auguryref05_SameSchema.l0 k (wrap64 (x5 + 1)) x344000 x344001 x345000 x345001)) else (none)) else (none)) else (some true)
end
def auguryref05_SameSchema.f (k : Nat) (a0_0 : ByteArray) (l0_1 : List (S55)) (a1_0 : ByteArray) (l1_1 : List (S55)) : Option (Bool) := if a0_0.toList = a1_0.toList then (auguryref05_SameSchema.j0 k ((l0_1.length : Int) != (l1_1.length : Int)) a0_0 l0_1 a1_0 l1_1) else (auguryref05_SameSchema.j0 k true a0_0 l0_1 a1_0 l1_1)
theorem auguryref05_SameSchema.mono_l : ∀ k, (∀ y0 y1 y2 y3 y4, LeO (auguryref05_SameSchema.j0 k y0 y1 y2 y3 y4) (auguryref05_SameSchema.j0 (k + 1) y0 y1 y2 y3 y4)) ∧ (∀ y0 y1 y2 y3 y4, LeO (auguryref05_SameSchema.l0 k y0 y1 y2 y3 y4) (auguryref05_SameSchema.l0 (k + 1) y0 y1 y2 y3 y4))
  | 0 => ⟨fun _ _ _ _ _ r h => by simp [auguryref05_SameSchema.j0] at h, fun _ _ _ _ _ r h => by simp [auguryref05_SameSchema.l0] at h⟩
  | k + 1 => by
    obtain ⟨ih0, ih1⟩ := auguryref05_SameSchema.mono_l k
    refine ⟨?_, ?_⟩
    · intro y0 y1 y2 y3 y4
      unfold auguryref05_SameSchema.j0
      repeat' first
      | (with_reducible exact ih0 _ _ _ _ _)
      | (with_reducible exact ih1 _ _ _ _ _)
      | (with_reducible exact LeO.refl _)
      | (with_reducible exact LeO.none _)
      | (with_reducible refine LeO.ite ?_ ?_)
      | (with_reducible refine LeO.bind ?_ (fun _ => ?_))
      | exact LeO.none _
      | refine LeO.ite ?_ ?_
      | refine LeO.bind ?_ (fun _ => ?_)
    · intro y0 y1 y2 y3 y4
      unfold auguryref05_SameSchema.l0
      repeat' first
      | (with_reducible exact ih0 _ _ _ _ _)
      | (with_reducible exact ih1 _ _ _ _ _)
      | (with_reducible exact LeO.refl _)
      | (with_reducible exact LeO.none _)
      | (with_reducible refine LeO.ite ?_ ?_)
      | (with_reducible refine LeO.bind ?_ (fun _ => ?_))
      | exact LeO.none _
      | refine LeO.ite ?_ ?_
      | refine LeO.bind ?_ (fun _ => ?_)
theorem auguryref05_SameSchema.mono : ∀ a0 a1 a2 a3 k, LeO (auguryref05_SameSchema.f k a0 a1 a2 a3) (auguryref05_SameSchema.f (k + 1) a0 a1 a2 a3) := by
  intro a0 a1 a2 a3 k
  obtain ⟨ih0, ih1⟩ := auguryref05_SameSchema.mono_l k
  unfold auguryref05_SameSchema.f
  repeat' first
      | (with_reducible exact ih0 _ _ _ _ _)
      | (with_reducible exact ih1 _ _ _ _ _)
      | (with_reducible exact LeO.refl _)
      | (with_reducible exact LeO.none _)
      | (with_reducible refine LeO.ite ?_ ?_)
      | (with_reducible refine LeO.bind ?_ (fun _ => ?_))
      | exact LeO.none _
      | refine LeO.ite ?_ ?_
      | refine LeO.bind ?_ (fun _ => ?_)
set_option maxHeartbeats 8000000 in
set_option maxRecDepth 100000 in
theorem auguryref05_SameSchema.calls (k : Nat) (a0_0 : ByteArray) (A0_1 : Option Addr) (c0_1 : Nat) (l0_1 : List (S55)) (a1_0 : ByteArray) (A1_1 : Option Addr) (c1_1 : Nat) (l1_1 : List (S55)) (r : Bool) (w : World) (hr0_1 : Kd.C k55 w A0_1 l0_1.length l0_1) (hc0_1 : l0_1.length ≤ c0_1) (hr1_1 : Kd.C k55 w A1_1 l1_1.length l1_1) (hc1_1 : l1_1.length ≤ c1_1) (h : auguryref05_SameSchema.f k a0_0 l0_1 a1_0 l1_1 = some r) :
    Calls Try.prog 18 #[.agg #[.string a0_0, .slice A0_1 l0_1.length c0_1], .agg #[.string a1_0, .slice A1_1 l1_1.length c1_1]] w fun e w' => e = .returned (.bool r) ∧ Below w.heap.size w w' := by
  have hu31 := Try.underlying31
  have hu55 := Try.underlying55
  have HR0_1 := Aside0.mk hr0_1
  have HC0_1 := Aside0.mk hc0_1
  clear hr0_1 hc0_1
  have HR1_1 := Aside0.mk hr1_1
  have HC1_1 := Aside0.mk hc1_1
  clear hr1_1 hc1_1
  have HB := Aside0.mk (Below.refl w.heap.size w)
  have H : (if a0_0.toList = a1_0.toList then (auguryref05_SameSchema.j0 k ((l0_1.length : Int) != (l1_1.length : Int)) a0_0 l0_1 a1_0 l1_1) else (auguryref05_SameSchema.j0 k true a0_0 l0_1 a1_0 l1_1)) = some r := h
  clear h
  have HC3 := Aside0.mk H
  clear H
  go_enter Try.func18, Try.ntmps18
  go_upto_region 1 with (first | ((with_reducible refine gate_dst (N := 2) rfl ?_); (try (refine gate_guard (by rfl) ?_; dsimp only)); refine box_event ?hg (N := 2) ?hd (cs := #[.string a0_0, .slice A0_1 l0_1.length c0_1]) (t := 31) ?hr ?_; (case hd => rfl); (case hg => rfl); (case hr => first | (go_simp; done) | (go_simp; rfl)); intro gb343 hg w4 hbox hb; have BK343 := Aside0.mk (hbox); have GW343 := hG HB hg; have GE343 := hG HB hg; replace HB := hB HB hb; clear hb hbox hg) | ((with_reducible refine gate_dst (N := 3) rfl ?_); (try (refine gate_guard (by rfl) ?_; dsimp only)); refine box_event ?hg (N := 3) ?hd (cs := #[.string a1_0, .slice A1_1 l1_1.length c1_1]) (t := 31) ?hr ?_; (case hd => rfl); (case hg => rfl); (case hr => first | (go_simp; done) | (go_simp; rfl)); intro gb344 hg w5 hbox hb; have BK344 := Aside0.mk (hbox); have GW344 := hG HB hg; have GE344 := hG HB hg; replace HB := hB HB hb; have NB343_344 := hN BK343 hg; have NB344_343 := hM BK343 hg; replace BK343 := bb BK343 hb; clear hb hbox hg))
  repeat (go_quiet (first | ((with_reducible refine gate_dst (N := 2) rfl ?_); (try (refine gate_guard (by rfl) ?_; dsimp only)); refine box_event ?hg (N := 2) ?hd (cs := #[.string a0_0, .slice A0_1 l0_1.length c0_1]) (t := 31) ?hr ?_; (case hd => rfl); (case hg => rfl); (case hr => first | (go_simp; done) | (go_simp; rfl)); intro gb343 hg w4 hbox hb; have BK343 := Aside0.mk (hbox); have GW343 := hG HB hg; have GE343 := hG HB hg; replace HB := hB HB hb; clear hb hbox hg) | ((with_reducible refine gate_dst (N := 3) rfl ?_); (try (refine gate_guard (by rfl) ?_; dsimp only)); refine box_event ?hg (N := 3) ?hd (cs := #[.string a1_0, .slice A1_1 l1_1.length c1_1]) (t := 31) ?hr ?_; (case hd => rfl); (case hg => rfl); (case hr => first | (go_simp; done) | (go_simp; rfl)); intro gb344 hg w5 hbox hb; have BK344 := Aside0.mk (hbox); have GW344 := hG HB hg; have GE344 := hG HB hg; replace HB := hB HB hb; have NB343_344 := hN BK343 hg; have NB344_343 := hM BK343 hg; replace BK343 := bb BK343 hb; clear hb hbox hg)); go_upto_region 1 with (first | ((with_reducible refine gate_dst (N := 2) rfl ?_); (try (refine gate_guard (by rfl) ?_; dsimp only)); refine box_event ?hg (N := 2) ?hd (cs := #[.string a0_0, .slice A0_1 l0_1.length c0_1]) (t := 31) ?hr ?_; (case hd => rfl); (case hg => rfl); (case hr => first | (go_simp; done) | (go_simp; rfl)); intro gb343 hg w4 hbox hb; have BK343 := Aside0.mk (hbox); have GW343 := hG HB hg; have GE343 := hG HB hg; replace HB := hB HB hb; clear hb hbox hg) | ((with_reducible refine gate_dst (N := 3) rfl ?_); (try (refine gate_guard (by rfl) ?_; dsimp only)); refine box_event ?hg (N := 3) ?hd (cs := #[.string a1_0, .slice A1_1 l1_1.length c1_1]) (t := 31) ?hr ?_; (case hd => rfl); (case hg => rfl); (case hr => first | (go_simp; done) | (go_simp; rfl)); intro gb344 hg w5 hbox hb; have BK344 := Aside0.mk (hbox); have GW344 := hG HB hg; have GE344 := hG HB hg; replace HB := hB HB hb; have NB343_344 := hN BK343 hg; have NB344_343 := hM BK343 hg; replace BK343 := bb BK343 hb; clear hb hbox hg)))
  (try simp only [Act.put, List.setIfInBounds_toArray, List.set_cons_zero, List.set_cons_succ])
  go_cut [19] (fun v19 wc => ∃ (kq : Nat) (x19_2 : Bool), v19 = .bool x19_2 ∧ Aside0 (auguryref05_SameSchema.j0 kq x19_2 a0_0 l0_1 a1_0 l1_1 = some r) ∧ Aside0 (kq ≤ k) ∧ Aside0 (wc.heap[gb343]? = some (.cells #[.string a0_0, (.slice A0_1 l0_1.length c0_1)] 31 (0, 0))) ∧ Aside0 (wc.heap[gb344]? = some (.cells #[.string a1_0, (.slice A1_1 l1_1.length c1_1)] 31 (0, 0))) ∧ Aside0 (Below w.heap.size w wc))
  case first =>
   have H := HC3.out
   clear HC3
   by_cases c6 : a0_0.toList = a1_0.toList
   ·rw [if_pos c6] at H
    have c6b0 : (a0_0.toList == a1_0.toList) = true := beq_iff_eq.mpr c6
    have c6b1 : (a0_0.toList != a1_0.toList) = false := bne_eq_false_iff_eq.mpr c6
    clear c6
    (first | rw [c6b0] | (simp only [i64_w, i32_w]; rw [c6b0]) | rw [c6b1] | skip)
    have H' := Aside0.mk H
    clear H
    have hnb7 := NB343_344.out
    have hnc7 := NB344_343.out
    obtain ⟨hcz8_0, hcz8_1, hfz8_0, hfz8_1⟩ := blk_c2 BK343.out
    obtain ⟨hcz9_0, hcz9_1, hfz9_0, hfz9_1⟩ := blk_c2 BK344.out
    go_wp2
    repeat (go_quiet (fail); try go_wp2)
    go_meet
    case rel => exact ⟨_, (((l0_1.length : Int) != (l1_1.length : Int))), (by first | rfl | (simp; done) | (simp [*]; done) | grind), H', ⟨by first | omega | exact Nat.le_refl _⟩, ⟨pl_blk BK343.out⟩, ⟨pl_blk BK344.out⟩, ⟨pl_below HB.out⟩⟩
   ·rw [if_neg c6] at H
    have c6b0 : (a0_0.toList == a1_0.toList) = false := beq_eq_false_iff_ne.mpr c6
    have c6b1 : (a0_0.toList != a1_0.toList) = true := bne_iff_ne.mpr c6
    (first | rw [c6b0] | (simp only [i64_w, i32_w]; rw [c6b0]) | rw [c6b1] | skip)
    have H' := Aside0.mk H
    clear H
    have hnb10 := NB343_344.out
    have hnc10 := NB344_343.out
    obtain ⟨hcz11_0, hcz11_1, hfz11_0, hfz11_1⟩ := blk_c2 BK343.out
    obtain ⟨hcz12_0, hcz12_1, hfz12_0, hfz12_1⟩ := blk_c2 BK344.out
    go_wp2
    repeat (go_quiet (fail); try go_wp2)
    go_meet
    case rel => exact ⟨_, (true), (by first | rfl | (simp; done) | (simp [*]; done) | grind), H', ⟨by first | omega | exact Nat.le_refl _⟩, ⟨pl_blk BK343.out⟩, ⟨pl_blk BK344.out⟩, ⟨pl_below HB.out⟩⟩
  case rest =>
   clear HC3
   (try clear c1); (try clear c2); (try clear p2); (try clear c6); (try clear c6b0); (try clear c6b1); (try clear c7); (try clear c10); (try clear hcz11_0 hcz11_1 hfz11_0 hfz11_1); (try clear hcz12_0 hcz12_1 hfz12_0 hfz12_1); (try clear hcz8_0 hcz8_1 hfz8_0 hfz8_1); (try clear hcz9_0 hcz9_1 hfz9_0 hfz9_1)
   obtain ⟨kq, x19_2, rfl, HA, HJ2, BK343, BK344, HB⟩ := hcut
   cases kq with
   | zero => exact absurd HA.out (by simp [auguryref05_SameSchema.j0])
   | succ kj2 =>
    have H := HA.out
    clear HA
    simp only [auguryref05_SameSchema.j0] at H
    by_cases c13 : x19_2 = true
    ·subst c13
     rw [if_pos rfl] at H
     obtain rfl := Option.some.inj H
     go_wp2
     repeat (go_quiet (fail); try go_wp2)
     go_ret
     exact ⟨by first | rfl | (simp [errW_none, errW_some] <;> rfl) | (simp [*, errW_none, errW_some] <;> rfl), pl_below HB.out⟩
    ·replace c13 := Bool.eq_false_iff.mpr c13
     subst c13
     rw [if_neg (show ¬ (false = true) by decide)] at H
     have H' := Aside0.mk H
     clear H
     go_wp2
     repeat (go_quiet (fail); try go_wp2)
     go_loopg [5] kj2 (fun kq v5 w' => ∃ (x5_2 : Int), v5 = .int .i64 x5_2 ∧ Aside0 (auguryref05_SameSchema.l0 kq x5_2 a0_0 l0_1 a1_0 l1_1 = some r) ∧ Aside0 (kq ≤ kj2) ∧ Aside0 (w'.heap[gb343]? = some (.cells #[.string a0_0, (.slice A0_1 l0_1.length c0_1)] 31 (0, 0))) ∧ Aside0 (w'.heap[gb344]? = some (.cells #[.string a1_0, (.slice A1_1 l1_1.length c1_1)] 31 (0, 0))) ∧ Aside0 (Below w.heap.size w w'))
     case atStart => exact ⟨(0), (by first | rfl | (simp; done) | (simp [*]; done) | grind), H', ⟨Nat.le_refl _⟩, ⟨pl_blk BK343.out⟩, ⟨pl_blk BK344.out⟩, ⟨pl_below HB.out⟩⟩
     case round =>
      clear H'
      (try clear c1); (try clear c2); (try clear p2); (try clear c6); (try clear c6b0); (try clear c6b1); (try clear c7); (try clear c10); (try clear c13); (try clear hcz11_0 hcz11_1 hfz11_0 hfz11_1); (try clear hcz12_0 hcz12_1 hfz12_0 hfz12_1); (try clear hcz8_0 hcz8_1 hfz8_0 hfz8_1); (try clear hcz9_0 hcz9_1 hfz9_0 hfz9_1)
      obtain ⟨x5_2, rfl, HA, HK2, BK343, BK344, HB⟩ := hrel
      cases gk with
      | zero => exact absurd HA.out (by simp [auguryref05_SameSchema.l0])
      | succ k2 =>
       have H := HA.out
       clear HA
       simp only [auguryref05_SameSchema.l0] at H
       by_cases c14 : x5_2 < (l0_1.length : Int)
       ·rw [if_pos c14] at H
        have c14b0 : decide (x5_2 < (l0_1.length : Int)) = true := decide_eq_true c14
        clear c14
        by_cases c15 : 0 ≤ x5_2; rotate_left
        ·rw [if_neg c15] at H; cases H
        rw [if_pos c15] at H
        have c15b0 : decide (0 ≤ x5_2) = true := decide_eq_true c15
        clear c15
        by_cases c16 : x5_2 < (l1_1.length : Int); rotate_left
        ·rw [if_neg c16] at H; cases H
        rw [if_pos c16] at H
        have c16b0 : decide (x5_2 < (l1_1.length : Int)) = true := decide_eq_true c16
        clear c16
        by_cases c17 : (!((((rd_T55 l0_1 x5_2).f0).toList) == (((rd_T55 l1_1 x5_2).f0).toList)) || (!(((rd_T55 l0_1 x5_2).f1) == ((rd_T55 l1_1 x5_2).f1)))) = true
        ·rw [if_pos c17] at H
         have c17b0 : (!((((rd_T55 l0_1 x5_2).f0).toList) == (((rd_T55 l1_1 x5_2).f0).toList)) || (!(((rd_T55 l0_1 x5_2).f1) == ((rd_T55 l1_1 x5_2).f1)))) = true := c17
         clear c17
         obtain rfl := Option.some.inj H
         have hnb18 := NB343_344.out
         have hnc18 := NB344_343.out
         obtain ⟨hcz19_0, hcz19_1, hfz19_0, hfz19_1⟩ := blk_c2 BK343.out
         have p345 : 0 ≤ (x5_2 : Int) := of_decide_eq_true (by first | (with_reducible assumption) | assumption)
         have q345 : x5_2 < (l0_1.length : Int) := of_decide_eq_true (by first | (with_reducible assumption) | assumption)
         obtain ⟨ad345, e345, hx345_0, hx345_1⟩ := at_T55 HR0_1.out x5_2 p345 q345
         cases e345
         replace hx345_0 := (HB.out.cell (World.block_lt_of_cell? w _ hx345_0)).trans hx345_0
         replace hx345_1 := (HB.out.cell (World.block_lt_of_cell? w _ hx345_1)).trans hx345_1
         replace p345 := eq_true p345
         replace q345 := eq_true q345
         obtain ⟨hcz20_0, hcz20_1, hfz20_0, hfz20_1⟩ := blk_c2 BK344.out
         have p346 : 0 ≤ (x5_2 : Int) := of_decide_eq_true (by first | (with_reducible assumption) | assumption)
         have q346 : x5_2 < (l1_1.length : Int) := of_decide_eq_true (by first | (with_reducible assumption) | assumption)
         obtain ⟨ad346, e346, hx346_0, hx346_1⟩ := at_T55 HR1_1.out x5_2 p346 q346
         cases e346
         replace hx346_0 := (HB.out.cell (World.block_lt_of_cell? w _ hx346_0)).trans hx346_0
         replace hx346_1 := (HB.out.cell (World.block_lt_of_cell? w _ hx346_1)).trans hx346_1
         replace p346 := eq_true p346
         replace q346 := eq_true q346
         go_wp2
         repeat (go_quiet (fail); try go_wp2)
         go_ret
         exact ⟨by first | rfl | (simp [errW_none, errW_some] <;> rfl) | (simp [*, errW_none, errW_some] <;> rfl), pl_below HB.out⟩
        ·rw [if_neg c17] at H
         have c17b0 : (!((((rd_T55 l0_1 x5_2).f0).toList) == (((rd_T55 l1_1 x5_2).f0).toList)) || (!(((rd_T55 l0_1 x5_2).f1) == ((rd_T55 l1_1 x5_2).f1)))) = false := by simpa using c17
         clear c17
         have H' := Aside0.mk H
         clear H
         have hnb21 := NB343_344.out
         have hnc21 := NB344_343.out
         obtain ⟨hcz22_0, hcz22_1, hfz22_0, hfz22_1⟩ := blk_c2 BK343.out
         have p345 : 0 ≤ (x5_2 : Int) := of_decide_eq_true (by first | (with_reducible assumption) | assumption)
         have q345 : x5_2 < (l0_1.length : Int) := of_decide_eq_true (by first | (with_reducible assumption) | assumption)
         obtain ⟨ad345, e345, hx345_0, hx345_1⟩ := at_T55 HR0_1.out x5_2 p345 q345
         cases e345
         replace hx345_0 := (HB.out.cell (World.block_lt_of_cell? w _ hx345_0)).trans hx345_0
         replace hx345_1 := (HB.out.cell (World.block_lt_of_cell? w _ hx345_1)).trans hx345_1
         replace p345 := eq_true p345
         replace q345 := eq_true q345
         obtain ⟨hcz23_0, hcz23_1, hfz23_0, hfz23_1⟩ := blk_c2 BK344.out
         have p346 : 0 ≤ (x5_2 : Int) := of_decide_eq_true (by first | (with_reducible assumption) | assumption)
         have q346 : x5_2 < (l1_1.length : Int) := of_decide_eq_true (by first | (with_reducible assumption) | assumption)
         obtain ⟨ad346, e346, hx346_0, hx346_1⟩ := at_T55 HR1_1.out x5_2 p346 q346
         cases e346
         replace hx346_0 := (HB.out.cell (World.block_lt_of_cell? w _ hx346_0)).trans hx346_0
         replace hx346_1 := (HB.out.cell (World.block_lt_of_cell? w _ hx346_1)).trans hx346_1
         replace p346 := eq_true p346
         replace q346 := eq_true q346
         go_wp2
         repeat (go_quiet (fail); try go_wp2)
         go_roundg k2
         case measure => have := HJ2.out; have := HK2.out; omega
         case rel => exact ⟨(wrap64 (x5_2 + 1)), (by first | rfl | (simp; done) | (simp [*]; done) | grind), H', ⟨by have := HJ2.out; have := HK2.out; omega⟩, ⟨pl_blk BK343.out⟩, ⟨pl_blk BK344.out⟩, ⟨pl_below HB.out⟩⟩
       ·rw [if_neg c14] at H
        have c14b0 : decide (x5_2 < (l0_1.length : Int)) = false := decide_eq_false c14
        clear c14
        obtain rfl := Option.some.inj H
        have hnb24 := NB343_344.out
        have hnc24 := NB344_343.out
        obtain ⟨hcz25_0, hcz25_1, hfz25_0, hfz25_1⟩ := blk_c2 BK343.out
        go_wp2
        repeat (go_quiet (fail); try go_wp2)
        go_ret
        exact ⟨by first | rfl | (simp [errW_none, errW_some] <;> rfl) | (simp [*, errW_none, errW_some] <;> rfl), pl_below HB.out⟩

end Go.Proofs.Ytbnjhmcbkocdjaa.PAll
