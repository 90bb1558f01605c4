/- Written by this session's own program (wip/xprint): functions of the Go program as Lean functions, and proofs that the Go code computes them. -/
import Derived.Test.YtbnjhmcbkocdjaaPAllx0
import Derived.Test.YtbnjhmcbkocdjaaPAllx37
namespace Go.Proofs.Ytbnjhmcbkocdjaa.PAll
open Go.RowKit Go.Proofs.YtbnjhmcbkocdjaaW.PrintWords Go.Proofs.YtbnjhmcbkocdjaaW.PrintLast Go.Proofs.YtbnjhmcbkocdjaaW.PrintMore
attribute [local go_sem] max2_int min2_int max_two min_two max_three min_three max_four min_four   -- for this text's walks alone
set_option linter.unusedVariables false
set_option linter.unusedSimpArgs false

/-! ### auguryref05_Schema: function 17 -/
mutual
def auguryref05_Schema.l0 : Nat → Int → ByteArray → List (S55) → Option (Bool)
  | 0, _, _, _ => none
  | k + 1, x3, x338000, x338001 => if x3 < (x338001.length : Int) then (if 0 ≤ x3 then ((auguryref05_Word.f k ((rd_T55 x338001 x3).f0)).bind fun t341 => (if t341 = true then (if ((rd_T55 x338001 x3).f1) < 1 then (auguryref05_Schema.j1 k x3 true x338000 x338001 ((rd_T55 x338001 x3).f0) ((rd_T55 x338001 x3).f1)) else (auguryref05_Schema.j1 k x3 (decide (((rd_T55 x338001 x3).f1) > 3)) x338000 x338001 ((rd_T55 x338001 x3).f0) ((rd_T55 x338001 x3).f1))) else (auguryref05_Schema.j1 k x3 true x338000 x338001 ((rd_T55 x338001 x3).f0) ((rd_T55 x338001 x3).f1)))) else (none)) else ((auguryref05_Word.f k x338000).bind fun t338 => (if t338 = true then (some (decide ((x338001.length : Int) ≤ 8))) else (some false)))
def auguryref05_Schema.j1 : Nat → Int → Bool → ByteArray → List (S55) → ByteArray → Int → Option (Bool)
  | 0, _, _, _, _, _, _ => none
  | k + 1, x3, x31, x338000, x338001, x341000, x341001 => if x31 = true then (some false) else (auguryref05_Schema.l1 k x3 0 x338000 x338001 x341000 x341001)
def auguryref05_Schema.l1 : Nat → Int → Int → ByteArray → List (S55) → ByteArray → Int → Option (Bool)
  | 0, _, _, _, _, _, _ => none
  | k + 1, x3, x5, x338000, x338001, x341000, x341001 => if x5 < x3 then (if 0 ≤ x5 then (if x5 < (x338001.length : Int) then (if ((rd_T55 x338001 x5).f0).toList = x341000.toList then (some false) else (auguryref05_Schema.l1 k x3 (wrap64 (x5 + 1)) x338000 x338001 x341000 x341001)) else (none)) else (none)) else (auguryref05_Schema.l0 k (wrap64 (x3 + 1)) x338000 x338001)
end
def auguryref05_Schema.f (k : Nat) (a0_0 : ByteArray) (l0_1 : List (S55)) : Option (Bool) := auguryref05_Schema.l0 k 0 a0_0 l0_1
theorem auguryref05_Schema.mono_l : ∀ k, (∀ y0 y1 y2, LeO (auguryref05_Schema.l0 k y0 y1 y2) (auguryref05_Schema.l0 (k + 1) y0 y1 y2)) ∧ (∀ y0 y1 y2 y3 y4 y5, LeO (auguryref05_Schema.j1 k y0 y1 y2 y3 y4 y5) (auguryref05_Schema.j1 (k + 1) y0 y1 y2 y3 y4 y5)) ∧ (∀ y0 y1 y2 y3 y4 y5, LeO (auguryref05_Schema.l1 k y0 y1 y2 y3 y4 y5) (auguryref05_Schema.l1 (k + 1) y0 y1 y2 y3 y4 y5))
  | 0 => ⟨fun _ _ _ r h => by simp [auguryref05_Schema.l0] at h, fun _ _ _ _ _ _ r h => by simp [auguryref05_Schema.j1] at h, fun _ _ _ _ _ _ r h => by simp [auguryref05_Schema.l1] at h⟩
  | k + 1 => by
    obtain ⟨ih0, ih1, ih2⟩ := auguryref05_Schema.mono_l k
    refine ⟨?_, ?_, ?_⟩
    · intro y0 y1 y2
      unfold auguryref05_Schema.l0
      repeat' first
      | (with_reducible exact ih0 _ _ _)
      | (with_reducible exact ih1 _ _ _ _ _ _)
      | (with_reducible exact ih2 _ _ _ _ _ _)
      | (with_reducible exact auguryref05_Word.mono _ _)
      | (with_reducible exact LeO.refl _)
      | (with_reducible exact LeO.none _)
      | (with_reducible refine LeO.ite ?_ ?_)
      | (with_reducible refine LeO.bind ?_ (fun _ => ?_))
      | exact LeO.none _
      | refine LeO.ite ?_ ?_
      | refine LeO.bind ?_ (fun _ => ?_)
    · intro y0 y1 y2 y3 y4 y5
      unfold auguryref05_Schema.j1
      repeat' first
      | (with_reducible exact ih0 _ _ _)
      | (with_reducible exact ih1 _ _ _ _ _ _)
      | (with_reducible exact ih2 _ _ _ _ _ _)
      | (with_reducible exact auguryref05_Word.mono _ _)
      | (with_reducible exact LeO.refl _)
      | (with_reducible exact LeO.none _)
      | (with_reducible refine LeO.ite ?_ ?_)
      | (with_reducible refine LeO.bind ?_ (fun _ => ?_))
      | exact LeO.none _
      | refine LeO.ite ?_ ?_
      | refine LeO.bind ?_ (fun _ => ?_)
    · intro y0 y1 y2 y3 y4 y5
      unfold auguryref05_Schema.l1
      repeat' first
      | (with_reducible exact ih0 _ _ _)
      | (with_reducible exact ih1 _ _ _ _ _ _)
      | (with_reducible exact ih2 _ _ _ _ _ _)
      | (with_reducible exact auguryref05_Word.mono _ _)
      | (with_reducible exact LeO.refl _)
      | (with_reducible exact LeO.none _)
      | (with_reducible refine LeO.ite ?_ ?_)
      | (with_reducible refine LeO.bind ?_ (fun _ => ?_))
      | exact LeO.none _
      | refine LeO.ite ?_ ?_
      | refine LeO.bind ?_ (fun _ => ?_)
theorem auguryref05_Schema.mono : ∀ a0 a1 k, LeO (auguryref05_Schema.f k a0 a1) (auguryref05_Schema.f (k + 1) a0 a1) := by
  intro a0 a1 k
  obtain ⟨ih0, ih1, ih2⟩ := auguryref05_Schema.mono_l k
  unfold auguryref05_Schema.f
  repeat' first
      | (with_reducible exact ih0 _ _ _)
      | (with_reducible exact ih1 _ _ _ _ _ _)
      | (with_reducible exact ih2 _ _ _ _ _ _)
      | (with_reducible exact auguryref05_Word.mono _ _)
      | (with_reducible exact LeO.refl _)
      | (with_reducible exact LeO.none _)
      | (with_reducible refine LeO.ite ?_ ?_)
      | (with_reducible refine LeO.bind ?_ (fun _ => ?_))
      | exact LeO.none _
      | refine LeO.ite ?_ ?_
      | refine LeO.bind ?_ (fun _ => ?_)
set_option maxHeartbeats 8000000 in
set_option maxRecDepth 100000 in
theorem auguryref05_Schema.calls (k : Nat) (a0_0 : ByteArray) (A0_1 : Option Addr) (c0_1 : Nat) (l0_1 : List (S55)) (r : Bool) (w : World) (hr0_1 : Kd.C k55 w A0_1 l0_1.length l0_1) (hc0_1 : l0_1.length ≤ c0_1) (h : auguryref05_Schema.f k a0_0 l0_1 = some r) :
    Calls Try.prog 17 #[.agg #[.string a0_0, .slice A0_1 l0_1.length c0_1]] w fun e w' => e = .returned (.bool r) ∧ Below w.heap.size w w' := by
  have hu31 := Try.underlying31
  have hu55 := Try.underlying55
  have HR0_1 := Aside0.mk hr0_1
  have HC0_1 := Aside0.mk hc0_1
  clear hr0_1 hc0_1
  have HB := Aside0.mk (Below.refl w.heap.size w)
  have H : (auguryref05_Schema.l0 k 0 a0_0 l0_1) = some r := h
  clear h
  have H' := Aside0.mk H
  clear H
  go_enter Try.func17, Try.ntmps17
  go_wp2_with (first | ((with_reducible refine gate_dst (N := 1) rfl ?_); (try (refine gate_guard (by rfl) ?_; dsimp only)); refine box_event ?hg (N := 1) ?hd (cs := #[.string a0_0, .slice A0_1 l0_1.length c0_1]) (t := 31) ?hr ?_; (case hd => rfl); (case hg => rfl); (case hr => first | (go_simp; done) | (go_simp; rfl)); intro gb337 hg w2 hbox hb; have BK337 := Aside0.mk (hbox); have GW337 := hG HB hg; have GE337 := hG HB hg; replace HB := hB HB hb; clear hb hbox hg))
  repeat (go_quiet (first | ((with_reducible refine gate_dst (N := 1) rfl ?_); (try (refine gate_guard (by rfl) ?_; dsimp only)); refine box_event ?hg (N := 1) ?hd (cs := #[.string a0_0, .slice A0_1 l0_1.length c0_1]) (t := 31) ?hr ?_; (case hd => rfl); (case hg => rfl); (case hr => first | (go_simp; done) | (go_simp; rfl)); intro gb337 hg w2 hbox hb; have BK337 := Aside0.mk (hbox); have GW337 := hG HB hg; have GE337 := hG HB hg; replace HB := hB HB hb; clear hb hbox hg)); try go_wp2_with (first | ((with_reducible refine gate_dst (N := 1) rfl ?_); (try (refine gate_guard (by rfl) ?_; dsimp only)); refine box_event ?hg (N := 1) ?hd (cs := #[.string a0_0, .slice A0_1 l0_1.length c0_1]) (t := 31) ?hr ?_; (case hd => rfl); (case hg => rfl); (case hr => first | (go_simp; done) | (go_simp; rfl)); intro gb337 hg w2 hbox hb; have BK337 := Aside0.mk (hbox); have GW337 := hG HB hg; have GE337 := hG HB hg; replace HB := hB HB hb; clear hb hbox hg)))
  go_loopg [3] k (fun kq v3 w' => ∃ (x3_1 : Int), v3 = .int .i64 x3_1 ∧ Aside0 (auguryref05_Schema.l0 kq x3_1 a0_0 l0_1 = some r) ∧ Aside0 (kq ≤ k) ∧ Aside0 (w'.heap[gb337]? = some (.cells #[.string a0_0, (.slice A0_1 l0_1.length c0_1)] 31 (0, 0))) ∧ Aside0 (Below w.heap.size w w'))
  case atStart => exact ⟨(0), (by first | rfl | (simp; done) | (simp [*]; done) | grind), H', ⟨Nat.le_refl _⟩, ⟨pl_blk BK337.out⟩, ⟨pl_below HB.out⟩⟩
  case round =>
   clear H'
   (try clear c1); (try clear p2)
   obtain ⟨x3_1, rfl, HA, HK1, BK337, HB⟩ := hrel
   cases gk with
   | zero => exact absurd HA.out (by simp [auguryref05_Schema.l0])
   | succ k1 =>
    have H := HA.out
    clear HA
    simp only [auguryref05_Schema.l0] at H
    by_cases c3 : x3_1 < (l0_1.length : Int)
    ·rw [if_pos c3] at H
     have c3b0 : decide (x3_1 < (l0_1.length : Int)) = true := decide_eq_true c3
     clear c3
     by_cases c4 : 0 ≤ x3_1; rotate_left
     ·rw [if_neg c4] at H; cases H
     rw [if_pos c4] at H
     have c4b0 : decide (0 ≤ x3_1) = true := decide_eq_true c4
     clear c4
     have HC5 := Aside0.mk H
     clear H
     obtain ⟨hcz6_0, hcz6_1, hfz6_0, hfz6_1⟩ := blk_c2 BK337.out
     have p339 : 0 ≤ (x3_1 : Int) := of_decide_eq_true (by first | (with_reducible assumption) | assumption)
     have q339 : x3_1 < (l0_1.length : Int) := of_decide_eq_true (by first | (with_reducible assumption) | assumption)
     obtain ⟨ad339, e339, hx339_0, hx339_1⟩ := at_T55 HR0_1.out x3_1 p339 q339
     cases e339
     replace hx339_0 := (HB.out.cell (World.block_lt_of_cell? w _ hx339_0)).trans hx339_0
     replace hx339_1 := (HB.out.cell (World.block_lt_of_cell? w _ hx339_1)).trans hx339_1
     replace p339 := eq_true p339
     replace q339 := eq_true q339
     go_upto_region 5 with (first | ((with_reducible refine gate_dst (N := 4) rfl ?_); (try (refine gate_guard (by rfl) ?_; dsimp only)); refine box_event ?hg (N := 4) ?hd (cs := #[.string (⟨#[]⟩ : ByteArray), .int .i64 0]) (t := 55) ?hr ?_; (case hd => rfl); (case hg => rfl); (case hr => first | (go_simp; done) | (go_simp; rfl)); intro gb340 hg w7 hbox hb; have BK340 := Aside0.mk (hbox); have GW340 := hG HB hg; have GE340 := hG HB hg; replace HB := hB HB hb; have NB337_340 := hN BK337 hg; have NB340_337 := hM BK337 hg; replace BK337 := bb BK337 hb; clear hb hbox hg; have hnb8 := NB340_337.out; have hnc8 := NB337_340.out; obtain ⟨hcz9_0, hcz9_1, hfz9_0, hfz9_1⟩ := blk_c2 BK340.out))
     repeat (go_quiet (first | ((with_reducible refine gate_dst (N := 4) rfl ?_); (try (refine gate_guard (by rfl) ?_; dsimp only)); refine box_event ?hg (N := 4) ?hd (cs := #[.string (⟨#[]⟩ : ByteArray), .int .i64 0]) (t := 55) ?hr ?_; (case hd => rfl); (case hg => rfl); (case hr => first | (go_simp; done) | (go_simp; rfl)); intro gb340 hg w7 hbox hb; have BK340 := Aside0.mk (hbox); have GW340 := hG HB hg; have GE340 := hG HB hg; replace HB := hB HB hb; have NB337_340 := hN BK337 hg; have NB340_337 := hM BK337 hg; replace BK337 := bb BK337 hb; clear hb hbox hg; have hnb8 := NB340_337.out; have hnc8 := NB337_340.out; obtain ⟨hcz9_0, hcz9_1, hfz9_0, hfz9_1⟩ := blk_c2 BK340.out)); go_upto_region 5 with (first | ((with_reducible refine gate_dst (N := 4) rfl ?_); (try (refine gate_guard (by rfl) ?_; dsimp only)); refine box_event ?hg (N := 4) ?hd (cs := #[.string (⟨#[]⟩ : ByteArray), .int .i64 0]) (t := 55) ?hr ?_; (case hd => rfl); (case hg => rfl); (case hr => first | (go_simp; done) | (go_simp; rfl)); intro gb340 hg w7 hbox hb; have BK340 := Aside0.mk (hbox); have GW340 := hG HB hg; have GE340 := hG HB hg; replace HB := hB HB hb; have NB337_340 := hN BK337 hg; have NB340_337 := hM BK337 hg; replace BK337 := bb BK337 hb; clear hb hbox hg; have hnb8 := NB340_337.out; have hnc8 := NB337_340.out; obtain ⟨hcz9_0, hcz9_1, hfz9_0, hfz9_1⟩ := blk_c2 BK340.out)))
     (try simp only [Act.put, List.setIfInBounds_toArray, List.set_cons_zero, List.set_cons_succ])
     go_cut [31] (fun v31 wc => ∃ (kq : Nat) (x31_4 : Bool), v31 = .bool x31_4 ∧ Aside0 (auguryref05_Schema.j1 kq x3_1 x31_4 a0_0 l0_1 ((rd_T55 l0_1 x3_1).f0) ((rd_T55 l0_1 x3_1).f1) = some r) ∧ Aside0 (kq ≤ k1) ∧ Aside0 (wc.heap[gb337]? = some (.cells #[.string a0_0, (.slice (some ad339) l0_1.length c0_1)] 31 (0, 0))) ∧ Aside0 (wc.heap[gb340]? = some (.cells #[.string ((rd_T55 l0_1 x3_1).f0), .int .i64 ((rd_T55 l0_1 x3_1).f1)] 55 (0, 0))) ∧ Aside0 (Below w.heap.size w wc))
     case first =>
      have H := HC5.out
      clear HC5
      replace H := Option.bind_eq_some_iff.mp H
      obtain ⟨t341, A10, H⟩ := H
      (try dsimp only at H)
      replace A10 := Aside0.mk A10
      by_cases c11 : t341 = true
      ·subst c11
       rw [if_pos rfl] at H
       by_cases c12 : ((rd_T55 l0_1 x3_1).f1) < 1
       ·rw [if_pos c12] at H
        have c12b0 : decide (((rd_T55 l0_1 x3_1).f1) < 1) = true := decide_eq_true c12
        clear c12
        (first | rw [c12b0] | (simp only [i64_w, i32_w]; rw [c12b0]) | rw [c12b1] | skip)
        have H' := Aside0.mk H
        clear H
        have hnb13 := NB340_337.out
        have hnc13 := NB337_340.out
        obtain ⟨hcz14_0, hcz14_1, hfz14_0, hfz14_1⟩ := blk_c2 BK340.out
        go_wp2_with (first | (go_at_call 24; (with_reducible refine (auguryref05_Word.calls k1 ((rd_T55 l0_1 x3_1).f0) true _ A10.out).mono ?_); rintro e w15 ⟨rfl, hb⟩; replace hb := Drawn0.below hb; replace BK337 := Aside0.mk (blk_below (pl_blk (blk_far (p := ⟨gb340, 1, none⟩) (blk_far (p := ⟨gb340, 0, none⟩) BK337.out NB337_340.out (.string ((rd_T55 l0_1 x3_1).f0))) NB337_340.out (.int .i64 ((rd_T55 l0_1 x3_1).f1)))) hb); replace BK340 := Aside0.mk (blk_below (pl_blk (blk_put (blk_put BK340.out 0 (.string ((rd_T55 l0_1 x3_1).f0)) rfl) 1 (.int .i64 ((rd_T55 l0_1 x3_1).f1)) rfl)) hb); replace HB := Aside0.mk (below_step (by repeat (first | (with_reducible first | exact HB.out | apply below_alloc | apply pw_below_drewN | apply below_drew1 | refine below_set ?_ GE340.out) | exact HB.out)) hb); (try clear hb); (try clear hb2); (try clear hk); (try clear hi); obtain ⟨hcz16_0, hcz16_1, hfz16_0, hfz16_1⟩ := blk_c2 BK340.out))
        repeat (go_quiet (first | (go_at_call 24; (with_reducible refine (auguryref05_Word.calls k1 ((rd_T55 l0_1 x3_1).f0) true _ A10.out).mono ?_); rintro e w15 ⟨rfl, hb⟩; replace hb := Drawn0.below hb; replace BK337 := Aside0.mk (blk_below (pl_blk (blk_far (p := ⟨gb340, 1, none⟩) (blk_far (p := ⟨gb340, 0, none⟩) BK337.out NB337_340.out (.string ((rd_T55 l0_1 x3_1).f0))) NB337_340.out (.int .i64 ((rd_T55 l0_1 x3_1).f1)))) hb); replace BK340 := Aside0.mk (blk_below (pl_blk (blk_put (blk_put BK340.out 0 (.string ((rd_T55 l0_1 x3_1).f0)) rfl) 1 (.int .i64 ((rd_T55 l0_1 x3_1).f1)) rfl)) hb); replace HB := Aside0.mk (below_step (by repeat (first | (with_reducible first | exact HB.out | apply below_alloc | apply pw_below_drewN | apply below_drew1 | refine below_set ?_ GE340.out) | exact HB.out)) hb); (try clear hb); (try clear hb2); (try clear hk); (try clear hi); obtain ⟨hcz16_0, hcz16_1, hfz16_0, hfz16_1⟩ := blk_c2 BK340.out)); try go_wp2_with (first | (go_at_call 24; (with_reducible refine (auguryref05_Word.calls k1 ((rd_T55 l0_1 x3_1).f0) true _ A10.out).mono ?_); rintro e w15 ⟨rfl, hb⟩; replace hb := Drawn0.below hb; replace BK337 := Aside0.mk (blk_below (pl_blk (blk_far (p := ⟨gb340, 1, none⟩) (blk_far (p := ⟨gb340, 0, none⟩) BK337.out NB337_340.out (.string ((rd_T55 l0_1 x3_1).f0))) NB337_340.out (.int .i64 ((rd_T55 l0_1 x3_1).f1)))) hb); replace BK340 := Aside0.mk (blk_below (pl_blk (blk_put (blk_put BK340.out 0 (.string ((rd_T55 l0_1 x3_1).f0)) rfl) 1 (.int .i64 ((rd_T55 l0_1 x3_1).f1)) rfl)) hb); replace HB := Aside0.mk (below_step (by repeat (first | (with_reducible first | exact HB.out | apply below_alloc | apply pw_below_drewN | apply below_drew1 | refine below_set ?_ GE340.out) | exact HB.out)) hb); (try clear hb); (try clear hb2); (try clear hk); (try clear hi); obtain ⟨hcz16_0, hcz16_1, hfz16_0, hfz16_1⟩ := blk_c2 BK340.out)))
        go_meet
        case rel => exact ⟨_, (true), (by first | rfl | (simp; done) | (simp [*]; done) | grind), H', ⟨by have := HK1.out; first | omega | exact Nat.le_refl _⟩, ⟨pl_blk BK337.out⟩, ⟨pl_blk BK340.out⟩, ⟨pl_below HB.out⟩⟩
       ·rw [if_neg c12] at H
        have c12b0 : decide (((rd_T55 l0_1 x3_1).f1) < 1) = false := decide_eq_false c12
        clear c12
        (first | rw [c12b0] | (simp only [i64_w, i32_w]; rw [c12b0]) | rw [c12b1] | skip)
        have H' := Aside0.mk H
        clear H
        have hnb17 := NB340_337.out
        have hnc17 := NB337_340.out
        obtain ⟨hcz18_0, hcz18_1, hfz18_0, hfz18_1⟩ := blk_c2 BK340.out
        go_wp2_with (first | (go_at_call 24; (with_reducible refine (auguryref05_Word.calls k1 ((rd_T55 l0_1 x3_1).f0) true _ A10.out).mono ?_); rintro e w19 ⟨rfl, hb⟩; replace hb := Drawn0.below hb; replace BK337 := Aside0.mk (blk_below (pl_blk (blk_far (p := ⟨gb340, 1, none⟩) (blk_far (p := ⟨gb340, 0, none⟩) BK337.out NB337_340.out (.string ((rd_T55 l0_1 x3_1).f0))) NB337_340.out (.int .i64 ((rd_T55 l0_1 x3_1).f1)))) hb); replace BK340 := Aside0.mk (blk_below (pl_blk (blk_put (blk_put BK340.out 0 (.string ((rd_T55 l0_1 x3_1).f0)) rfl) 1 (.int .i64 ((rd_T55 l0_1 x3_1).f1)) rfl)) hb); replace HB := Aside0.mk (below_step (by repeat (first | (with_reducible first | exact HB.out | apply below_alloc | apply pw_below_drewN | apply below_drew1 | refine below_set ?_ GE340.out) | exact HB.out)) hb); (try clear hb); (try clear hb2); (try clear hk); (try clear hi); obtain ⟨hcz20_0, hcz20_1, hfz20_0, hfz20_1⟩ := blk_c2 BK340.out))
        repeat (go_quiet (first | (go_at_call 24; (with_reducible refine (auguryref05_Word.calls k1 ((rd_T55 l0_1 x3_1).f0) true _ A10.out).mono ?_); rintro e w19 ⟨rfl, hb⟩; replace hb := Drawn0.below hb; replace BK337 := Aside0.mk (blk_below (pl_blk (blk_far (p := ⟨gb340, 1, none⟩) (blk_far (p := ⟨gb340, 0, none⟩) BK337.out NB337_340.out (.string ((rd_T55 l0_1 x3_1).f0))) NB337_340.out (.int .i64 ((rd_T55 l0_1 x3_1).f1)))) hb); replace BK340 := Aside0.mk (blk_below (pl_blk (blk_put (blk_put BK340.out 0 (.string ((rd_T55 l0_1 x3_1).f0)) rfl) 1 (.int .i64 ((rd_T55 l0_1 x3_1).f1)) rfl)) hb); replace HB := Aside0.mk (below_step (by repeat (first | (with_reducible first | exact HB.out | apply below_alloc | apply pw_below_drewN | apply below_drew1 | refine below_set ?_ GE340.out) | exact HB.out)) hb); (try clear hb); (try clear hb2); (try clear hk); (try clear hi); obtain ⟨hcz20_0, hcz20_1, hfz20_0, hfz20_1⟩ := blk_c2 BK340.out)); try go_wp2_with (first | (go_at_call 24; (with_reducible refine (auguryref05_Word.calls k1 ((rd_T55 l0_1 x3_1).f0) true _ A10.out).mono ?_); rintro e w19 ⟨rfl, hb⟩; replace hb := Drawn0.below hb; replace BK337 := Aside0.mk (blk_below (pl_blk (blk_far (p := ⟨gb340, 1, none⟩) (blk_far (p := ⟨gb340, 0, none⟩) BK337.out NB337_340.out (.string ((rd_T55 l0_1 x3_1).f0))) NB337_340.out (.int .i64 ((rd_T55 l0_1 x3_1).f1)))) hb); replace BK340 := Aside0.mk (blk_below (pl_blk (blk_put (blk_put BK340.out 0 (.string ((rd_T55 l0_1 x3_1).f0)) rfl) 1 (.int .i64 ((rd_T55 l0_1 x3_1).f1)) rfl)) hb); replace HB := Aside0.mk (below_step (by repeat (first | (with_reducible first | exact HB.out | apply below_alloc | apply pw_below_drewN | apply below_drew1 | refine below_set ?_ GE340.out) | exact HB.out)) hb); (try clear hb); (try clear hb2); (try clear hk); (try clear hi); obtain ⟨hcz20_0, hcz20_1, hfz20_0, hfz20_1⟩ := blk_c2 BK340.out)))
        go_meet
        case rel => exact ⟨_, (decide (((rd_T55 l0_1 x3_1).f1) > 3)), (by first | rfl | (simp; done) | (simp [*]; done) | grind), H', ⟨by have := HK1.out; first | omega | exact Nat.le_refl _⟩, ⟨pl_blk BK337.out⟩, ⟨pl_blk BK340.out⟩, ⟨pl_below HB.out⟩⟩
      ·replace c11 := Bool.eq_false_iff.mpr c11
       subst c11
       rw [if_neg (show ¬ (false = true) by decide)] at H
       have H' := Aside0.mk H
       clear H
       have hnb21 := NB340_337.out
       have hnc21 := NB337_340.out
       obtain ⟨hcz22_0, hcz22_1, hfz22_0, hfz22_1⟩ := blk_c2 BK340.out
       go_wp2_with (first | (go_at_call 24; (with_reducible refine (auguryref05_Word.calls k1 ((rd_T55 l0_1 x3_1).f0) false _ A10.out).mono ?_); rintro e w23 ⟨rfl, hb⟩; replace hb := Drawn0.below hb; replace BK337 := Aside0.mk (blk_below (pl_blk (blk_far (p := ⟨gb340, 1, none⟩) (blk_far (p := ⟨gb340, 0, none⟩) BK337.out NB337_340.out (.string ((rd_T55 l0_1 x3_1).f0))) NB337_340.out (.int .i64 ((rd_T55 l0_1 x3_1).f1)))) hb); replace BK340 := Aside0.mk (blk_below (pl_blk (blk_put (blk_put BK340.out 0 (.string ((rd_T55 l0_1 x3_1).f0)) rfl) 1 (.int .i64 ((rd_T55 l0_1 x3_1).f1)) rfl)) hb); replace HB := Aside0.mk (below_step (by repeat (first | (with_reducible first | exact HB.out | apply below_alloc | apply pw_below_drewN | apply below_drew1 | refine below_set ?_ GE340.out) | exact HB.out)) hb); (try clear hb); (try clear hb2); (try clear hk); (try clear hi)))
       repeat (go_quiet (first | (go_at_call 24; (with_reducible refine (auguryref05_Word.calls k1 ((rd_T55 l0_1 x3_1).f0) false _ A10.out).mono ?_); rintro e w23 ⟨rfl, hb⟩; replace hb := Drawn0.below hb; replace BK337 := Aside0.mk (blk_below (pl_blk (blk_far (p := ⟨gb340, 1, none⟩) (blk_far (p := ⟨gb340, 0, none⟩) BK337.out NB337_340.out (.string ((rd_T55 l0_1 x3_1).f0))) NB337_340.out (.int .i64 ((rd_T55 l0_1 x3_1).f1)))) hb); replace BK340 := Aside0.mk (blk_below (pl_blk (blk_put (blk_put BK340.out 0 (.string ((rd_T55 l0_1 x3_1).f0)) rfl) 1 (.int .i64 ((rd_T55 l0_1 x3_1).f1)) rfl)) hb); replace HB := Aside0.mk (below_step (by repeat (first | (with_reducible first | exact HB.out | apply below_alloc | apply pw_below_drewN | apply below_drew1 | refine below_set ?_ GE340.out) | exact HB.out)) hb); (try clear hb); (try clear hb2); (try clear hk); (try clear hi))); try go_wp2_with (first | (go_at_call 24; (with_reducible refine (auguryref05_Word.calls k1 ((rd_T55 l0_1 x3_1).f0) false _ A10.out).mono ?_); rintro e w23 ⟨rfl, hb⟩; replace hb := Drawn0.below hb; replace BK337 := Aside0.mk (blk_below (pl_blk (blk_far (p := ⟨gb340, 1, none⟩) (blk_far (p := ⟨gb340, 0, none⟩) BK337.out NB337_340.out (.string ((rd_T55 l0_1 x3_1).f0))) NB337_340.out (.int .i64 ((rd_T55 l0_1 x3_1).f1)))) hb); replace BK340 := Aside0.mk (blk_below (pl_blk (blk_put (blk_put BK340.out 0 (.string ((rd_T55 l0_1 x3_1).f0)) rfl) 1 (.int .i64 ((rd_T55 l0_1 x3_1).f1)) rfl)) hb); replace HB := Aside0.mk (below_step (by repeat (first | (with_reducible first | exact HB.out | apply below_alloc | apply pw_below_drewN | apply below_drew1 | refine below_set ?_ GE340.out) | exact HB.out)) hb); (try clear hb); (try clear hb2); (try clear hk); (try clear hi))))
       go_meet
       case rel => exact ⟨_, (true), (by first | rfl | (simp; done) | (simp [*]; done) | grind), H', ⟨by have := HK1.out; first | omega | exact Nat.le_refl _⟩, ⟨pl_blk BK337.out⟩, ⟨pl_blk BK340.out⟩, ⟨pl_below HB.out⟩⟩
     case rest =>
      clear HC5
      (try clear c1); (try clear c2); (try clear p2); (try clear c3); (try clear c3b0); (try clear p3); (try clear q3); (try clear hx3); (try clear c4); (try clear c4b0); (try clear c8); (try clear c11); (try clear c12); (try clear c12b0); (try clear c12b1); (try clear c13); (try clear c17); (try clear c21); (try clear hx339_0); (try clear hx339_1); (try clear p339); (try clear q339); (try clear hcz14_0 hcz14_1 hfz14_0 hfz14_1); (try clear hcz16_0 hcz16_1 hfz16_0 hfz16_1); (try clear hcz18_0 hcz18_1 hfz18_0 hfz18_1); (try clear hcz20_0 hcz20_1 hfz20_0 hfz20_1); (try clear hcz22_0 hcz22_1 hfz22_0 hfz22_1); (try clear hcz6_0 hcz6_1 hfz6_0 hfz6_1); (try clear hcz9_0 hcz9_1 hfz9_0 hfz9_1)
      obtain ⟨kq, x31_4, rfl, HA, HJ4, BK337, BK340, HB⟩ := hcut
      cases kq with
      | zero => exact absurd HA.out (by simp [auguryref05_Schema.j1])
      | succ kj4 =>
       have H := HA.out
       clear HA
       simp only [auguryref05_Schema.j1] at H
       by_cases c24 : x31_4 = true
       ·subst c24
        rw [if_pos rfl] at H
        obtain rfl := Option.some.inj H
        go_wp2
        repeat (go_quiet (fail); try go_wp2)
        go_ret
        exact ⟨by first | rfl | (simp [errW_none, errW_some] <;> rfl) | (simp [*, errW_none, errW_some] <;> rfl), pl_below HB.out⟩
       ·replace c24 := Bool.eq_false_iff.mpr c24
        subst c24
        rw [if_neg (show ¬ (false = true) by decide)] at H
        have H' := Aside0.mk H
        clear H
        go_wp2
        repeat (go_quiet (fail); try go_wp2)
        go_loopg [5] kj4 (fun kq v5 w' => ∃ (x5_3 : Int), v5 = .int .i64 x5_3 ∧ Aside0 (auguryref05_Schema.l1 kq x3_1 x5_3 a0_0 l0_1 ((rd_T55 l0_1 x3_1).f0) ((rd_T55 l0_1 x3_1).f1) = some r) ∧ Aside0 (kq ≤ kj4) ∧ Aside0 (w'.heap[gb337]? = some (.cells #[.string a0_0, (.slice (some ad339) l0_1.length c0_1)] 31 (0, 0))) ∧ Aside0 (w'.heap[gb340]? = some (.cells #[.string ((rd_T55 l0_1 x3_1).f0), .int .i64 ((rd_T55 l0_1 x3_1).f1)] 55 (0, 0))) ∧ Aside0 (Below w.heap.size w w'))
        case atStart => exact ⟨(0), (by first | rfl | (simp; done) | (simp [*]; done) | grind), H', ⟨Nat.le_refl _⟩, ⟨pl_blk BK337.out⟩, ⟨pl_blk BK340.out⟩, ⟨pl_below HB.out⟩⟩
        case round =>
         clear H'
         (try clear c1); (try clear c2); (try clear p2); (try clear c3); (try clear c3b0); (try clear p3); (try clear q3); (try clear hx3); (try clear c4); (try clear c4b0); (try clear c8); (try clear c11); (try clear c12); (try clear c12b0); (try clear c12b1); (try clear c13); (try clear c17); (try clear c21); (try clear c24); (try clear hx339_0); (try clear hx339_1); (try clear p339); (try clear q339); (try clear hcz14_0 hcz14_1 hfz14_0 hfz14_1); (try clear hcz16_0 hcz16_1 hfz16_0 hfz16_1); (try clear hcz18_0 hcz18_1 hfz18_0 hfz18_1); (try clear hcz20_0 hcz20_1 hfz20_0 hfz20_1); (try clear hcz22_0 hcz22_1 hfz22_0 hfz22_1); (try clear hcz6_0 hcz6_1 hfz6_0 hfz6_1); (try clear hcz9_0 hcz9_1 hfz9_0 hfz9_1)
         obtain ⟨x5_3, rfl, HA, HK3, BK337, BK340, HB⟩ := hrel
         cases gk with
         | zero => exact absurd HA.out (by simp [auguryref05_Schema.l1])
         | succ k3 =>
          have H := HA.out
          clear HA
          simp only [auguryref05_Schema.l1] at H
          by_cases c25 : x5_3 < x3_1
          ·rw [if_pos c25] at H
           have c25b0 : decide (x5_3 < x3_1) = true := decide_eq_true c25
           clear c25
           by_cases c26 : 0 ≤ x5_3; rotate_left
           ·rw [if_neg c26] at H; cases H
           rw [if_pos c26] at H
           have c26b0 : decide (0 ≤ x5_3) = true := decide_eq_true c26
           clear c26
           by_cases c27 : x5_3 < (l0_1.length : Int); rotate_left
           ·rw [if_neg c27] at H; cases H
           rw [if_pos c27] at H
           have c27b0 : decide (x5_3 < (l0_1.length : Int)) = true := decide_eq_true c27
           clear c27
           by_cases c28 : ((rd_T55 l0_1 x5_3).f0).toList = ((rd_T55 l0_1 x3_1).f0).toList
           ·rw [if_pos c28] at H
            have c28b0 : (((rd_T55 l0_1 x5_3).f0).toList == ((rd_T55 l0_1 x3_1).f0).toList) = true := beq_iff_eq.mpr c28
            have c28b1 : (((rd_T55 l0_1 x5_3).f0).toList != ((rd_T55 l0_1 x3_1).f0).toList) = false := bne_eq_false_iff_eq.mpr c28
            clear c28
            obtain rfl := Option.some.inj H
            have hnb29 := NB337_340.out
            have hnc29 := NB340_337.out
            obtain ⟨hcz30_0, hcz30_1, hfz30_0, hfz30_1⟩ := blk_c2 BK337.out
            have p342 : 0 ≤ (x5_3 : Int) := of_decide_eq_true (by first | (with_reducible assumption) | assumption)
            have q342 : x5_3 < (l0_1.length : Int) := of_decide_eq_true (by first | (with_reducible assumption) | assumption)
            obtain ⟨ad342, e342, hx342_0, hx342_1⟩ := at_T55 HR0_1.out x5_3 p342 q342
            obtain rfl : ad339 = ad342 := (by injection e342)
            replace hx342_0 := (HB.out.cell (World.block_lt_of_cell? w _ hx342_0)).trans hx342_0
            replace hx342_1 := (HB.out.cell (World.block_lt_of_cell? w _ hx342_1)).trans hx342_1
            replace p342 := eq_true p342
            replace q342 := eq_true q342
            obtain ⟨hcz31_0, hcz31_1, hfz31_0, hfz31_1⟩ := blk_c2 BK340.out
            go_wp2
            repeat (go_quiet (fail); try go_wp2)
            go_ret
            exact ⟨by first | rfl | (simp [errW_none, errW_some] <;> rfl) | (simp [*, errW_none, errW_some] <;> rfl), pl_below HB.out⟩
           ·rw [if_neg c28] at H
            have c28b0 : (((rd_T55 l0_1 x5_3).f0).toList == ((rd_T55 l0_1 x3_1).f0).toList) = false := beq_eq_false_iff_ne.mpr c28
            have c28b1 : (((rd_T55 l0_1 x5_3).f0).toList != ((rd_T55 l0_1 x3_1).f0).toList) = true := bne_iff_ne.mpr c28
            have H' := Aside0.mk H
            clear H
            have hnb32 := NB337_340.out
            have hnc32 := NB340_337.out
            obtain ⟨hcz33_0, hcz33_1, hfz33_0, hfz33_1⟩ := blk_c2 BK337.out
            have p342 : 0 ≤ (x5_3 : Int) := of_decide_eq_true (by first | (with_reducible assumption) | assumption)
            have q342 : x5_3 < (l0_1.length : Int) := of_decide_eq_true (by first | (with_reducible assumption) | assumption)
            obtain ⟨ad342, e342, hx342_0, hx342_1⟩ := at_T55 HR0_1.out x5_3 p342 q342
            obtain rfl : ad339 = ad342 := (by injection e342)
            replace hx342_0 := (HB.out.cell (World.block_lt_of_cell? w _ hx342_0)).trans hx342_0
            replace hx342_1 := (HB.out.cell (World.block_lt_of_cell? w _ hx342_1)).trans hx342_1
            replace p342 := eq_true p342
            replace q342 := eq_true q342
            obtain ⟨hcz34_0, hcz34_1, hfz34_0, hfz34_1⟩ := blk_c2 BK340.out
            go_wp2
            repeat (go_quiet (fail); try go_wp2)
            go_roundg k3
            case measure => have := HK1.out; have := HJ4.out; have := HK3.out; omega
            case rel => exact ⟨(wrap64 (x5_3 + 1)), (by first | rfl | (simp; done) | (simp [*]; done) | grind), H', ⟨by have := HK1.out; have := HJ4.out; have := HK3.out; omega⟩, ⟨pl_blk BK337.out⟩, ⟨pl_blk BK340.out⟩, ⟨pl_below HB.out⟩⟩
          ·rw [if_neg c25] at H
           have c25b0 : decide (x5_3 < x3_1) = false := decide_eq_false c25
           clear c25
           have H' := Aside0.mk H
           clear H
           go_wp2
           repeat (go_quiet (fail); try go_wp2)
           go_roundg k3
           case measure => have := HK1.out; have := HJ4.out; have := HK3.out; omega
           case rel => exact ⟨(wrap64 (x3_1 + 1)), (by first | rfl | (simp; done) | (simp [*]; done) | grind), H', ⟨by have := HK1.out; have := HJ4.out; have := HK3.out; omega⟩, ⟨pl_blk BK337.out⟩, ⟨pl_below HB.out⟩⟩
    ·rw [if_neg c3] at H
     have c3b0 : decide (x3_1 < (l0_1.length : Int)) = false := decide_eq_false c3
     clear c3
     replace H := Option.bind_eq_some_iff.mp H
     obtain ⟨t338, A35, H⟩ := H
     (try dsimp only at H)
     replace A35 := Aside0.mk A35
     by_cases c36 : t338 = true
     ·subst c36
      rw [if_pos rfl] at H
      obtain rfl := Option.some.inj H
      obtain ⟨hcz37_0, hcz37_1, hfz37_0, hfz37_1⟩ := blk_c2 BK337.out
      go_wp2_with (first | (go_at_call 24; (with_reducible refine (auguryref05_Word.calls k1 a0_0 true _ A35.out).mono ?_); rintro e w' ⟨rfl, ⟨nd, rfl⟩⟩; (try first | exact ⟨rfl, _, World.drewN_drewN _ _ _⟩ | exact ⟨rfl, _, Eq.trans (World.drewN_drewN _ _ _) (congrArg (World.drewN _) (Nat.add_assoc _ _ _))⟩)))
      repeat (go_quiet (first | (go_at_call 24; (with_reducible refine (auguryref05_Word.calls k1 a0_0 true _ A35.out).mono ?_); rintro e w' ⟨rfl, ⟨nd, rfl⟩⟩; (try first | exact ⟨rfl, _, World.drewN_drewN _ _ _⟩ | exact ⟨rfl, _, Eq.trans (World.drewN_drewN _ _ _) (congrArg (World.drewN _) (Nat.add_assoc _ _ _))⟩))); try go_wp2_with (first | (go_at_call 24; (with_reducible refine (auguryref05_Word.calls k1 a0_0 true _ A35.out).mono ?_); rintro e w' ⟨rfl, ⟨nd, rfl⟩⟩; (try first | exact ⟨rfl, _, World.drewN_drewN _ _ _⟩ | exact ⟨rfl, _, Eq.trans (World.drewN_drewN _ _ _) (congrArg (World.drewN _) (Nat.add_assoc _ _ _))⟩))))
      go_ret
      exact ⟨by first | rfl | (simp [errW_none, errW_some] <;> rfl) | (simp [*, errW_none, errW_some] <;> rfl), pl_below HB.out⟩
     ·replace c36 := Bool.eq_false_iff.mpr c36
      subst c36
      rw [if_neg (show ¬ (false = true) by decide)] at H
      obtain rfl := Option.some.inj H
      obtain ⟨hcz38_0, hcz38_1, hfz38_0, hfz38_1⟩ := blk_c2 BK337.out
      go_wp2_with (first | (go_at_call 24; (with_reducible refine (auguryref05_Word.calls k1 a0_0 false _ A35.out).mono ?_); rintro e w' ⟨rfl, ⟨nd, rfl⟩⟩; (try first | exact ⟨rfl, _, World.drewN_drewN _ _ _⟩ | exact ⟨rfl, _, Eq.trans (World.drewN_drewN _ _ _) (congrArg (World.drewN _) (Nat.add_assoc _ _ _))⟩)))
      repeat (go_quiet (first | (go_at_call 24; (with_reducible refine (auguryref05_Word.calls k1 a0_0 false _ A35.out).mono ?_); rintro e w' ⟨rfl, ⟨nd, rfl⟩⟩; (try first | exact ⟨rfl, _, World.drewN_drewN _ _ _⟩ | exact ⟨rfl, _, Eq.trans (World.drewN_drewN _ _ _) (congrArg (World.drewN _) (Nat.add_assoc _ _ _))⟩))); try go_wp2_with (first | (go_at_call 24; (with_reducible refine (auguryref05_Word.calls k1 a0_0 false _ A35.out).mono ?_); rintro e w' ⟨rfl, ⟨nd, rfl⟩⟩; (try first | exact ⟨rfl, _, World.drewN_drewN _ _ _⟩ | exact ⟨rfl, _, Eq.trans (World.drewN_drewN _ _ _) (congrArg (World.drewN _) (Nat.add_assoc _ _ _))⟩))))
      go_ret
      exact ⟨by first | rfl | (simp [errW_none, errW_some] <;> rfl) | (simp [*, errW_none, errW_some] <;> rfl), pl_below HB.out⟩

end Go.Proofs.Ytbnjhmcbkocdjaa.PAll
