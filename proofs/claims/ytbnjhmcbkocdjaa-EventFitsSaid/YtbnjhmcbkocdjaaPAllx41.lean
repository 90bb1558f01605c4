/- Written by this session's own program (wip/xprint): functions of the Go program as Lean functions, and proofs that the Go code computes them. -/
import Derived.Test.YtbnjhmcbkocdjaaPAllx0
import Derived.Test.YtbnjhmcbkocdjaaPAllx37
import Derived.Test.YtbnjhmcbkocdjaaPAllx40
namespace Go.Proofs.Ytbnjhmcbkocdjaa.PAll
open Go.RowKit Go.Proofs.YtbnjhmcbkocdjaaW.PrintWords Go.Proofs.YtbnjhmcbkocdjaaW.PrintLast Go.Proofs.YtbnjhmcbkocdjaaW.PrintMore
attribute [local go_sem] max2_int min2_int max_two min_two max_three min_three max_four min_four   -- for this text's walks alone
set_option linter.unusedVariables false
set_option linter.unusedSimpArgs false

/-! ### auguryref05_Right: function 38 -/
mutual
def auguryref05_Right.j0 : Nat → Bool → Int → Int → Int → ByteArray → List (S52) → Option (Bool)
  | 0, _, _, _, _, _, _ => none
  | k + 1, x37, x349000, x349001, x349002, x349003, x349004 => if x37 = true then (some false) else (auguryref05_Right.l0 k 0 x349000 x349001 x349002 x349003 x349004)
def auguryref05_Right.l0 : Nat → Int → Int → Int → Int → ByteArray → List (S52) → Option (Bool)
  | 0, _, _, _, _, _, _ => none
  | k + 1, x3, x349000, x349001, x349002, x349003, x349004 => if x3 < (x349004.length : Int) then (if 0 ≤ x3 then ((auguryref04_Right.f ((rd_T52 x349004 x3).f0) ((rd_T52 x349004 x3).f1) ((rd_T52 x349004 x3).f2)).bind fun t351 => (if t351 = true then (auguryref05_Right.l0 k (wrap64 (x3 + 1)) x349000 x349001 x349002 x349003 x349004) else (some false))) else (none)) else (some (decide ((x349004.length : Int) ≤ 8)))
end
def auguryref05_Right.f (k : Nat) (a0_0 : Int) (a0_1 : Int) (a0_2 : Int) (a0_3 : ByteArray) (l0_4 : List (S52)) : Option (Bool) := if a0_0 < 0 then (auguryref05_Right.j0 k true a0_0 a0_1 a0_2 a0_3 l0_4) else (if a0_0 > 1099511627776 then (auguryref05_Right.j0 k true a0_0 a0_1 a0_2 a0_3 l0_4) else (if a0_2 < 0 then (auguryref05_Right.j0 k true a0_0 a0_1 a0_2 a0_3 l0_4) else (if a0_2 > 1099511627776 then (auguryref05_Right.j0 k true a0_0 a0_1 a0_2 a0_3 l0_4) else (if a0_1 < 0 then (auguryref05_Right.j0 k true a0_0 a0_1 a0_2 a0_3 l0_4) else (if a0_1 > 3 then (auguryref05_Right.j0 k true a0_0 a0_1 a0_2 a0_3 l0_4) else ((auguryref05_Word.f k a0_3).bind fun t349 => (auguryref05_Right.j0 k (!t349) a0_0 a0_1 a0_2 a0_3 l0_4)))))))
theorem auguryref05_Right.mono_l : ∀ k, (∀ y0 y1 y2 y3 y4 y5, LeO (auguryref05_Right.j0 k y0 y1 y2 y3 y4 y5) (auguryref05_Right.j0 (k + 1) y0 y1 y2 y3 y4 y5)) ∧ (∀ y0 y1 y2 y3 y4 y5, LeO (auguryref05_Right.l0 k y0 y1 y2 y3 y4 y5) (auguryref05_Right.l0 (k + 1) y0 y1 y2 y3 y4 y5))
  | 0 => ⟨fun _ _ _ _ _ _ r h => by simp [auguryref05_Right.j0] at h, fun _ _ _ _ _ _ r h => by simp [auguryref05_Right.l0] at h⟩
  | k + 1 => by
    obtain ⟨ih0, ih1⟩ := auguryref05_Right.mono_l k
    refine ⟨?_, ?_⟩
    · intro y0 y1 y2 y3 y4 y5
      unfold auguryref05_Right.j0
      repeat' first
      | (with_reducible exact ih0 _ _ _ _ _ _)
      | (with_reducible exact ih1 _ _ _ _ _ _)
      | (with_reducible exact auguryref05_Word.mono _ _)
      | (with_reducible exact LeO.refl _)
      | (with_reducible exact LeO.none _)
      | (with_reducible refine LeO.ite ?_ ?_)
      | (with_reducible refine LeO.bind ?_ (fun _ => ?_))
      | exact LeO.none _
      | refine LeO.ite ?_ ?_
      | refine LeO.bind ?_ (fun _ => ?_)
    · intro y0 y1 y2 y3 y4 y5
      unfold auguryref05_Right.l0
      repeat' first
      | (with_reducible exact ih0 _ _ _ _ _ _)
      | (with_reducible exact ih1 _ _ _ _ _ _)
      | (with_reducible exact auguryref05_Word.mono _ _)
      | (with_reducible exact LeO.refl _)
      | (with_reducible exact LeO.none _)
      | (with_reducible refine LeO.ite ?_ ?_)
      | (with_reducible refine LeO.bind ?_ (fun _ => ?_))
      | exact LeO.none _
      | refine LeO.ite ?_ ?_
      | refine LeO.bind ?_ (fun _ => ?_)
theorem auguryref05_Right.mono : ∀ a0 a1 a2 a3 a4 k, LeO (auguryref05_Right.f k a0 a1 a2 a3 a4) (auguryref05_Right.f (k + 1) a0 a1 a2 a3 a4) := by
  intro a0 a1 a2 a3 a4 k
  obtain ⟨ih0, ih1⟩ := auguryref05_Right.mono_l k
  unfold auguryref05_Right.f
  repeat' first
      | (with_reducible exact ih0 _ _ _ _ _ _)
      | (with_reducible exact ih1 _ _ _ _ _ _)
      | (with_reducible exact auguryref05_Word.mono _ _)
      | (with_reducible exact LeO.refl _)
      | (with_reducible exact LeO.none _)
      | (with_reducible refine LeO.ite ?_ ?_)
      | (with_reducible refine LeO.bind ?_ (fun _ => ?_))
      | exact LeO.none _
      | refine LeO.ite ?_ ?_
      | refine LeO.bind ?_ (fun _ => ?_)
set_option maxHeartbeats 8000000 in
set_option maxRecDepth 100000 in
theorem auguryref05_Right.calls (k : Nat) (a0_0 : Int) (a0_1 : Int) (a0_2 : Int) (a0_3 : ByteArray) (A0_4 : Option Addr) (c0_4 : Nat) (l0_4 : List (S52)) (r : Bool) (w : World) (hr0_4 : Kd.C k52 w A0_4 l0_4.length l0_4) (hc0_4 : l0_4.length ≤ c0_4) (h : auguryref05_Right.f k a0_0 a0_1 a0_2 a0_3 l0_4 = some r) :
    Calls Try.prog 38 #[.agg #[.int .i64 a0_0, .int .i64 a0_1, .int .i64 a0_2, .string a0_3, .slice A0_4 l0_4.length c0_4]] w fun e w' => e = .returned (.bool r) ∧ Below w.heap.size w w' := by
  have hu25 := Try.underlying25
  have hu52 := Try.underlying52
  have HR0_4 := Aside0.mk hr0_4
  have HC0_4 := Aside0.mk hc0_4
  clear hr0_4 hc0_4
  have HB := Aside0.mk (Below.refl w.heap.size w)
  have H : (if a0_0 < 0 then (auguryref05_Right.j0 k true a0_0 a0_1 a0_2 a0_3 l0_4) else (if a0_0 > 1099511627776 then (auguryref05_Right.j0 k true a0_0 a0_1 a0_2 a0_3 l0_4) else (if a0_2 < 0 then (auguryref05_Right.j0 k true a0_0 a0_1 a0_2 a0_3 l0_4) else (if a0_2 > 1099511627776 then (auguryref05_Right.j0 k true a0_0 a0_1 a0_2 a0_3 l0_4) else (if a0_1 < 0 then (auguryref05_Right.j0 k true a0_0 a0_1 a0_2 a0_3 l0_4) else (if a0_1 > 3 then (auguryref05_Right.j0 k true a0_0 a0_1 a0_2 a0_3 l0_4) else ((auguryref05_Word.f k a0_3).bind fun t349 => (auguryref05_Right.j0 k (!t349) a0_0 a0_1 a0_2 a0_3 l0_4)))))))) = some r := h
  clear h
  have HC2 := Aside0.mk H
  clear H
  go_enter Try.func38, Try.ntmps38
  go_upto_region 1 with (first | ((with_reducible refine gate_dst (N := 1) rfl ?_); refine box_event ?hg (N := 1) ?hd (cs := #[.int .i64 a0_0, .int .i64 a0_1, .int .i64 a0_2, .string a0_3, .slice A0_4 l0_4.length c0_4]) (t := 25) ?hr ?_; (case hd => rfl); (case hg => rfl); (case hr => first | (go_simp; done) | (go_simp; rfl)); intro gb348 hg w3 hbox hb; have BK348 := Aside0.mk (hbox); have GW348 := hG HB hg; have GE348 := hG HB hg; replace HB := hB HB hb; clear hb hbox hg))
  (try simp only [Act.put, List.setIfInBounds_toArray, List.set_cons_zero, List.set_cons_succ])
  go_cut [37] (fun v37 wc => ∃ (kq : Nat) (x37_1 : Bool), v37 = .bool x37_1 ∧ Aside0 (auguryref05_Right.j0 kq x37_1 a0_0 a0_1 a0_2 a0_3 l0_4 = some r) ∧ Aside0 (kq ≤ k) ∧ Aside0 (wc.heap[gb348]? = some (.cells #[.int .i64 a0_0, .int .i64 a0_1, .int .i64 a0_2, .string a0_3, (.slice A0_4 l0_4.length c0_4)] 25 (0, 0))) ∧ Aside0 (Below w.heap.size w wc))
  case first =>
   have H := HC2.out
   clear HC2
   by_cases c4 : a0_0 < 0
   ·rw [if_pos c4] at H
    have c4b0 : decide (a0_0 < 0) = true := decide_eq_true c4
    clear c4
    (first | rw [c4b0] | (simp only [i64_w, i32_w]; rw [c4b0]) | rw [c4b1] | skip)
    have H' := Aside0.mk H
    clear H
    obtain ⟨hcz5_0, hcz5_1, hcz5_2, hcz5_3, hcz5_4, hfz5_0, hfz5_1, hfz5_2, hfz5_3, hfz5_4⟩ := blk_c5 BK348.out
    go_wp2
    go_meet
    case rel => exact ⟨_, (true), (by first | rfl | (simp; done) | (simp [*]; done) | grind), H', ⟨by first | omega | exact Nat.le_refl _⟩, ⟨pl_blk BK348.out⟩, ⟨pl_below HB.out⟩⟩
   ·rw [if_neg c4] at H
    have c4b0 : decide (a0_0 < 0) = false := decide_eq_false c4
    clear c4
    (first | rw [c4b0] | (simp only [i64_w, i32_w]; rw [c4b0]) | rw [c4b1] | skip)
    by_cases c6 : a0_0 > 1099511627776
    ·rw [if_pos c6] at H
     have c6b0 : decide (1099511627776 < a0_0) = true := decide_eq_true c6
     clear c6
     have H' := Aside0.mk H
     clear H
     obtain ⟨hcz7_0, hcz7_1, hcz7_2, hcz7_3, hcz7_4, hfz7_0, hfz7_1, hfz7_2, hfz7_3, hfz7_4⟩ := blk_c5 BK348.out
     go_wp2
     go_meet
     case rel => exact ⟨_, (true), (by first | rfl | (simp; done) | (simp [*]; done) | grind), H', ⟨by first | omega | exact Nat.le_refl _⟩, ⟨pl_blk BK348.out⟩, ⟨pl_below HB.out⟩⟩
    ·rw [if_neg c6] at H
     have c6b0 : decide (1099511627776 < a0_0) = false := decide_eq_false c6
     clear c6
     by_cases c8 : a0_2 < 0
     ·rw [if_pos c8] at H
      have c8b0 : decide (a0_2 < 0) = true := decide_eq_true c8
      clear c8
      have H' := Aside0.mk H
      clear H
      obtain ⟨hcz9_0, hcz9_1, hcz9_2, hcz9_3, hcz9_4, hfz9_0, hfz9_1, hfz9_2, hfz9_3, hfz9_4⟩ := blk_c5 BK348.out
      go_wp2
      go_meet
      case rel => exact ⟨_, (true), (by first | rfl | (simp; done) | (simp [*]; done) | grind), H', ⟨by first | omega | exact Nat.le_refl _⟩, ⟨pl_blk BK348.out⟩, ⟨pl_below HB.out⟩⟩
     ·rw [if_neg c8] at H
      have c8b0 : decide (a0_2 < 0) = false := decide_eq_false c8
      clear c8
      by_cases c10 : a0_2 > 1099511627776
      ·rw [if_pos c10] at H
       have c10b0 : decide (1099511627776 < a0_2) = true := decide_eq_true c10
       clear c10
       have H' := Aside0.mk H
       clear H
       obtain ⟨hcz11_0, hcz11_1, hcz11_2, hcz11_3, hcz11_4, hfz11_0, hfz11_1, hfz11_2, hfz11_3, hfz11_4⟩ := blk_c5 BK348.out
       go_wp2
       go_meet
       case rel => exact ⟨_, (true), (by first | rfl | (simp; done) | (simp [*]; done) | grind), H', ⟨by first | omega | exact Nat.le_refl _⟩, ⟨pl_blk BK348.out⟩, ⟨pl_below HB.out⟩⟩
      ·rw [if_neg c10] at H
       have c10b0 : decide (1099511627776 < a0_2) = false := decide_eq_false c10
       clear c10
       by_cases c12 : a0_1 < 0
       ·rw [if_pos c12] at H
        have c12b0 : decide (a0_1 < 0) = true := decide_eq_true c12
        clear c12
        have H' := Aside0.mk H
        clear H
        obtain ⟨hcz13_0, hcz13_1, hcz13_2, hcz13_3, hcz13_4, hfz13_0, hfz13_1, hfz13_2, hfz13_3, hfz13_4⟩ := blk_c5 BK348.out
        go_wp2
        go_meet
        case rel => exact ⟨_, (true), (by first | rfl | (simp; done) | (simp [*]; done) | grind), H', ⟨by first | omega | exact Nat.le_refl _⟩, ⟨pl_blk BK348.out⟩, ⟨pl_below HB.out⟩⟩
       ·rw [if_neg c12] at H
        have c12b0 : decide (a0_1 < 0) = false := decide_eq_false c12
        clear c12
        by_cases c14 : a0_1 > 3
        ·rw [if_pos c14] at H
         have c14b0 : decide (3 < a0_1) = true := decide_eq_true c14
         clear c14
         have H' := Aside0.mk H
         clear H
         obtain ⟨hcz15_0, hcz15_1, hcz15_2, hcz15_3, hcz15_4, hfz15_0, hfz15_1, hfz15_2, hfz15_3, hfz15_4⟩ := blk_c5 BK348.out
         go_wp2
         go_meet
         case rel => exact ⟨_, (true), (by first | rfl | (simp; done) | (simp [*]; done) | grind), H', ⟨by first | omega | exact Nat.le_refl _⟩, ⟨pl_blk BK348.out⟩, ⟨pl_below HB.out⟩⟩
        ·rw [if_neg c14] at H
         have c14b0 : decide (3 < a0_1) = false := decide_eq_false c14
         clear c14
         replace H := Option.bind_eq_some_iff.mp H
         obtain ⟨t349, A16, H⟩ := H
         (try dsimp only at H)
         replace A16 := Aside0.mk A16
         have H' := Aside0.mk H
         clear H
         obtain ⟨hcz17_0, hcz17_1, hcz17_2, hcz17_3, hcz17_4, hfz17_0, hfz17_1, hfz17_2, hfz17_3, hfz17_4⟩ := blk_c5 BK348.out
         go_wp2_with (first | (go_at_call 24; (with_reducible refine (auguryref05_Word.calls k a0_3 t349 _ A16.out).mono ?_); rintro e w' ⟨rfl, ⟨nd, rfl⟩⟩))
         go_meet
         case rel => exact ⟨_, (!t349), (by first | rfl | (simp; done) | (simp [*]; done) | grind), H', ⟨by first | omega | exact Nat.le_refl _⟩, ⟨pl_blk BK348.out⟩, ⟨pl_below HB.out⟩⟩
  case rest =>
   clear HC2
   (try clear c1); (try clear p2); (try clear c3); (try clear c4); (try clear c4b0); (try clear c4b1); (try clear c5); (try clear c6); (try clear c6b0); (try clear c8); (try clear c8b0); (try clear c10); (try clear c10b0); (try clear c12); (try clear c12b0); (try clear c14); (try clear c14b0); (try clear hcz11_0 hcz11_1 hcz11_2 hcz11_3 hcz11_4 hfz11_0 hfz11_1 hfz11_2 hfz11_3 hfz11_4); (try clear hcz13_0 hcz13_1 hcz13_2 hcz13_3 hcz13_4 hfz13_0 hfz13_1 hfz13_2 hfz13_3 hfz13_4); (try clear hcz15_0 hcz15_1 hcz15_2 hcz15_3 hcz15_4 hfz15_0 hfz15_1 hfz15_2 hfz15_3 hfz15_4); (try clear hcz17_0 hcz17_1 hcz17_2 hcz17_3 hcz17_4 hfz17_0 hfz17_1 hfz17_2 hfz17_3 hfz17_4); (try clear hcz5_0 hcz5_1 hcz5_2 hcz5_3 hcz5_4 hfz5_0 hfz5_1 hfz5_2 hfz5_3 hfz5_4); (try clear hcz7_0 hcz7_1 hcz7_2 hcz7_3 hcz7_4 hfz7_0 hfz7_1 hfz7_2 hfz7_3 hfz7_4); (try clear hcz9_0 hcz9_1 hcz9_2 hcz9_3 hcz9_4 hfz9_0 hfz9_1 hfz9_2 hfz9_3 hfz9_4)
   obtain ⟨kq, x37_1, rfl, HA, HJ1, BK348, HB⟩ := hcut
   cases kq with
   | zero => exact absurd HA.out (by simp [auguryref05_Right.j0])
   | succ kj1 =>
    have H := HA.out
    clear HA
    simp only [auguryref05_Right.j0] at H
    by_cases c18 : x37_1 = true
    ·subst c18
     rw [if_pos rfl] at H
     obtain rfl := Option.some.inj H
     go_wp2
     go_ret
     exact ⟨by first | rfl | (simp [errW_none, errW_some] <;> rfl) | (simp [*, errW_none, errW_some] <;> rfl), pl_below HB.out⟩
    ·replace c18 := Bool.eq_false_iff.mpr c18
     subst c18
     rw [if_neg (show ¬ (false = true) by decide)] at H
     have H' := Aside0.mk H
     clear H
     go_wp2
     go_loopg [3] kj1 (fun kq v3 w' => ∃ (x3_2 : Int), v3 = .int .i64 x3_2 ∧ Aside0 (auguryref05_Right.l0 kq x3_2 a0_0 a0_1 a0_2 a0_3 l0_4 = some r) ∧ Aside0 (kq ≤ kj1) ∧ Aside0 (w'.heap[gb348]? = some (.cells #[.int .i64 a0_0, .int .i64 a0_1, .int .i64 a0_2, .string a0_3, (.slice A0_4 l0_4.length c0_4)] 25 (0, 0))) ∧ Aside0 (Below w.heap.size w w'))
     case atStart => exact ⟨(0), (by first | rfl | (simp; done) | (simp [*]; done) | grind), H', ⟨Nat.le_refl _⟩, ⟨pl_blk BK348.out⟩, ⟨pl_below HB.out⟩⟩
     case round =>
      clear H'
      (try clear c1); (try clear p2); (try clear c3); (try clear c4); (try clear c4b0); (try clear c4b1); (try clear c5); (try clear c6); (try clear c6b0); (try clear c8); (try clear c8b0); (try clear c10); (try clear c10b0); (try clear c12); (try clear c12b0); (try clear c14); (try clear c14b0); (try clear c18); (try clear hcz11_0 hcz11_1 hcz11_2 hcz11_3 hcz11_4 hfz11_0 hfz11_1 hfz11_2 hfz11_3 hfz11_4); (try clear hcz13_0 hcz13_1 hcz13_2 hcz13_3 hcz13_4 hfz13_0 hfz13_1 hfz13_2 hfz13_3 hfz13_4); (try clear hcz15_0 hcz15_1 hcz15_2 hcz15_3 hcz15_4 hfz15_0 hfz15_1 hfz15_2 hfz15_3 hfz15_4); (try clear hcz17_0 hcz17_1 hcz17_2 hcz17_3 hcz17_4 hfz17_0 hfz17_1 hfz17_2 hfz17_3 hfz17_4); (try clear hcz5_0 hcz5_1 hcz5_2 hcz5_3 hcz5_4 hfz5_0 hfz5_1 hfz5_2 hfz5_3 hfz5_4); (try clear hcz7_0 hcz7_1 hcz7_2 hcz7_3 hcz7_4 hfz7_0 hfz7_1 hfz7_2 hfz7_3 hfz7_4); (try clear hcz9_0 hcz9_1 hcz9_2 hcz9_3 hcz9_4 hfz9_0 hfz9_1 hfz9_2 hfz9_3 hfz9_4)
      obtain ⟨x3_2, rfl, HA, HK2, BK348, HB⟩ := hrel
      cases gk with
      | zero => exact absurd HA.out (by simp [auguryref05_Right.l0])
      | succ k2 =>
       have H := HA.out
       clear HA
       simp only [auguryref05_Right.l0] at H
       by_cases c19 : x3_2 < (l0_4.length : Int)
       ·rw [if_pos c19] at H
        have c19b0 : decide (x3_2 < (l0_4.length : Int)) = true := decide_eq_true c19
        clear c19
        by_cases c20 : 0 ≤ x3_2; rotate_left
        ·rw [if_neg c20] at H; cases H
        rw [if_pos c20] at H
        have c20b0 : decide (0 ≤ x3_2) = true := decide_eq_true c20
        clear c20
        replace H := Option.bind_eq_some_iff.mp H
        obtain ⟨t351, A21, H⟩ := H
        (try dsimp only at H)
        replace A21 := Aside0.mk A21
        by_cases c22 : t351 = true
        ·subst c22
         rw [if_pos rfl] at H
         have H' := Aside0.mk H
         clear H
         obtain ⟨hcz23_0, hcz23_1, hcz23_2, hcz23_3, hcz23_4, hfz23_0, hfz23_1, hfz23_2, hfz23_3, hfz23_4⟩ := blk_c5 BK348.out
         have p350 : 0 ≤ (x3_2 : Int) := of_decide_eq_true (by first | (with_reducible assumption) | assumption)
         have q350 : x3_2 < (l0_4.length : Int) := of_decide_eq_true (by first | (with_reducible assumption) | assumption)
         obtain ⟨ad350, e350, hx350_0, hx350_1, hx350_2⟩ := at_T52 HR0_4.out x3_2 p350 q350
         cases e350
         replace hx350_0 := (HB.out.cell (World.block_lt_of_cell? w _ hx350_0)).trans hx350_0
         replace hx350_1 := (HB.out.cell (World.block_lt_of_cell? w _ hx350_1)).trans hx350_1
         replace hx350_2 := (HB.out.cell (World.block_lt_of_cell? w _ hx350_2)).trans hx350_2
         replace p350 := eq_true p350
         replace q350 := eq_true q350
         go_wp2_with (first | ((with_reducible refine gate_callee (f := 30) rfl ?_); refine goesL_ (some 50) rfl rfl Try.func30 (by kernel_rfl) rfl #[.agg #[.int .i64 ((rd_T52 l0_4 x3_2).f0), .int .i64 ((rd_T52 l0_4 x3_2).f1), .string ((rd_T52 l0_4 x3_2).f2)]] rfl (by (try simp only [List.map_toArray, List.map_cons, List.map_nil]); first | done | rfl | (simp only [List.length_drop, List.length_take]; rfl)) ?_; (with_reducible refine (auguryref04_Right.calls ((rd_T52 l0_4 x3_2).f0) ((rd_T52 l0_4 x3_2).f1) ((rd_T52 l0_4 x3_2).f2) true _ A21.out).mono ?_); rintro e w24 ⟨rfl, hb⟩; refine ⟨_, rfl, ?_⟩; replace BK348 := bb BK348 hb; replace HB := hB HB hb; (try clear hb); (try clear hb2); (try clear hk); (try clear hi)))
         go_roundg k2
         case measure => have := HJ1.out; have := HK2.out; omega
         case rel => exact ⟨(wrap64 (x3_2 + 1)), (by first | rfl | (simp; done) | (simp [*]; done) | grind), H', ⟨by have := HJ1.out; have := HK2.out; omega⟩, ⟨pl_blk BK348.out⟩, ⟨pl_below HB.out⟩⟩
        ·replace c22 := Bool.eq_false_iff.mpr c22
         subst c22
         rw [if_neg (show ¬ (false = true) by decide)] at H
         obtain rfl := Option.some.inj H
         obtain ⟨hcz25_0, hcz25_1, hcz25_2, hcz25_3, hcz25_4, hfz25_0, hfz25_1, hfz25_2, hfz25_3, hfz25_4⟩ := blk_c5 BK348.out
         have p350 : 0 ≤ (x3_2 : Int) := of_decide_eq_true (by first | (with_reducible assumption) | assumption)
         have q350 : x3_2 < (l0_4.length : Int) := of_decide_eq_true (by first | (with_reducible assumption) | assumption)
         obtain ⟨ad350, e350, hx350_0, hx350_1, hx350_2⟩ := at_T52 HR0_4.out x3_2 p350 q350
         cases e350
         replace hx350_0 := (HB.out.cell (World.block_lt_of_cell? w _ hx350_0)).trans hx350_0
         replace hx350_1 := (HB.out.cell (World.block_lt_of_cell? w _ hx350_1)).trans hx350_1
         replace hx350_2 := (HB.out.cell (World.block_lt_of_cell? w _ hx350_2)).trans hx350_2
         replace p350 := eq_true p350
         replace q350 := eq_true q350
         go_wp2_with (first | ((with_reducible refine gate_callee (f := 30) rfl ?_); refine goesL_ (some 50) rfl rfl Try.func30 (by kernel_rfl) rfl #[.agg #[.int .i64 ((rd_T52 l0_4 x3_2).f0), .int .i64 ((rd_T52 l0_4 x3_2).f1), .string ((rd_T52 l0_4 x3_2).f2)]] rfl (by (try simp only [List.map_toArray, List.map_cons, List.map_nil]); first | done | rfl | (simp only [List.length_drop, List.length_take]; rfl)) ?_; (with_reducible refine (auguryref04_Right.calls ((rd_T52 l0_4 x3_2).f0) ((rd_T52 l0_4 x3_2).f1) ((rd_T52 l0_4 x3_2).f2) false _ A21.out).mono ?_); rintro e w26 ⟨rfl, hb⟩; refine ⟨_, rfl, ?_⟩; replace BK348 := bb BK348 hb; replace HB := hB HB hb; (try clear hb); (try clear hb2); (try clear hk); (try clear hi)))
         go_ret
         exact ⟨by first | rfl | (simp [errW_none, errW_some] <;> rfl) | (simp [*, errW_none, errW_some] <;> rfl), pl_below HB.out⟩
       ·rw [if_neg c19] at H
        have c19b0 : decide (x3_2 < (l0_4.length : Int)) = false := decide_eq_false c19
        clear c19
        obtain rfl := Option.some.inj H
        obtain ⟨hcz27_0, hcz27_1, hcz27_2, hcz27_3, hcz27_4, hfz27_0, hfz27_1, hfz27_2, hfz27_3, hfz27_4⟩ := blk_c5 BK348.out
        go_wp2
        go_ret
        exact ⟨by first | rfl | (simp [errW_none, errW_some] <;> rfl) | (simp [*, errW_none, errW_some] <;> rfl), pl_below HB.out⟩

end Go.Proofs.Ytbnjhmcbkocdjaa.PAll
