/- Written by this session's own program (wip/xprint): functions of the Go program as Lean functions, and proofs that the Go code computes them. -/
import Derived.Test.YtbnjhmcbkocdjaaPAllx0
import Derived.Test.YtbnjhmcbkocdjaaPAllx8
namespace Go.Proofs.Ytbnjhmcbkocdjaa.PAll
open Go.RowKit Go.Proofs.YtbnjhmcbkocdjaaW.PrintWords Go.Proofs.YtbnjhmcbkocdjaaW.PrintLast Go.Proofs.YtbnjhmcbkocdjaaW.PrintMore
attribute [local go_sem] max2_int min2_int max_two min_two max_three min_three max_four min_four   -- for this text's walks alone
set_option linter.unusedVariables false
set_option linter.unusedSimpArgs false

/-! ### api_Schema__f32: function 31 -/
def api_Schema__f32.l0 : Nat → List (S31) → ByteArray → Int → Int → Option (Int)
  | 0, _, _, _, _ => none
  | k + 1, x0, x1, x7, x8 => if x8 < x7 then (if 0 ≤ x8 then (if x8 < (x0.length : Int) then ((event_Find_1.f ((rd_T31 x0 x8).f0) ((rd_T31 x0 x8).f1) x1).bind fun t110 => (if t110 = true then (some x8) else (api_Schema__f32.l0 k x0 x1 x7 (wrap64 (x8 + 1))))) else (none)) else (none)) else (some (-1))
def api_Schema__f32.f (k : Nat) (l0 : List (S31)) (a1 : ByteArray) : Option (Int) := api_Schema__f32.l0 k l0 a1 (l0.length : Int) 0
theorem api_Schema__f32.mono_l : ∀ k, (∀ y0 y1 y2 y3, LeO (api_Schema__f32.l0 k y0 y1 y2 y3) (api_Schema__f32.l0 (k + 1) y0 y1 y2 y3))
  | 0 => fun _ _ _ _ r h => by simp [api_Schema__f32.l0] at h
  | k + 1 => by
    have ih0 := api_Schema__f32.mono_l k
    · intro y0 y1 y2 y3
      unfold api_Schema__f32.l0
      repeat' first
      | (with_reducible exact ih0 _ _ _ _)
      | (with_reducible exact LeO.refl _)
      | (with_reducible exact LeO.none _)
      | (with_reducible refine LeO.ite ?_ ?_)
      | (with_reducible refine LeO.bind ?_ (fun _ => ?_))
      | exact LeO.none _
      | refine LeO.ite ?_ ?_
      | refine LeO.bind ?_ (fun _ => ?_)
theorem api_Schema__f32.mono : ∀ a0 a1 k, LeO (api_Schema__f32.f k a0 a1) (api_Schema__f32.f (k + 1) a0 a1) := by
  intro a0 a1 k
  have ih0 := api_Schema__f32.mono_l k
  unfold api_Schema__f32.f
  repeat' first
      | (with_reducible exact ih0 _ _ _ _)
      | (with_reducible exact LeO.refl _)
      | (with_reducible exact LeO.none _)
      | (with_reducible refine LeO.ite ?_ ?_)
      | (with_reducible refine LeO.bind ?_ (fun _ => ?_))
      | exact LeO.none _
      | refine LeO.ite ?_ ?_
      | refine LeO.bind ?_ (fun _ => ?_)
set_option maxHeartbeats 8000000 in
set_option maxRecDepth 100000 in
theorem api_Schema__f32.calls (k : Nat) (A0 : Option Addr) (c0 : Nat) (l0 : List (S31)) (gc1 : Nat) (a1 : ByteArray) (r : Int) (w : World) (hr0 : Kd.C k31 w A0 l0.length l0) (hc0 : l0.length ≤ c0) (hcc1 : w.cell? ⟨gc1, 0, none⟩ = some (.string a1)) (h : api_Schema__f32.f k l0 a1 = some r) :
    Calls Try.prog 31 #[.slice A0 l0.length c0, .func (.func 32) #[] #[.pointer (some ⟨gc1, 0, none⟩)]] w fun e w' => e = .returned (.int .i64 r) ∧ Below w.heap.size w w' := by
  have hu31 := Try.underlying31
  have HR0 := Aside0.mk hr0
  have HC0 := Aside0.mk hc0
  clear hr0 hc0
  have HB := Aside0.mk (Below.refl w.heap.size w)
  have H : (api_Schema__f32.l0 k l0 a1 (l0.length : Int) 0) = some r := h
  clear h
  have H' := Aside0.mk H
  clear H
  go_enter Try.func31, Try.ntmps31
  go_wp2
  go_loopg [8] k (fun kq v8 w' => ∃ (x8_1 : Int), v8 = .int .i64 x8_1 ∧ Aside0 (api_Schema__f32.l0 kq l0 a1 (l0.length : Int) x8_1 = some r) ∧ Aside0 (kq ≤ k) ∧ Aside0 (Below w.heap.size w w'))
  case atStart => exact ⟨(0), (by first | rfl | (simp; done) | (simp [*]; done) | grind), H', ⟨Nat.le_refl _⟩, ⟨pl_below HB.out⟩⟩
  case round =>
   clear H'
   (try clear p2)
   obtain ⟨x8_1, rfl, HA, HK1, HB⟩ := hrel
   cases gk with
   | zero => exact absurd HA.out (by simp [api_Schema__f32.l0])
   | succ k1 =>
    have H := HA.out
    clear HA
    simp only [api_Schema__f32.l0] at H
    by_cases c3 : x8_1 < (l0.length : Int)
    ·rw [if_pos c3] at H
     have c3b0 : decide (x8_1 < (l0.length : Int)) = true := decide_eq_true c3
     clear c3
     by_cases c4 : 0 ≤ x8_1; rotate_left
     ·rw [if_neg c4] at H; cases H
     rw [if_pos c4] at H
     have c4b0 : decide (0 ≤ x8_1) = true := decide_eq_true c4
     clear c4
     by_cases c5 : x8_1 < (l0.length : Int); rotate_left
     ·rw [if_neg c5] at H; cases H
     rw [if_pos c5] at H
     have c5b0 : decide (x8_1 < (l0.length : Int)) = true := decide_eq_true c5
     clear c5
     replace H := Option.bind_eq_some_iff.mp H
     obtain ⟨t110, A6, H⟩ := H
     (try dsimp only at H)
     replace A6 := Aside0.mk A6
     by_cases c7 : t110 = true
     ·subst c7
      rw [if_pos rfl] at H
      obtain rfl := Option.some.inj H
      have p109 : 0 ≤ (x8_1 : Int) := of_decide_eq_true (by first | (with_reducible assumption) | assumption)
      have q109 : x8_1 < (l0.length : Int) := of_decide_eq_true (by first | (with_reducible assumption) | assumption)
      obtain ⟨ad109, A109_1, c109_1, e109, hx109_0, hx109_1, hl109_1, hi109_1⟩ := at_T31 HR0.out x8_1 p109 q109
      cases e109
      replace hx109_0 := (HB.out.cell (World.block_lt_of_cell? w _ hx109_0)).trans hx109_0
      replace hx109_1 := (HB.out.cell (World.block_lt_of_cell? w _ hx109_1)).trans hx109_1
      have HR109_1 := Aside0.mk hi109_1
      have HC109_1 := Aside0.mk hl109_1
      clear hi109_1 hl109_1
      replace p109 := eq_true p109
      replace q109 := eq_true q109
      go_wp2_with (first | ((with_reducible refine gate_calleev rfl ?_); refine goesLv_ (some 16) rfl rfl Try.func32 (by kernel_rfl) rfl #[.agg #[.string ((rd_T31 l0 x8_1).f0), .slice A109_1 ((rd_T31 l0 x8_1).f1).length c109_1], .pointer (some ⟨gc1, 0, none⟩)] rfl rfl (by (try simp only [List.map_toArray, List.map_cons, List.map_nil]); first | done | rfl | (simp only [List.length_drop, List.length_take]; rfl)) ?_; (with_reducible refine (event_Find_1.calls ((rd_T31 l0 x8_1).f0) _ _ ((rd_T31 l0 x8_1).f1) gc1 a1 true _ ?side1 ?side2 ?side3 A6.out).mono ?_); (case side1 => repeat (first | exact (Kd.C_below HR109_1.out HB.out) | (with_reducible refine Kd.C_alloc ?_ _) | (with_reducible refine Kd.C_drewN ?_ _) | (with_reducible refine Kd.C_drew ?_))); (case side2 => exact HC109_1.out); (case side3 => exact (((show Below w.heap.size w wr from (pl_below HB.out)).cell (World.block_lt_of_cell? w _ hcc1)).trans hcc1)); rintro e w8 ⟨rfl, hb⟩; refine ⟨_, rfl, ?_⟩; replace HB := hB HB hb; (try clear hb); (try clear hb2); (try clear hk); (try clear hi)))
      go_ret
      exact ⟨by first | rfl | (simp [errW_none, errW_some] <;> rfl) | (simp [*, errW_none, errW_some] <;> rfl), pl_below HB.out⟩
     ·replace c7 := Bool.eq_false_iff.mpr c7
      subst c7
      rw [if_neg (show ¬ (false = true) by decide)] at H
      have H' := Aside0.mk H
      clear H
      have p109 : 0 ≤ (x8_1 : Int) := of_decide_eq_true (by first | (with_reducible assumption) | assumption)
      have q109 : x8_1 < (l0.length : Int) := of_decide_eq_true (by first | (with_reducible assumption) | assumption)
      obtain ⟨ad109, A109_1, c109_1, e109, hx109_0, hx109_1, hl109_1, hi109_1⟩ := at_T31 HR0.out x8_1 p109 q109
      cases e109
      replace hx109_0 := (HB.out.cell (World.block_lt_of_cell? w _ hx109_0)).trans hx109_0
      replace hx109_1 := (HB.out.cell (World.block_lt_of_cell? w _ hx109_1)).trans hx109_1
      have HR109_1 := Aside0.mk hi109_1
      have HC109_1 := Aside0.mk hl109_1
      clear hi109_1 hl109_1
      replace p109 := eq_true p109
      replace q109 := eq_true q109
      go_wp2_with (first | ((with_reducible refine gate_calleev rfl ?_); refine goesLv_ (some 16) rfl rfl Try.func32 (by kernel_rfl) rfl #[.agg #[.string ((rd_T31 l0 x8_1).f0), .slice A109_1 ((rd_T31 l0 x8_1).f1).length c109_1], .pointer (some ⟨gc1, 0, none⟩)] rfl rfl (by (try simp only [List.map_toArray, List.map_cons, List.map_nil]); first | done | rfl | (simp only [List.length_drop, List.length_take]; rfl)) ?_; (with_reducible refine (event_Find_1.calls ((rd_T31 l0 x8_1).f0) _ _ ((rd_T31 l0 x8_1).f1) gc1 a1 false _ ?side1 ?side2 ?side3 A6.out).mono ?_); (case side1 => repeat (first | exact (Kd.C_below HR109_1.out HB.out) | (with_reducible refine Kd.C_alloc ?_ _) | (with_reducible refine Kd.C_drewN ?_ _) | (with_reducible refine Kd.C_drew ?_))); (case side2 => exact HC109_1.out); (case side3 => exact (((show Below w.heap.size w wr from (pl_below HB.out)).cell (World.block_lt_of_cell? w _ hcc1)).trans hcc1)); rintro e w9 ⟨rfl, hb⟩; refine ⟨_, rfl, ?_⟩; replace HB := hB HB hb; (try clear hb); (try clear hb2); (try clear hk); (try clear hi)))
      go_roundg k1
      case measure => have := HK1.out; omega
      case rel => exact ⟨(wrap64 (x8_1 + 1)), (by first | rfl | (simp; done) | (simp [*]; done) | grind), H', ⟨by have := HK1.out; omega⟩, ⟨pl_below HB.out⟩⟩
    ·rw [if_neg c3] at H
     have c3b0 : decide (x8_1 < (l0.length : Int)) = false := decide_eq_false c3
     clear c3
     obtain rfl := Option.some.inj H
     go_wp2
     go_ret
     exact ⟨by first | rfl | (simp [errW_none, errW_some] <;> rfl) | (simp [*, errW_none, errW_some] <;> rfl), pl_below HB.out⟩

end Go.Proofs.Ytbnjhmcbkocdjaa.PAll
