/- Written by this session's own program (wip/xprint): functions of the Go program as Lean functions, and proofs that the Go code computes them. -/
import Derived.Test.YtbnjhmcbkocdjaaPAllx0
import Derived.Test.YtbnjhmcbkocdjaaPAllx41
import Derived.Test.YtbnjhmcbkocdjaaPAllx43
import Derived.Test.YtbnjhmcbkocdjaaPAllx44
namespace Go.Proofs.Ytbnjhmcbkocdjaa.PAll
open Go.RowKit Go.Proofs.YtbnjhmcbkocdjaaW.PrintWords Go.Proofs.YtbnjhmcbkocdjaaW.PrintLast Go.Proofs.YtbnjhmcbkocdjaaW.PrintMore
attribute [local go_sem] max2_int min2_int max_two min_two max_three min_three max_four min_four   -- for this text's walks alone
set_option linter.unusedVariables false
set_option linter.unusedSimpArgs false

/-! ### auguryref05_Put: function 22 -/
def auguryref05_Put.l0 : Nat → List Int → Int → Int → Int → Int → ByteArray → List (S52) → Option (List Int)
  | 0, _, _, _, _, _, _, _ => none
  | k + 1, x3, x4, x395000, x395001, x395002, x395003, x395004 => if x4 < (x395004.length : Int) then (if 0 ≤ x4 then ((auguryref04_Put.f k ((rd_T52 x395004 x4).f0) ((rd_T52 x395004 x4).f1) ((rd_T52 x395004 x4).f2)).bind fun t427 => (if x3.length + t427.length < 140737488355328 then (auguryref05_Put.l0 k (x3 ++ t427) (wrap64 (x4 + 1)) x395000 x395001 x395002 x395003 x395004) else (none))) else (none)) else (some x3)
def auguryref05_Put.f (k : Nat) (a0_0 : Int) (a0_1 : Int) (a0_2 : Int) (a0_3 : ByteArray) (l0_4 : List (S52)) : Option (List Int) := (auguryref05_Right.f k a0_0 a0_1 a0_2 a0_3 l0_4).bind fun t395 => (if t395 = true then ((auguryref04_Digits.f k a0_0).bind fun t396 => ((auguryref04_Digits.f k a0_1).bind fun t399 => (if t396.length + t399.length < 140737488355328 then ((some (t396 ++ t399 : List Int)).bind fun y402 => ((auguryref04_Digits.f k a0_2).bind fun t405 => (if y402.length + t405.length < 140737488355328 then ((some (y402 ++ t405 : List Int)).bind fun y408 => ((auguryref04_Digits.f k (a0_3.size : Int)).bind fun t411 => (if y408.length + t411.length < 140737488355328 then ((some (y408 ++ t411 : List Int)).bind fun y414 => (if y414.length + a0_3.size < 140737488355328 then ((some (y414 ++ bytesOf a0_3 : List Int)).bind fun y417 => ((auguryref04_Digits.f k (l0_4.length : Int)).bind fun t420 => (if y417.length + t420.length < 140737488355328 then (auguryref05_Put.l0 k (y417 ++ t420) 0 a0_0 a0_1 a0_2 a0_3 l0_4) else (none)))) else (none))) else (none)))) else (none)))) else (none)))) else (some ([] : List Int)))
theorem auguryref05_Put.mono_l : ∀ k, (∀ y0 y1 y2 y3 y4 y5 y6, LeO (auguryref05_Put.l0 k y0 y1 y2 y3 y4 y5 y6) (auguryref05_Put.l0 (k + 1) y0 y1 y2 y3 y4 y5 y6))
  | 0 => fun _ _ _ _ _ _ _ r h => by simp [auguryref05_Put.l0] at h
  | k + 1 => by
    have ih0 := auguryref05_Put.mono_l k
    · intro y0 y1 y2 y3 y4 y5 y6
      unfold auguryref05_Put.l0
      repeat' first
      | (with_reducible exact ih0 _ _ _ _ _ _ _)
      | (with_reducible exact auguryref04_Digits.mono _ _)
      | (with_reducible exact auguryref04_Put.mono _ _ _ _)
      | (with_reducible exact auguryref05_Right.mono _ _ _ _ _ _)
      | (with_reducible exact LeO.refl _)
      | (with_reducible exact LeO.none _)
      | (with_reducible refine LeO.ite ?_ ?_)
      | (with_reducible refine LeO.bind ?_ (fun _ => ?_))
      | exact LeO.none _
      | refine LeO.ite ?_ ?_
      | refine LeO.bind ?_ (fun _ => ?_)
theorem auguryref05_Put.mono : ∀ a0 a1 a2 a3 a4 k, LeO (auguryref05_Put.f k a0 a1 a2 a3 a4) (auguryref05_Put.f (k + 1) a0 a1 a2 a3 a4) := by
  intro a0 a1 a2 a3 a4 k
  have ih0 := auguryref05_Put.mono_l k
  unfold auguryref05_Put.f
  repeat' first
      | (with_reducible exact ih0 _ _ _ _ _ _ _)
      | (with_reducible exact auguryref04_Digits.mono _ _)
      | (with_reducible exact auguryref04_Put.mono _ _ _ _)
      | (with_reducible exact auguryref05_Right.mono _ _ _ _ _ _)
      | (with_reducible exact LeO.refl _)
      | (with_reducible exact LeO.none _)
      | (with_reducible refine LeO.ite ?_ ?_)
      | (with_reducible refine LeO.bind ?_ (fun _ => ?_))
      | exact LeO.none _
      | refine LeO.ite ?_ ?_
      | refine LeO.bind ?_ (fun _ => ?_)
set_option maxHeartbeats 8000000 in
set_option maxRecDepth 100000 in
theorem auguryref05_Put.calls (k : Nat) (a0_0 : Int) (a0_1 : Int) (a0_2 : Int) (a0_3 : ByteArray) (A0_4 : Option Addr) (c0_4 : Nat) (l0_4 : List (S52)) (r : List Int) (w : World) (hr0_4 : Kd.C k52 w A0_4 l0_4.length l0_4) (hc0_4 : l0_4.length ≤ c0_4) (h : auguryref05_Put.f k a0_0 a0_1 a0_2 a0_3 l0_4 = some r) :
    Calls Try.prog 22 #[.agg #[.int .i64 a0_0, .int .i64 a0_1, .int .i64 a0_2, .string a0_3, .slice A0_4 l0_4.length c0_4]] w fun e w' => ∃ v0_ : Value, e = .returned (v0_) ∧ Kd.R (Kd.int .u8) 5 w' w.heap.size (fun _ => True) v0_ r ∧ Below w.heap.size w w' := by
  have hu25 := Try.underlying25
  have hu52 := Try.underlying52
  have HR0_4 := Aside0.mk hr0_4
  have HC0_4 := Aside0.mk hc0_4
  clear hr0_4 hc0_4
  have HB := Aside0.mk (Below.refl w.heap.size w)
  have H : ((auguryref05_Right.f k a0_0 a0_1 a0_2 a0_3 l0_4).bind fun t395 => (if t395 = true then ((auguryref04_Digits.f k a0_0).bind fun t396 => ((auguryref04_Digits.f k a0_1).bind fun t399 => (if t396.length + t399.length < 140737488355328 then ((some (t396 ++ t399 : List Int)).bind fun y402 => ((auguryref04_Digits.f k a0_2).bind fun t405 => (if y402.length + t405.length < 140737488355328 then ((some (y402 ++ t405 : List Int)).bind fun y408 => ((auguryref04_Digits.f k (a0_3.size : Int)).bind fun t411 => (if y408.length + t411.length < 140737488355328 then ((some (y408 ++ t411 : List Int)).bind fun y414 => (if y414.length + a0_3.size < 140737488355328 then ((some (y414 ++ bytesOf a0_3 : List Int)).bind fun y417 => ((auguryref04_Digits.f k (l0_4.length : Int)).bind fun t420 => (if y417.length + t420.length < 140737488355328 then (auguryref05_Put.l0 k (y417 ++ t420) 0 a0_0 a0_1 a0_2 a0_3 l0_4) else (none)))) else (none))) else (none)))) else (none)))) else (none)))) else (some ([] : List Int)))) = some r := h
  clear h
  replace H := Option.bind_eq_some_iff.mp H
  obtain ⟨t395, A2, H⟩ := H
  (try dsimp only at H)
  replace A2 := Aside0.mk A2
  by_cases c3 : t395 = true
  ·subst c3
   rw [if_pos rfl] at H
   replace H := Option.bind_eq_some_iff.mp H
   obtain ⟨t396, A4, H⟩ := H
   (try dsimp only at H)
   replace A4 := Aside0.mk A4
   replace H := Option.bind_eq_some_iff.mp H
   obtain ⟨t399, A5, H⟩ := H
   (try dsimp only at H)
   replace A5 := Aside0.mk A5
   by_cases c6 : t396.length + t399.length < 140737488355328; rotate_left
   ·rw [if_neg c6] at H; cases H
   rw [if_pos c6] at H
   have LMc6 := Aside0.mk c6
   clear c6
   obtain ⟨y402, hy402⟩ : ∃ y_ : List Int, y_ = (t396 ++ t399) := ⟨_, rfl⟩
   replace H : ((auguryref04_Digits.f k a0_2).bind fun t405 => (if y402.length + t405.length < 140737488355328 then ((some (y402 ++ t405 : List Int)).bind fun y408 => ((auguryref04_Digits.f k (a0_3.size : Int)).bind fun t411 => (if y408.length + t411.length < 140737488355328 then ((some (y408 ++ t411 : List Int)).bind fun y414 => (if y414.length + a0_3.size < 140737488355328 then ((some (y414 ++ bytesOf a0_3 : List Int)).bind fun y417 => ((auguryref04_Digits.f k (l0_4.length : Int)).bind fun t420 => (if y417.length + t420.length < 140737488355328 then (auguryref05_Put.l0 k (y417 ++ t420) 0 a0_0 a0_1 a0_2 a0_3 l0_4) else (none)))) else (none))) else (none)))) else (none))) = some r := by first | (rw [hy402]; with_reducible exact H) | (have H2_ := (Option.bind_some _ _).symm.trans H; rw [hy402]; with_reducible exact H2_) | (have H2_ := (Option.bind_some _ _).symm.trans H; with_reducible exact H2_) | with_reducible exact H | (rw [hy402]; exact H) | exact H
   have Ny402 := Aside0.mk hy402
   clear hy402
   replace H := Option.bind_eq_some_iff.mp H
   obtain ⟨t405, A7, H⟩ := H
   (try dsimp only at H)
   replace A7 := Aside0.mk A7
   by_cases c8 : y402.length + t405.length < 140737488355328; rotate_left
   ·rw [if_neg c8] at H; cases H
   rw [if_pos c8] at H
   have LMc8 := Aside0.mk c8
   clear c8
   obtain ⟨y408, hy408⟩ : ∃ y_ : List Int, y_ = (y402 ++ t405) := ⟨_, rfl⟩
   replace H : ((auguryref04_Digits.f k (a0_3.size : Int)).bind fun t411 => (if y408.length + t411.length < 140737488355328 then ((some (y408 ++ t411 : List Int)).bind fun y414 => (if y414.length + a0_3.size < 140737488355328 then ((some (y414 ++ bytesOf a0_3 : List Int)).bind fun y417 => ((auguryref04_Digits.f k (l0_4.length : Int)).bind fun t420 => (if y417.length + t420.length < 140737488355328 then (auguryref05_Put.l0 k (y417 ++ t420) 0 a0_0 a0_1 a0_2 a0_3 l0_4) else (none)))) else (none))) else (none))) = some r := by first | (rw [hy408]; with_reducible exact H) | (have H2_ := (Option.bind_some _ _).symm.trans H; rw [hy408]; with_reducible exact H2_) | (have H2_ := (Option.bind_some _ _).symm.trans H; with_reducible exact H2_) | with_reducible exact H | (rw [hy408]; exact H) | exact H
   have Ny408 := Aside0.mk hy408
   clear hy408
   replace H := Option.bind_eq_some_iff.mp H
   obtain ⟨t411, A9, H⟩ := H
   (try dsimp only at H)
   replace A9 := Aside0.mk A9
   by_cases c10 : y408.length + t411.length < 140737488355328; rotate_left
   ·rw [if_neg c10] at H; cases H
   rw [if_pos c10] at H
   have LMc10 := Aside0.mk c10
   clear c10
   obtain ⟨y414, hy414⟩ : ∃ y_ : List Int, y_ = (y408 ++ t411) := ⟨_, rfl⟩
   replace H : (if y414.length + a0_3.size < 140737488355328 then ((some (y414 ++ bytesOf a0_3 : List Int)).bind fun y417 => ((auguryref04_Digits.f k (l0_4.length : Int)).bind fun t420 => (if y417.length + t420.length < 140737488355328 then (auguryref05_Put.l0 k (y417 ++ t420) 0 a0_0 a0_1 a0_2 a0_3 l0_4) else (none)))) else (none)) = some r := by first | (rw [hy414]; with_reducible exact H) | (have H2_ := (Option.bind_some _ _).symm.trans H; rw [hy414]; with_reducible exact H2_) | (have H2_ := (Option.bind_some _ _).symm.trans H; with_reducible exact H2_) | with_reducible exact H | (rw [hy414]; exact H) | exact H
   have Ny414 := Aside0.mk hy414
   clear hy414
   by_cases c11 : y414.length + a0_3.size < 140737488355328; rotate_left
   ·rw [if_neg c11] at H; cases H
   rw [if_pos c11] at H
   have LMc11 := Aside0.mk c11
   clear c11
   obtain ⟨y417, hy417⟩ : ∃ y_ : List Int, y_ = (y414 ++ bytesOf a0_3) := ⟨_, rfl⟩
   replace H : ((auguryref04_Digits.f k (l0_4.length : Int)).bind fun t420 => (if y417.length + t420.length < 140737488355328 then (auguryref05_Put.l0 k (y417 ++ t420) 0 a0_0 a0_1 a0_2 a0_3 l0_4) else (none))) = some r := by first | (rw [hy417]; with_reducible exact H) | (have H2_ := (Option.bind_some _ _).symm.trans H; rw [hy417]; with_reducible exact H2_) | (have H2_ := (Option.bind_some _ _).symm.trans H; with_reducible exact H2_) | with_reducible exact H | (rw [hy417]; exact H) | exact H
   have Ny417 := Aside0.mk hy417
   clear hy417
   replace H := Option.bind_eq_some_iff.mp H
   obtain ⟨t420, A12, H⟩ := H
   (try dsimp only at H)
   replace A12 := Aside0.mk A12
   by_cases c13 : y417.length + t420.length < 140737488355328; rotate_left
   ·rw [if_neg c13] at H; cases H
   rw [if_pos c13] at H
   have LMc13 := Aside0.mk c13
   clear c13
   obtain ⟨y423, hy423⟩ : ∃ y_ : List Int, y_ = (y417 ++ t420) := ⟨_, rfl⟩
   replace H : (auguryref05_Put.l0 k y423 0 a0_0 a0_1 a0_2 a0_3 l0_4) = some r := by first | (rw [hy423]; with_reducible exact H) | (have H2_ := (Option.bind_some _ _).symm.trans H; rw [hy423]; with_reducible exact H2_) | (have H2_ := (Option.bind_some _ _).symm.trans H; with_reducible exact H2_) | with_reducible exact H | (rw [hy423]; exact H) | exact H
   have Ny423 := Aside0.mk hy423
   clear hy423
   have H' := Aside0.mk H
   clear H
   go_enter Try.func22, Try.ntmps22
   go_wp2_with (first | ((with_reducible refine gate_dst (N := 1) rfl ?_); refine box_event ?hg (N := 1) ?hd (cs := #[.int .i64 a0_0, .int .i64 a0_1, .int .i64 a0_2, .string a0_3, .slice A0_4 l0_4.length c0_4]) (t := 25) ?hr ?_; (case hd => rfl); (case hg => rfl); (case hr => first | (go_simp; done) | (go_simp; rfl)); intro gb394 hg w14 hbox hb; have BK394 := Aside0.mk (hbox); have GW394 := hG HB hg; have GE394 := hG HB hg; replace HB := hB HB hb; clear hb hbox hg; obtain ⟨hcz15_0, hcz15_1, hcz15_2, hcz15_3, hcz15_4, hfz15_0, hfz15_1, hfz15_2, hfz15_3, hfz15_4⟩ := blk_c5 BK394.out) | ((with_reducible refine gate_callee (f := 38) rfl ?_); refine goesL_ (some 6) rfl rfl Try.func38 (by kernel_rfl) rfl #[.agg #[.int .i64 a0_0, .int .i64 a0_1, .int .i64 a0_2, .string a0_3, .slice A0_4 l0_4.length c0_4]] rfl (by (try simp only [List.map_toArray, List.map_cons, List.map_nil]); first | done | rfl | (simp only [List.length_drop, List.length_take]; rfl)) ?_; (with_reducible refine (auguryref05_Right.calls k a0_0 a0_1 a0_2 a0_3 _ _ l0_4 true _ ?side1 ?side2 A2.out).mono ?_); (case side1 => repeat (first | exact (Kd.C_below HR0_4.out HB.out) | (with_reducible refine Kd.C_alloc ?_ _) | (with_reducible refine Kd.C_drewN ?_ _) | (with_reducible refine Kd.C_drew ?_))); (case side2 => exact HC0_4.out); rintro e w16 ⟨rfl, hb⟩; refine ⟨_, rfl, ?_⟩; replace BK394 := bb BK394 hb; replace HB := hB HB hb; (try clear hb); (try clear hb2); (try clear hk); (try clear hi); obtain ⟨hcz17_0, hcz17_1, hcz17_2, hcz17_3, hcz17_4, hfz17_0, hfz17_1, hfz17_2, hfz17_3, hfz17_4⟩ := blk_c5 BK394.out) | ((with_reducible refine gate_callee (f := 42) rfl ?_); refine goesL_ (some 10) rfl rfl Try.func42 (by kernel_rfl) rfl #[.int .i64 a0_0] rfl (by (try simp only [List.map_toArray, List.map_cons, List.map_nil]); first | done | rfl | (simp only [List.length_drop, List.length_take]; rfl)) ?_; (with_reducible refine (auguryref04_Digits.calls k a0_0 t396 _ A4.out).mono ?_); rintro e w18 ⟨v397, rfl, ho0, hb⟩; refine ⟨_, rfl, ?_⟩; have HO398 := Aside0.mk (Kd.R_lower ho0 (below_size (pl_below HB.out))); replace BK394 := bb BK394 hb; replace HB := hB HB hb; (try clear hb); (try clear hb2); (try clear hk); (try clear hi); (try clear ho0); obtain ⟨hcz19_0, hcz19_1, hcz19_2, hcz19_3, hcz19_4, hfz19_0, hfz19_1, hfz19_2, hfz19_3, hfz19_4⟩ := blk_c5 BK394.out) | ((with_reducible refine gate_callee (f := 42) rfl ?_); refine goesL_ (some 14) rfl rfl Try.func42 (by kernel_rfl) rfl #[.int .i64 a0_1] rfl (by (try simp only [List.map_toArray, List.map_cons, List.map_nil]); first | done | rfl | (simp only [List.length_drop, List.length_take]; rfl)) ?_; (with_reducible refine (auguryref04_Digits.calls k a0_1 t399 _ A5.out).mono ?_); rintro e w20 ⟨v400, rfl, ho0, hb⟩; refine ⟨_, rfl, ?_⟩; have HO401 := Aside0.mk (Kd.R_lower (Kd.R_new' ho0 (Kd.R_lt (Kd.pl_R HO398.out))) (below_size (pl_below HB.out))); replace HO398 := Aside0.mk (Kd.R_elder' (Kd.pl_R HO398.out) (Kd.R_base ho0) hb); replace BK394 := bb BK394 hb; replace HB := hB HB hb; (try clear hb); (try clear hb2); (try clear hk); (try clear hi); (try clear ho0); obtain ⟨Ao22, co22, eo22⟩ := Kd.R_slice HO401.out; subst eo22) | ((with_reducible refine gate_builtin (b := .append) (xs := #[.tmp 11, .tmp 14]) rfl ?_); at_builtin; refine Kd.R_append_rows (Kd.int .u8) (w0 := w) w.heap.size rfl (.tmp 11) (.tmp 14) 40 5 (.int .u8 0) 1 rfl Try.underlying40 info5 rfl (by decide) (by omega) v397 t396 t399 _ _ _ (fun k_ => some k_ ≠ (.slice Ao22 t399.length co22 : Value).ownBlock) (fun _ => False) rfl rfl ?aO ?aR (fun _ _ h => h) (fun _ h => h.elim) ?aF ?aB ?aS ?aL ?_; (case aR => repeat (first | exact (Kd.R_reads' HO401.out).2.2 | (with_reducible refine Kd.C_alloc ?_ _) | (with_reducible refine Kd.C_drewN ?_ _) | (with_reducible refine Kd.C_drew ?_))); (case aB => exact (pl_below HB.out)); (case aF => exact (fun k_ hk => Kd.fresh' (Kd.R_lt (Kd.pl_R HO401.out)) k_ hk)); (case aO => exact (by (with_reducible repeat (first | apply Kd.R_alloc | apply Kd.R_drewN | apply Kd.R_drew)); exact Kd.R_mono HO398.out (fun _ hk => hk.2))); (case aS => exact (below_size (pl_below HB.out))); (case aL => have := LMc6.out; omega); intro v403 w21 ho hb hg hat; rw [← Ny402.out] at ho; replace BK394 := Aside0.mk (blk_grown (pl_blk BK394.out) hg (Kd.R_ne HO398.out BK394.out (by decide))); replace HO401 := Aside0.mk (Kd.R_after (ok := (fun _ => True)) (Kd.pl_R HO401.out) hg hat); replace HB := Aside0.mk (hb); have HO404 := Aside0.mk (ho); clear HO398; clear ho hb hg hat; obtain ⟨hcz23_0, hcz23_1, hcz23_2, hcz23_3, hcz23_4, hfz23_0, hfz23_1, hfz23_2, hfz23_3, hfz23_4⟩ := blk_c5 BK394.out) | ((with_reducible refine gate_callee (f := 42) rfl ?_); refine goesL_ (some 19) rfl rfl Try.func42 (by kernel_rfl) rfl #[.int .i64 a0_2] rfl (by (try simp only [List.map_toArray, List.map_cons, List.map_nil]); first | done | rfl | (simp only [List.length_drop, List.length_take]; rfl)) ?_; (with_reducible refine (auguryref04_Digits.calls k a0_2 t405 _ A7.out).mono ?_); rintro e w24 ⟨v406, rfl, ho0, hb⟩; refine ⟨_, rfl, ?_⟩; have HO407 := Aside0.mk (Kd.R_lower (Kd.R_new' (Kd.R_new' ho0 (Kd.R_lt (Kd.pl_R HO401.out))) (Kd.R_lt (Kd.pl_R HO404.out))) (below_size (pl_below HB.out))); replace HO401 := Aside0.mk (Kd.R_elder' (Kd.pl_R HO401.out) (Kd.R_base ho0) hb); replace HO404 := Aside0.mk (Kd.R_elder' (Kd.pl_R HO404.out) (Kd.R_base ho0) hb); replace BK394 := bb BK394 hb; replace HB := hB HB hb; (try clear hb); (try clear hb2); (try clear hk); (try clear hi); (try clear ho0); obtain ⟨Ao26, co26, eo26⟩ := Kd.R_slice HO407.out; subst eo26) | ((with_reducible refine gate_builtin (b := .append) (xs := #[.tmp 16, .tmp 19]) rfl ?_); at_builtin; refine Kd.R_append_rows (Kd.int .u8) (w0 := w) w.heap.size rfl (.tmp 16) (.tmp 19) 40 5 (.int .u8 0) 1 rfl Try.underlying40 info5 rfl (by decide) (by omega) v403 y402 t405 _ _ _ (fun k_ => some k_ ≠ (.slice Ao22 t399.length co22 : Value).ownBlock ∧ some k_ ≠ (.slice Ao26 t405.length co26 : Value).ownBlock) (fun _ => False) rfl rfl ?aO ?aR (fun _ _ h => h) (fun _ h => h.elim) ?aF ?aB ?aS ?aL ?_; (case aR => repeat (first | exact (Kd.R_reads' HO407.out).2.2 | (with_reducible refine Kd.C_alloc ?_ _) | (with_reducible refine Kd.C_drewN ?_ _) | (with_reducible refine Kd.C_drew ?_))); (case aB => exact (pl_below HB.out)); (case aF => exact (fun k_ hk => ⟨Kd.fresh' (Kd.R_lt (Kd.pl_R HO401.out)) k_ hk, Kd.fresh' (Kd.R_lt (Kd.pl_R HO407.out)) k_ hk⟩)); (case aO => exact (Kd.pl_R HO404.out)); (case aS => exact (below_size (pl_below HB.out))); (case aL => have := LMc8.out; omega); intro v409 w25 ho hb hg hat; rw [← Ny408.out] at ho; replace BK394 := Aside0.mk (blk_grown (pl_blk BK394.out) hg (Kd.R_ne HO404.out BK394.out (by decide))); replace HO401 := Aside0.mk (Kd.R_after (ok := (fun k_ => some k_ ≠ (.slice Ao26 t405.length co26 : Value).ownBlock)) (by (with_reducible repeat (first | apply Kd.R_alloc | apply Kd.R_drewN | apply Kd.R_drew)); exact Kd.R_mono HO401.out (fun _ hk => ⟨hk.2, hk.1.2⟩)) hg hat); replace HO407 := Aside0.mk (Kd.R_after (ok := (fun k_ => some k_ ≠ (.slice Ao22 t399.length co22 : Value).ownBlock)) (by (with_reducible repeat (first | apply Kd.R_alloc | apply Kd.R_drewN | apply Kd.R_drew)); exact Kd.R_mono HO407.out (fun _ hk => ⟨hk.1.2, hk.2⟩)) hg hat); replace HB := Aside0.mk (hb); have HO410 := Aside0.mk (ho); clear HO404; clear ho hb hg hat; obtain ⟨hcz27_0, hcz27_1, hcz27_2, hcz27_3, hcz27_4, hfz27_0, hfz27_1, hfz27_2, hfz27_3, hfz27_4⟩ := blk_c5 BK394.out) | ((with_reducible refine gate_callee (f := 42) rfl ?_); refine goesL_ (some 25) rfl rfl Try.func42 (by kernel_rfl) rfl #[.int .i64 (a0_3.size : Int)] rfl (by (try simp only [List.map_toArray, List.map_cons, List.map_nil]); first | done | rfl | (simp only [List.length_drop, List.length_take]; rfl)) ?_; (with_reducible refine (auguryref04_Digits.calls k (a0_3.size : Int) t411 _ A9.out).mono ?_); rintro e w28 ⟨v412, rfl, ho0, hb⟩; refine ⟨_, rfl, ?_⟩; have HO413 := Aside0.mk (Kd.R_lower (Kd.R_new' (Kd.R_new' (Kd.R_new' ho0 (Kd.R_lt (Kd.pl_R HO401.out))) (Kd.R_lt (Kd.pl_R HO407.out))) (Kd.R_lt (Kd.pl_R HO410.out))) (below_size (pl_below HB.out))); replace HO401 := Aside0.mk (Kd.R_elder' (Kd.pl_R HO401.out) (Kd.R_base ho0) hb); replace HO407 := Aside0.mk (Kd.R_elder' (Kd.pl_R HO407.out) (Kd.R_base ho0) hb); replace HO410 := Aside0.mk (Kd.R_elder' (Kd.pl_R HO410.out) (Kd.R_base ho0) hb); replace BK394 := bb BK394 hb; replace HB := hB HB hb; (try clear hb); (try clear hb2); (try clear hk); (try clear hi); (try clear ho0); obtain ⟨Ao30, co30, eo30⟩ := Kd.R_slice HO413.out; subst eo30) | ((with_reducible refine gate_builtin (b := .append) (xs := #[.tmp 21, .tmp 25]) rfl ?_); at_builtin; refine Kd.R_append_rows (Kd.int .u8) (w0 := w) w.heap.size rfl (.tmp 21) (.tmp 25) 40 5 (.int .u8 0) 1 rfl Try.underlying40 info5 rfl (by decide) (by omega) v409 y408 t411 _ _ _ (fun k_ => some k_ ≠ (.slice Ao22 t399.length co22 : Value).ownBlock ∧ some k_ ≠ (.slice Ao26 t405.length co26 : Value).ownBlock ∧ some k_ ≠ (.slice Ao30 t411.length co30 : Value).ownBlock) (fun _ => False) rfl rfl ?aO ?aR (fun _ _ h => h) (fun _ h => h.elim) ?aF ?aB ?aS ?aL ?_; (case aR => repeat (first | exact (Kd.R_reads' HO413.out).2.2 | (with_reducible refine Kd.C_alloc ?_ _) | (with_reducible refine Kd.C_drewN ?_ _) | (with_reducible refine Kd.C_drew ?_))); (case aB => exact (pl_below HB.out)); (case aF => exact (fun k_ hk => ⟨Kd.fresh' (Kd.R_lt (Kd.pl_R HO401.out)) k_ hk, Kd.fresh' (Kd.R_lt (Kd.pl_R HO407.out)) k_ hk, Kd.fresh' (Kd.R_lt (Kd.pl_R HO413.out)) k_ hk⟩)); (case aO => exact (by (with_reducible repeat (first | apply Kd.R_alloc | apply Kd.R_drewN | apply Kd.R_drew)); exact Kd.R_mono HO410.out (fun _ hk => ⟨hk.1.1, ⟨hk.1.2, hk.2⟩⟩))); (case aS => exact (below_size (pl_below HB.out))); (case aL => have := LMc10.out; omega); intro v415 w29 ho hb hg hat; rw [← Ny414.out] at ho; replace BK394 := Aside0.mk (blk_grown (pl_blk BK394.out) hg (Kd.R_ne HO410.out BK394.out (by decide))); replace HO401 := Aside0.mk (Kd.R_after (ok := (fun k_ => some k_ ≠ (.slice Ao26 t405.length co26 : Value).ownBlock ∧ some k_ ≠ (.slice Ao30 t411.length co30 : Value).ownBlock)) (by (with_reducible repeat (first | apply Kd.R_alloc | apply Kd.R_drewN | apply Kd.R_drew)); exact Kd.R_mono HO401.out (fun _ hk => ⟨⟨hk.1.1, hk.2⟩, hk.1.2⟩)) hg hat); replace HO407 := Aside0.mk (Kd.R_after (ok := (fun k_ => some k_ ≠ (.slice Ao22 t399.length co22 : Value).ownBlock ∧ some k_ ≠ (.slice Ao30 t411.length co30 : Value).ownBlock)) (by (with_reducible repeat (first | apply Kd.R_alloc | apply Kd.R_drewN | apply Kd.R_drew)); exact Kd.R_mono HO407.out (fun _ hk => ⟨⟨hk.1.1, hk.2⟩, hk.1.2⟩)) hg hat); replace HO413 := Aside0.mk (Kd.R_after (ok := (fun k_ => some k_ ≠ (.slice Ao22 t399.length co22 : Value).ownBlock ∧ some k_ ≠ (.slice Ao26 t405.length co26 : Value).ownBlock)) (by (with_reducible repeat (first | apply Kd.R_alloc | apply Kd.R_drewN | apply Kd.R_drew)); exact Kd.R_mono HO413.out (fun _ hk => ⟨⟨hk.1.1.2, hk.1.2⟩, hk.2⟩)) hg hat); replace HB := Aside0.mk (hb); have HO416 := Aside0.mk (ho); clear HO410; clear ho hb hg hat; obtain ⟨hcz31_0, hcz31_1, hcz31_2, hcz31_3, hcz31_4, hfz31_0, hfz31_1, hfz31_2, hfz31_3, hfz31_4⟩ := blk_c5 BK394.out) | (at_builtin; refine print_append_str (w0 := w) w.heap.size rfl (.tmp 27) _ 40 9 5 rfl Try.underlying40 Try.underlying9 info5 v415 y414 a0_3 rfl rfl ?aO ?aB ?aS ?aL ?_; (case aB => exact (pl_below HB.out)); (case aO => exact (Kd.own_of_R (by (with_reducible repeat (first | apply Kd.R_alloc | apply Kd.R_drewN | apply Kd.R_drew)); exact Kd.R_mono HO416.out (fun _ hk => trivial)))); (case aS => exact (below_size (pl_below HB.out))); (case aL => have := LMc11.out; omega); intro v418 w32 ho0 hb hg; have ho := Kd.R_of_own (h1 := fun _ => rfl) (ok := fun _ => True) ho0 (fun _ _ => trivial); clear ho0; have hat := True.intro; rw [← Ny417.out] at ho; change Kd.R (Kd.int .u8) 5 w32 w.heap.size (fun _ => True) v418 y417 at ho; replace BK394 := Aside0.mk (blk_grown (pl_blk BK394.out) hg (Kd.R_ne HO416.out BK394.out (by decide))); replace HB := Aside0.mk (hb); have HO419 := Aside0.mk (ho); clear HO416; clear ho hb hg hat; obtain ⟨hcz33_0, hcz33_1, hcz33_2, hcz33_3, hcz33_4, hfz33_0, hfz33_1, hfz33_2, hfz33_3, hfz33_4⟩ := blk_c5 BK394.out) | ((with_reducible refine gate_callee (f := 42) rfl ?_); refine goesL_ (some 35) rfl rfl Try.func42 (by kernel_rfl) rfl #[.int .i64 (l0_4.length : Int)] rfl (by (try simp only [List.map_toArray, List.map_cons, List.map_nil]); first | done | rfl | (simp only [List.length_drop, List.length_take]; rfl)) ?_; (with_reducible refine (auguryref04_Digits.calls k (l0_4.length : Int) t420 _ A12.out).mono ?_); rintro e w34 ⟨v421, rfl, ho0, hb⟩; refine ⟨_, rfl, ?_⟩; have HO422 := Aside0.mk (Kd.R_lower (Kd.R_new' ho0 (Kd.R_lt (Kd.pl_R HO419.out))) (below_size (pl_below HB.out))); replace HO419 := Aside0.mk (Kd.R_elder' (Kd.pl_R HO419.out) (Kd.R_base ho0) hb); replace BK394 := bb BK394 hb; replace HB := hB HB hb; (try clear hb); (try clear hb2); (try clear hk); (try clear hi); (try clear ho0); obtain ⟨Ao36, co36, eo36⟩ := Kd.R_slice HO422.out; subst eo36) | ((with_reducible refine gate_builtin (b := .append) (xs := #[.tmp 31, .tmp 35]) rfl ?_); at_builtin; refine Kd.R_append_rows (Kd.int .u8) (w0 := w) w.heap.size rfl (.tmp 31) (.tmp 35) 40 5 (.int .u8 0) 1 rfl Try.underlying40 info5 rfl (by decide) (by omega) v418 y417 t420 _ _ _ (fun k_ => some k_ ≠ (.slice Ao36 t420.length co36 : Value).ownBlock) (fun _ => False) rfl rfl ?aO ?aR (fun _ _ h => h) (fun _ h => h.elim) ?aF ?aB ?aS ?aL ?_; (case aR => repeat (first | exact (Kd.R_reads' HO422.out).2.2 | (with_reducible refine Kd.C_alloc ?_ _) | (with_reducible refine Kd.C_drewN ?_ _) | (with_reducible refine Kd.C_drew ?_))); (case aB => exact (pl_below HB.out)); (case aF => exact (fun k_ hk => Kd.fresh' (Kd.R_lt (Kd.pl_R HO422.out)) k_ hk)); (case aO => exact (by (with_reducible repeat (first | apply Kd.R_alloc | apply Kd.R_drewN | apply Kd.R_drew)); exact Kd.R_mono HO419.out (fun _ hk => hk.2))); (case aS => exact (below_size (pl_below HB.out))); (case aL => have := LMc13.out; omega); intro v424 w35 ho hb hg hat; rw [← Ny423.out] at ho; replace BK394 := Aside0.mk (blk_grown (pl_blk BK394.out) hg (Kd.R_ne HO419.out BK394.out (by decide))); replace HO422 := Aside0.mk (Kd.R_after (ok := (fun _ => True)) (Kd.pl_R HO422.out) hg hat); replace HB := Aside0.mk (hb); have HO425 := Aside0.mk (ho); clear HO419; clear ho hb hg hat))
   go_loopg [3, 4] k (fun kq v3 v4 w' => ∃ (x3_1 : List Int) (x4_1 : Int), v4 = .int .i64 x4_1 ∧ Aside0 (auguryref05_Put.l0 kq x3_1 x4_1 a0_0 a0_1 a0_2 a0_3 l0_4 = some r) ∧ Aside0 (kq ≤ k) ∧ Aside0 (Kd.R (Kd.int .u8) 5 w' w.heap.size (fun _ => True) v3 x3_1) ∧ Aside0 (w'.heap[gb394]? = some (.cells #[.int .i64 a0_0, .int .i64 a0_1, .int .i64 a0_2, .string a0_3, (.slice A0_4 l0_4.length c0_4)] 25 (0, 0))) ∧ Aside0 (Below w.heap.size w w'))
   case atStart => exact ⟨(y423), (0), (by first | rfl | (simp; done) | (simp [*]; done) | grind), H', ⟨Nat.le_refl _⟩, ⟨by (with_reducible repeat (first | apply Kd.R_alloc | apply Kd.R_drewN | apply Kd.R_drew)); exact Kd.R_mono HO425.out (fun _ hk => trivial)⟩, ⟨pl_blk BK394.out⟩, ⟨pl_below HB.out⟩⟩
   case round =>
    clear H'
    (try clear c1); (try clear c2); (try clear p2); (try clear c3); (try clear c4); (try clear c5); (try clear c6); (try clear c8); (try clear c10); (try clear c11); (try clear c13); (try clear c22); (try clear hcz15_0 hcz15_1 hcz15_2 hcz15_3 hcz15_4 hfz15_0 hfz15_1 hfz15_2 hfz15_3 hfz15_4); (try clear hcz17_0 hcz17_1 hcz17_2 hcz17_3 hcz17_4 hfz17_0 hfz17_1 hfz17_2 hfz17_3 hfz17_4); (try clear hcz19_0 hcz19_1 hcz19_2 hcz19_3 hcz19_4 hfz19_0 hfz19_1 hfz19_2 hfz19_3 hfz19_4); (try clear hcz23_0 hcz23_1 hcz23_2 hcz23_3 hcz23_4 hfz23_0 hfz23_1 hfz23_2 hfz23_3 hfz23_4); (try clear hcz27_0 hcz27_1 hcz27_2 hcz27_3 hcz27_4 hfz27_0 hfz27_1 hfz27_2 hfz27_3 hfz27_4); (try clear hcz31_0 hcz31_1 hcz31_2 hcz31_3 hcz31_4 hfz31_0 hfz31_1 hfz31_2 hfz31_3 hfz31_4); (try clear hcz33_0 hcz33_1 hcz33_2 hcz33_3 hcz33_4 hfz33_0 hfz33_1 hfz33_2 hfz33_3 hfz33_4)
    obtain ⟨x3_1, x4_1, rfl, HA, HK1, HO_3, BK394, HB⟩ := hrel
    cases gk with
    | zero => exact absurd HA.out (by simp [auguryref05_Put.l0])
    | succ k1 =>
     have H := HA.out
     clear HA
     simp only [auguryref05_Put.l0] at H
     by_cases c37 : x4_1 < (l0_4.length : Int)
     ·rw [if_pos c37] at H
      have c37b0 : decide (x4_1 < (l0_4.length : Int)) = true := decide_eq_true c37
      clear c37
      by_cases c38 : 0 ≤ x4_1; rotate_left
      ·rw [if_neg c38] at H; cases H
      rw [if_pos c38] at H
      have c38b0 : decide (0 ≤ x4_1) = true := decide_eq_true c38
      clear c38
      replace H := Option.bind_eq_some_iff.mp H
      obtain ⟨t427, A39, H⟩ := H
      (try dsimp only at H)
      replace A39 := Aside0.mk A39
      by_cases c40 : x3_1.length + t427.length < 140737488355328; rotate_left
      ·rw [if_neg c40] at H; cases H
      rw [if_pos c40] at H
      have LMc40 := Aside0.mk c40
      clear c40
      obtain ⟨y430, hy430⟩ : ∃ y_ : List Int, y_ = (x3_1 ++ t427) := ⟨_, rfl⟩
      replace H : (auguryref05_Put.l0 k1 y430 (wrap64 (x4_1 + 1)) a0_0 a0_1 a0_2 a0_3 l0_4) = some r := by first | (rw [hy430]; with_reducible exact H) | (have H2_ := (Option.bind_some _ _).symm.trans H; rw [hy430]; with_reducible exact H2_) | (have H2_ := (Option.bind_some _ _).symm.trans H; with_reducible exact H2_) | with_reducible exact H | (rw [hy430]; exact H) | exact H
      have Ny430 := Aside0.mk hy430
      clear hy430
      have H' := Aside0.mk H
      clear H
      obtain ⟨hcz41_0, hcz41_1, hcz41_2, hcz41_3, hcz41_4, hfz41_0, hfz41_1, hfz41_2, hfz41_3, hfz41_4⟩ := blk_c5 BK394.out
      have p426 : 0 ≤ (x4_1 : Int) := of_decide_eq_true (by first | (with_reducible assumption) | assumption)
      have q426 : x4_1 < (l0_4.length : Int) := of_decide_eq_true (by first | (with_reducible assumption) | assumption)
      obtain ⟨ad426, e426, hx426_0, hx426_1, hx426_2⟩ := at_T52 HR0_4.out x4_1 p426 q426
      cases e426
      replace hx426_0 := (HB.out.cell (World.block_lt_of_cell? w _ hx426_0)).trans hx426_0
      replace hx426_1 := (HB.out.cell (World.block_lt_of_cell? w _ hx426_1)).trans hx426_1
      replace hx426_2 := (HB.out.cell (World.block_lt_of_cell? w _ hx426_2)).trans hx426_2
      replace p426 := eq_true p426
      replace q426 := eq_true q426
      go_wp2_with (first | ((with_reducible refine gate_callee (f := 43) rfl ?_); refine goesL_ (some 50) rfl rfl Try.func43 (by kernel_rfl) rfl #[.agg #[.int .i64 ((rd_T52 l0_4 x4_1).f0), .int .i64 ((rd_T52 l0_4 x4_1).f1), .string ((rd_T52 l0_4 x4_1).f2)]] rfl (by (try simp only [List.map_toArray, List.map_cons, List.map_nil]); first | done | rfl | (simp only [List.length_drop, List.length_take]; rfl)) ?_; (with_reducible refine (auguryref04_Put.calls k1 ((rd_T52 l0_4 x4_1).f0) ((rd_T52 l0_4 x4_1).f1) ((rd_T52 l0_4 x4_1).f2) t427 _ A39.out).mono ?_); rintro e w42 ⟨v428, rfl, ho0, hb⟩; refine ⟨_, rfl, ?_⟩; have HO429 := Aside0.mk (Kd.R_lower (Kd.R_new' ho0 (Kd.R_lt (Kd.pl_R HO_3.out))) (below_size (pl_below HB.out))); replace HO_3 := Aside0.mk (Kd.R_elder' (Kd.pl_R HO_3.out) (Kd.R_base ho0) hb); replace BK394 := bb BK394 hb; replace HB := hB HB hb; (try clear hb); (try clear hb2); (try clear hk); (try clear hi); (try clear ho0); obtain ⟨Ao44, co44, eo44⟩ := Kd.R_slice HO429.out; subst eo44) | ((with_reducible refine gate_builtin (b := .append) (xs := #[.tmp 44, .tmp 50]) rfl ?_); at_builtin; refine Kd.R_append_rows (Kd.int .u8) (w0 := w) w.heap.size rfl (.tmp 44) (.tmp 50) 40 5 (.int .u8 0) 1 rfl Try.underlying40 info5 rfl (by decide) (by omega) u3 x3_1 t427 _ _ _ (fun k_ => some k_ ≠ (.slice Ao44 t427.length co44 : Value).ownBlock) (fun _ => False) rfl rfl ?aO ?aR (fun _ _ h => h) (fun _ h => h.elim) ?aF ?aB ?aS ?aL ?_; (case aR => repeat (first | exact (Kd.R_reads' HO429.out).2.2 | (with_reducible refine Kd.C_alloc ?_ _) | (with_reducible refine Kd.C_drewN ?_ _) | (with_reducible refine Kd.C_drew ?_))); (case aB => exact (pl_below HB.out)); (case aF => exact (fun k_ hk => Kd.fresh' (Kd.R_lt (Kd.pl_R HO429.out)) k_ hk)); (case aO => exact (by (with_reducible repeat (first | apply Kd.R_alloc | apply Kd.R_drewN | apply Kd.R_drew)); exact Kd.R_mono HO_3.out (fun _ hk => hk.2))); (case aS => exact (below_size (pl_below HB.out))); (case aL => have := LMc40.out; omega); intro v431 w43 ho hb hg hat; rw [← Ny430.out] at ho; replace BK394 := Aside0.mk (blk_grown (pl_blk BK394.out) hg (Kd.R_ne HO_3.out BK394.out (by decide))); replace HO429 := Aside0.mk (Kd.R_after (ok := (fun _ => True)) (Kd.pl_R HO429.out) hg hat); replace HB := Aside0.mk (hb); have HO432 := Aside0.mk (ho); clear HO_3; clear ho hb hg hat))
      go_roundg k1
      case measure => have := HK1.out; omega
      case rel => exact ⟨(y430), (wrap64 (x4_1 + 1)), (by first | rfl | (simp; done) | (simp [*]; done) | grind), H', ⟨by have := HK1.out; omega⟩, ⟨by (with_reducible repeat (first | apply Kd.R_alloc | apply Kd.R_drewN | apply Kd.R_drew)); exact Kd.R_mono HO432.out (fun _ hk => trivial)⟩, ⟨pl_blk BK394.out⟩, ⟨pl_below HB.out⟩⟩
     ·rw [if_neg c37] at H
      have c37b0 : decide (x4_1 < (l0_4.length : Int)) = false := decide_eq_false c37
      clear c37
      obtain rfl := Option.some.inj H
      obtain ⟨hcz45_0, hcz45_1, hcz45_2, hcz45_3, hcz45_4, hfz45_0, hfz45_1, hfz45_2, hfz45_3, hfz45_4⟩ := blk_c5 BK394.out
      go_wp2
      go_ret
      exact ⟨_, by first | rfl | (simp [errW_none, errW_some] <;> rfl) | (simp [*, errW_none, errW_some] <;> rfl), Kd.pl_R HO_3.out, pl_below HB.out⟩
  ·replace c3 := Bool.eq_false_iff.mpr c3
   subst c3
   rw [if_neg (show ¬ (false = true) by decide)] at H
   obtain rfl := Option.some.inj H
   go_enter Try.func22, Try.ntmps22
   go_wp2_with (first | ((with_reducible refine gate_dst (N := 1) rfl ?_); refine box_event ?hg (N := 1) ?hd (cs := #[.int .i64 a0_0, .int .i64 a0_1, .int .i64 a0_2, .string a0_3, .slice A0_4 l0_4.length c0_4]) (t := 25) ?hr ?_; (case hd => rfl); (case hg => rfl); (case hr => first | (go_simp; done) | (go_simp; rfl)); intro gb394 hg w46 hbox hb; have BK394 := Aside0.mk (hbox); have GW394 := hG HB hg; have GE394 := hG HB hg; replace HB := hB HB hb; clear hb hbox hg; obtain ⟨hcz47_0, hcz47_1, hcz47_2, hcz47_3, hcz47_4, hfz47_0, hfz47_1, hfz47_2, hfz47_3, hfz47_4⟩ := blk_c5 BK394.out) | ((with_reducible refine gate_callee (f := 38) rfl ?_); refine goesL_ (some 6) rfl rfl Try.func38 (by kernel_rfl) rfl #[.agg #[.int .i64 a0_0, .int .i64 a0_1, .int .i64 a0_2, .string a0_3, .slice A0_4 l0_4.length c0_4]] rfl (by (try simp only [List.map_toArray, List.map_cons, List.map_nil]); first | done | rfl | (simp only [List.length_drop, List.length_take]; rfl)) ?_; (with_reducible refine (auguryref05_Right.calls k a0_0 a0_1 a0_2 a0_3 _ _ l0_4 false _ ?side1 ?side2 A2.out).mono ?_); (case side1 => repeat (first | exact (Kd.C_below HR0_4.out HB.out) | (with_reducible refine Kd.C_alloc ?_ _) | (with_reducible refine Kd.C_drewN ?_ _) | (with_reducible refine Kd.C_drew ?_))); (case side2 => exact HC0_4.out); rintro e w48 ⟨rfl, hb⟩; refine ⟨_, rfl, ?_⟩; replace BK394 := bb BK394 hb; replace HB := hB HB hb; (try clear hb); (try clear hb2); (try clear hk); (try clear hi)))
   go_ret
   exact ⟨_, by first | rfl | (simp [errW_none, errW_some] <;> rfl) | (simp [*, errW_none, errW_some] <;> rfl), by first | exact Kd.R_nil _ _ _ _ _ | exact Kd.N_nil _ _ _ _ _ | exact Kd.V_nil _ _ _ _ _ | exact Kd.Q_nil _ _ _ _ _ | exact Kd.S_nil _ _ _ _ _, pl_below HB.out⟩

end Go.Proofs.Ytbnjhmcbkocdjaa.PAll
