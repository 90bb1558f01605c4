/- Written by this session's own program (wip/xprint): functions of the Go program as Lean functions, and proofs that the Go code computes them. -/
import Derived.Test.YtbnjhmcbkocdjaaPAllx0
import Derived.Test.YtbnjhmcbkocdjaaPAllx40
import Derived.Test.YtbnjhmcbkocdjaaPAllx43
namespace Go.Proofs.Ytbnjhmcbkocdjaa.PAll
open Go.RowKit Go.Proofs.YtbnjhmcbkocdjaaW.PrintWords Go.Proofs.YtbnjhmcbkocdjaaW.PrintLast Go.Proofs.YtbnjhmcbkocdjaaW.PrintMore
attribute [local go_sem] max2_int min2_int max_two min_two max_three min_three max_four min_four   -- for this text's walks alone
set_option linter.unusedVariables false
set_option linter.unusedSimpArgs false

/-! ### auguryref04_Put: function 43 -/
def auguryref04_Put.f (k : Nat) (a0_0 : Int) (a0_1 : Int) (a0_2 : ByteArray) : Option (List Int) := (auguryref04_Right.f a0_0 a0_1 a0_2).bind fun t369 => (if t369 = true then ((some (([(a0_0) % 256] : List Int) : List Int)).bind fun y370 => (if a0_0 = 1 then (if a0_1 < 0 then ((auguryref04_Digits.f k (wrap64 ((wrap64 ((-2) * a0_1)) - 1))).bind fun t373 => (if y370.length + t373.length < 140737488355328 then (some (y370 ++ t373)) else (none))) else ((auguryref04_Digits.f k (wrap64 (2 * a0_1))).bind fun t379 => (if y370.length + t379.length < 140737488355328 then (some (y370 ++ t379)) else (none)))) else (if a0_0 = 2 then (if y370.length < 140737488355328 then ((some (y370 ++ [((a0_2.size : Int)) % 256] : List Int)).bind fun y385 => (if y385.length + a0_2.size < 140737488355328 then (some (y385 ++ bytesOf a0_2)) else (none))) else (none)) else (if a0_0 = 3 then (if y370.length < 140737488355328 then (some (y370 ++ [(a0_1) % 256])) else (none)) else (some y370))))) else (some ([] : List Int)))
theorem auguryref04_Put.mono : ∀ a0 a1 a2 k, LeO (auguryref04_Put.f k a0 a1 a2) (auguryref04_Put.f (k + 1) a0 a1 a2) := by
  intro a0 a1 a2 k
  unfold auguryref04_Put.f
  repeat' first
      | (with_reducible exact auguryref04_Digits.mono _ _)
      | (with_reducible exact LeO.refl _)
      | (with_reducible exact LeO.none _)
      | (with_reducible refine LeO.ite ?_ ?_)
      | (with_reducible refine LeO.bind ?_ (fun _ => ?_))
      | exact LeO.none _
      | refine LeO.ite ?_ ?_
      | refine LeO.bind ?_ (fun _ => ?_)
def auguryref04_Put.T11 : Bool × List (List Nat × List Nat) := (true, [([], []), ([], []), ([1], [1]), ([2], [2]), ([3], [3]), ([4], [4]), ([0, 5], [0, 5]), ([], []), ([7], [7]), ([6, 8, 6], [6, 8]), ([9, 9, 0, 1, 2, 3, 4, 5, 6, 7, 8, 9], [0, 9])])
def auguryref04_Put.B11 : List Nat := [0, 0, 2, 6, 14, 30, 63, 0, 128, 511, 1023]
theorem auguryref04_Put.tab11 : rtab .any (opsOf Try.f43 11) = auguryref04_Put.T11 := by kernel_rfl
theorem auguryref04_Put.bits11 : waitsOk auguryref04_Put.T11.2 auguryref04_Put.B11 = true := by kernel_rfl
set_option maxHeartbeats 8000000 in
set_option maxRecDepth 100000 in
theorem auguryref04_Put.calls (k : Nat) (a0_0 : Int) (a0_1 : Int) (a0_2 : ByteArray) (r : List Int) (w : World) (h : auguryref04_Put.f k a0_0 a0_1 a0_2 = some r) :
    Calls Try.prog 43 #[.agg #[.int .i64 a0_0, .int .i64 a0_1, .string a0_2]] w fun e w' => ∃ v0_ : Value, e = .returned (v0_) ∧ Kd.R (Kd.int .u8) 5 w' w.heap.size (fun _ => True) v0_ r ∧ Below w.heap.size w w' := by
  have hu52 := Try.underlying52
  have HB := Aside0.mk (Below.refl w.heap.size w)
  have H : ((auguryref04_Right.f a0_0 a0_1 a0_2).bind fun t369 => (if t369 = true then ((some (([(a0_0) % 256] : List Int) : List Int)).bind fun y370 => (if a0_0 = 1 then (if a0_1 < 0 then ((auguryref04_Digits.f k (wrap64 ((wrap64 ((-2) * a0_1)) - 1))).bind fun t373 => (if y370.length + t373.length < 140737488355328 then (some (y370 ++ t373)) else (none))) else ((auguryref04_Digits.f k (wrap64 (2 * a0_1))).bind fun t379 => (if y370.length + t379.length < 140737488355328 then (some (y370 ++ t379)) else (none)))) else (if a0_0 = 2 then (if y370.length < 140737488355328 then ((some (y370 ++ [((a0_2.size : Int)) % 256] : List Int)).bind fun y385 => (if y385.length + a0_2.size < 140737488355328 then (some (y385 ++ bytesOf a0_2)) else (none))) else (none)) else (if a0_0 = 3 then (if y370.length < 140737488355328 then (some (y370 ++ [(a0_1) % 256])) else (none)) else (some y370))))) else (some ([] : List Int)))) = some r := h
  clear h
  replace H := Option.bind_eq_some_iff.mp H
  obtain ⟨t369, A2, H⟩ := H
  (try dsimp only at H)
  replace A2 := Aside0.mk A2
  by_cases c3 : t369 = true
  ·subst c3
   rw [if_pos rfl] at H
   obtain ⟨y370, hy370⟩ : ∃ y_ : List Int, y_ = (([(a0_0) % 256] : List Int)) := ⟨_, rfl⟩
   replace H : (if a0_0 = 1 then (if a0_1 < 0 then ((auguryref04_Digits.f k (wrap64 ((wrap64 ((-2) * a0_1)) - 1))).bind fun t373 => (if y370.length + t373.length < 140737488355328 then (some (y370 ++ t373)) else (none))) else ((auguryref04_Digits.f k (wrap64 (2 * a0_1))).bind fun t379 => (if y370.length + t379.length < 140737488355328 then (some (y370 ++ t379)) else (none)))) else (if a0_0 = 2 then (if y370.length < 140737488355328 then ((some (y370 ++ [((a0_2.size : Int)) % 256] : List Int)).bind fun y385 => (if y385.length + a0_2.size < 140737488355328 then (some (y385 ++ bytesOf a0_2)) else (none))) else (none)) else (if a0_0 = 3 then (if y370.length < 140737488355328 then (some (y370 ++ [(a0_1) % 256])) else (none)) else (some y370)))) = some r := by first | (rw [hy370]; with_reducible exact H) | (have H2_ := (Option.bind_some _ _).symm.trans H; rw [hy370]; with_reducible exact H2_) | (have H2_ := (Option.bind_some _ _).symm.trans H; with_reducible exact H2_) | with_reducible exact H | (rw [hy370]; exact H) | exact H
   have Ny370 := Aside0.mk hy370
   clear hy370
   by_cases c4 : a0_0 = 1
   ·rw [if_pos c4] at H
    have c4b0 : (a0_0 == 1) = true := beq_iff_eq.mpr c4
    have c4b1 : (a0_0 != 1) = false := bne_eq_false_iff_eq.mpr c4
    clear c4
    by_cases c5 : a0_1 < 0
    ·rw [if_pos c5] at H
     have c5b0 : decide (a0_1 < 0) = true := decide_eq_true c5
     clear c5
     replace H := Option.bind_eq_some_iff.mp H
     obtain ⟨t373, A6, H⟩ := H
     (try dsimp only at H)
     replace A6 := Aside0.mk A6
     by_cases c7 : y370.length + t373.length < 140737488355328; rotate_left
     ·rw [if_neg c7] at H; cases H
     rw [if_pos c7] at H
     have LMc7 := Aside0.mk c7
     clear c7
     obtain ⟨y376, hy376⟩ : ∃ y_ : List Int, y_ = (y370 ++ t373) := ⟨_, rfl⟩
     replace H : (some y376) = some r := by first | (rw [hy376]; with_reducible exact H) | (have H2_ := (Option.bind_some _ _).symm.trans H; rw [hy376]; with_reducible exact H2_) | (have H2_ := (Option.bind_some _ _).symm.trans H; with_reducible exact H2_) | with_reducible exact H | (rw [hy376]; exact H) | exact H
     have Ny376 := Aside0.mk hy376
     clear hy376
     obtain rfl := Option.some.inj H
     go_enter Try.func43, Try.ntmps43
     go_wp2_with (first | ((with_reducible refine gate_dst (N := 1) rfl ?_); refine box_event ?hg (N := 1) ?hd (cs := #[.int .i64 a0_0, .int .i64 a0_1, .string a0_2]) (t := 52) ?hr ?_; (case hd => rfl); (case hg => rfl); (case hr => first | (go_simp; done) | (go_simp; rfl)); intro gb368 hg w8 hbox hb; have BK368 := Aside0.mk (hbox); have GW368 := hG HB hg; have GE368 := hG HB hg; replace HB := hB HB hb; clear hb hbox hg; obtain ⟨hcz9_0, hcz9_1, hcz9_2, hfz9_0, hfz9_1, hfz9_2⟩ := blk_c3 BK368.out) | ((with_reducible refine gate_callee (f := 30) rfl ?_); refine goesL_ (some 6) rfl rfl Try.func30 (by kernel_rfl) rfl #[.agg #[.int .i64 a0_0, .int .i64 a0_1, .string a0_2]] rfl (by (try simp only [List.map_toArray, List.map_cons, List.map_nil]); first | done | rfl | (simp only [List.length_drop, List.length_take]; rfl)) ?_; (with_reducible refine (auguryref04_Right.calls a0_0 a0_1 a0_2 true _ A2.out).mono ?_); rintro e w10 ⟨rfl, hb⟩; refine ⟨_, rfl, ?_⟩; replace BK368 := bb BK368 hb; replace HB := hB HB hb; (try clear hb); (try clear hb2); (try clear hk); (try clear hi); obtain ⟨hcz11_0, hcz11_1, hcz11_2, hfz11_0, hfz11_1, hfz11_2⟩ := blk_c3 BK368.out) | ((with_reducible refine gate_dst (N := 11) rfl ?_); refine Kd.R_lit (Kd.int .u8) _ 5 ?hg (N := 11) ?hd (xs := ([(a0_0) % 256] : List Int)) (inner := [.int .u8 ((a0_0) % 256)]) (ok := fun _ => True) (okp := fun _ => True) ?hr ?hp (fun _ hk => hk) trivial (Below.refl _ _) (Nat.le_refl _) (by simp) ?_; (case hd => rfl); (case hg => rfl); (case hr => first | (go_simp; done) | (go_simp; rfl)); (case hp => exact (Reps.one (show Kd.M (Kd.int .u8) _ _ _ ((a0_0) % 256) [.int .u8 ((a0_0) % 256)] from rfl) (Reps.none _ _))); intro v371 w12 ho13 hb hg_ hnew_; clear hg_ hnew_; (first | rw [← Ny370.out] at ho13 | (simp only [Int.reduceToNat] at ho13; rw [← Ny370.out] at ho13)); have HO372 := Aside0.mk (Kd.R_lower ho13 (below_size (pl_below HB.out))); replace BK368 := bb BK368 hb; replace HB := hB HB hb; clear hb ho13; obtain ⟨hcz14_0, hcz14_1, hcz14_2, hfz14_0, hfz14_1, hfz14_2⟩ := blk_c3 BK368.out) | ((with_reducible refine gate_callee (f := 42) rfl ?_); refine goesL_ (some 28) rfl rfl Try.func42 (by kernel_rfl) rfl #[.int .i64 (wrap64 ((wrap64 ((-2) * a0_1)) - 1))] rfl (by (try simp only [List.map_toArray, List.map_cons, List.map_nil]); first | done | rfl | (simp only [List.length_drop, List.length_take]; rfl)) ?_; (with_reducible refine (auguryref04_Digits.calls k (wrap64 ((wrap64 ((-2) * a0_1)) - 1)) t373 _ A6.out).mono ?_); rintro e w15 ⟨v374, rfl, ho0, hb⟩; refine ⟨_, rfl, ?_⟩; have HO375 := Aside0.mk (Kd.R_lower (Kd.R_new' ho0 (Kd.R_lt (Kd.pl_R HO372.out))) (below_size (pl_below HB.out))); replace HO372 := Aside0.mk (Kd.R_elder' (Kd.pl_R HO372.out) (Kd.R_base ho0) hb); replace BK368 := bb BK368 hb; replace HB := hB HB hb; (try clear hb); (try clear hb2); (try clear hk); (try clear hi); (try clear ho0); obtain ⟨Ao17, co17, eo17⟩ := Kd.R_slice HO375.out; subst eo17) | ((with_reducible refine gate_builtin (b := .append) (xs := #[.tmp 26, .tmp 28]) rfl ?_); at_builtin; refine Kd.R_append_rows (Kd.int .u8) (w0 := w) w.heap.size rfl (.tmp 26) (.tmp 28) 40 5 (.int .u8 0) 1 rfl Try.underlying40 info5 rfl (by decide) (by omega) v371 y370 t373 _ _ _ (fun k_ => some k_ ≠ (.slice Ao17 t373.length co17 : Value).ownBlock) (fun _ => False) rfl rfl ?aO ?aR (fun _ _ h => h) (fun _ h => h.elim) ?aF ?aB ?aS ?aL ?_; (case aR => repeat (first | exact (Kd.R_reads' HO375.out).2.2 | (with_reducible refine Kd.C_alloc ?_ _) | (with_reducible refine Kd.C_drewN ?_ _) | (with_reducible refine Kd.C_drew ?_))); (case aB => exact (pl_below HB.out)); (case aF => exact (fun k_ hk => Kd.fresh' (Kd.R_lt (Kd.pl_R HO375.out)) k_ hk)); (case aO => exact (by (with_reducible repeat (first | apply Kd.R_alloc | apply Kd.R_drewN | apply Kd.R_drew)); exact Kd.R_mono HO372.out (fun _ hk => hk.2))); (case aS => exact (below_size (pl_below HB.out))); (case aL => have := LMc7.out; omega); intro v377 w16 ho hb hg hat; rw [← Ny376.out] at ho; replace BK368 := Aside0.mk (blk_grown (pl_blk BK368.out) hg (Kd.R_ne HO372.out BK368.out (by decide))); replace HO375 := Aside0.mk (Kd.R_after (ok := (fun _ => True)) (Kd.pl_R HO375.out) hg hat); replace HB := Aside0.mk (hb); have HO378 := Aside0.mk (ho); clear HO372; clear ho hb hg hat))
     go_ret
     exact ⟨_, by first | rfl | (simp [errW_none, errW_some] <;> rfl) | (simp [*, errW_none, errW_some] <;> rfl), by (with_reducible repeat (first | apply Kd.R_alloc | apply Kd.R_drewN | apply Kd.R_drew)); exact Kd.R_mono HO378.out (fun _ hk => trivial), pl_below HB.out⟩
    ·rw [if_neg c5] at H
     have c5b0 : decide (a0_1 < 0) = false := decide_eq_false c5
     clear c5
     replace H := Option.bind_eq_some_iff.mp H
     obtain ⟨t379, A18, H⟩ := H
     (try dsimp only at H)
     replace A18 := Aside0.mk A18
     by_cases c19 : y370.length + t379.length < 140737488355328; rotate_left
     ·rw [if_neg c19] at H; cases H
     rw [if_pos c19] at H
     have LMc19 := Aside0.mk c19
     clear c19
     obtain ⟨y382, hy382⟩ : ∃ y_ : List Int, y_ = (y370 ++ t379) := ⟨_, rfl⟩
     replace H : (some y382) = some r := by first | (rw [hy382]; with_reducible exact H) | (have H2_ := (Option.bind_some _ _).symm.trans H; rw [hy382]; with_reducible exact H2_) | (have H2_ := (Option.bind_some _ _).symm.trans H; with_reducible exact H2_) | with_reducible exact H | (rw [hy382]; exact H) | exact H
     have Ny382 := Aside0.mk hy382
     clear hy382
     obtain rfl := Option.some.inj H
     go_enter Try.func43, Try.ntmps43
     go_wp2_with (first | ((with_reducible refine gate_dst (N := 1) rfl ?_); refine box_event ?hg (N := 1) ?hd (cs := #[.int .i64 a0_0, .int .i64 a0_1, .string a0_2]) (t := 52) ?hr ?_; (case hd => rfl); (case hg => rfl); (case hr => first | (go_simp; done) | (go_simp; rfl)); intro gb368 hg w20 hbox hb; have BK368 := Aside0.mk (hbox); have GW368 := hG HB hg; have GE368 := hG HB hg; replace HB := hB HB hb; clear hb hbox hg; obtain ⟨hcz21_0, hcz21_1, hcz21_2, hfz21_0, hfz21_1, hfz21_2⟩ := blk_c3 BK368.out) | ((with_reducible refine gate_callee (f := 30) rfl ?_); refine goesL_ (some 6) rfl rfl Try.func30 (by kernel_rfl) rfl #[.agg #[.int .i64 a0_0, .int .i64 a0_1, .string a0_2]] rfl (by (try simp only [List.map_toArray, List.map_cons, List.map_nil]); first | done | rfl | (simp only [List.length_drop, List.length_take]; rfl)) ?_; (with_reducible refine (auguryref04_Right.calls a0_0 a0_1 a0_2 true _ A2.out).mono ?_); rintro e w22 ⟨rfl, hb⟩; refine ⟨_, rfl, ?_⟩; replace BK368 := bb BK368 hb; replace HB := hB HB hb; (try clear hb); (try clear hb2); (try clear hk); (try clear hi); obtain ⟨hcz23_0, hcz23_1, hcz23_2, hfz23_0, hfz23_1, hfz23_2⟩ := blk_c3 BK368.out) | ((with_reducible refine gate_dst (N := 11) rfl ?_); refine Kd.R_lit (Kd.int .u8) _ 5 ?hg (N := 11) ?hd (xs := ([(a0_0) % 256] : List Int)) (inner := [.int .u8 ((a0_0) % 256)]) (ok := fun _ => True) (okp := fun _ => True) ?hr ?hp (fun _ hk => hk) trivial (Below.refl _ _) (Nat.le_refl _) (by simp) ?_; (case hd => rfl); (case hg => rfl); (case hr => first | (go_simp; done) | (go_simp; rfl)); (case hp => exact (Reps.one (show Kd.M (Kd.int .u8) _ _ _ ((a0_0) % 256) [.int .u8 ((a0_0) % 256)] from rfl) (Reps.none _ _))); intro v371 w24 ho25 hb hg_ hnew_; clear hg_ hnew_; (first | rw [← Ny370.out] at ho25 | (simp only [Int.reduceToNat] at ho25; rw [← Ny370.out] at ho25)); have HO372 := Aside0.mk (Kd.R_lower ho25 (below_size (pl_below HB.out))); replace BK368 := bb BK368 hb; replace HB := hB HB hb; clear hb ho25; obtain ⟨hcz26_0, hcz26_1, hcz26_2, hfz26_0, hfz26_1, hfz26_2⟩ := blk_c3 BK368.out) | ((with_reducible refine gate_callee (f := 42) rfl ?_); refine goesL_ (some 28) rfl rfl Try.func42 (by kernel_rfl) rfl #[.int .i64 (wrap64 (2 * a0_1))] rfl (by (try simp only [List.map_toArray, List.map_cons, List.map_nil]); first | done | rfl | (simp only [List.length_drop, List.length_take]; rfl)) ?_; (with_reducible refine (auguryref04_Digits.calls k (wrap64 (2 * a0_1)) t379 _ A18.out).mono ?_); rintro e w27 ⟨v380, rfl, ho0, hb⟩; refine ⟨_, rfl, ?_⟩; have HO381 := Aside0.mk (Kd.R_lower (Kd.R_new' ho0 (Kd.R_lt (Kd.pl_R HO372.out))) (below_size (pl_below HB.out))); replace HO372 := Aside0.mk (Kd.R_elder' (Kd.pl_R HO372.out) (Kd.R_base ho0) hb); replace BK368 := bb BK368 hb; replace HB := hB HB hb; (try clear hb); (try clear hb2); (try clear hk); (try clear hi); (try clear ho0); obtain ⟨Ao29, co29, eo29⟩ := Kd.R_slice HO381.out; subst eo29) | ((with_reducible refine gate_builtin (b := .append) (xs := #[.tmp 26, .tmp 28]) rfl ?_); at_builtin; refine Kd.R_append_rows (Kd.int .u8) (w0 := w) w.heap.size rfl (.tmp 26) (.tmp 28) 40 5 (.int .u8 0) 1 rfl Try.underlying40 info5 rfl (by decide) (by omega) v371 y370 t379 _ _ _ (fun k_ => some k_ ≠ (.slice Ao29 t379.length co29 : Value).ownBlock) (fun _ => False) rfl rfl ?aO ?aR (fun _ _ h => h) (fun _ h => h.elim) ?aF ?aB ?aS ?aL ?_; (case aR => repeat (first | exact (Kd.R_reads' HO381.out).2.2 | (with_reducible refine Kd.C_alloc ?_ _) | (with_reducible refine Kd.C_drewN ?_ _) | (with_reducible refine Kd.C_drew ?_))); (case aB => exact (pl_below HB.out)); (case aF => exact (fun k_ hk => Kd.fresh' (Kd.R_lt (Kd.pl_R HO381.out)) k_ hk)); (case aO => exact (by (with_reducible repeat (first | apply Kd.R_alloc | apply Kd.R_drewN | apply Kd.R_drew)); exact Kd.R_mono HO372.out (fun _ hk => hk.2))); (case aS => exact (below_size (pl_below HB.out))); (case aL => have := LMc19.out; omega); intro v383 w28 ho hb hg hat; rw [← Ny382.out] at ho; replace BK368 := Aside0.mk (blk_grown (pl_blk BK368.out) hg (Kd.R_ne HO372.out BK368.out (by decide))); replace HO381 := Aside0.mk (Kd.R_after (ok := (fun _ => True)) (Kd.pl_R HO381.out) hg hat); replace HB := Aside0.mk (hb); have HO384 := Aside0.mk (ho); clear HO372; clear ho hb hg hat))
     go_ret
     exact ⟨_, by first | rfl | (simp [errW_none, errW_some] <;> rfl) | (simp [*, errW_none, errW_some] <;> rfl), by (with_reducible repeat (first | apply Kd.R_alloc | apply Kd.R_drewN | apply Kd.R_drew)); exact Kd.R_mono HO384.out (fun _ hk => trivial), pl_below HB.out⟩
   ·rw [if_neg c4] at H
    have c4b0 : (a0_0 == 1) = false := beq_eq_false_iff_ne.mpr c4
    have c4b1 : (a0_0 != 1) = true := bne_iff_ne.mpr c4
    by_cases c30 : a0_0 = 2
    ·rw [if_pos c30] at H
     have c30b0 : (a0_0 == 2) = true := beq_iff_eq.mpr c30
     have c30b1 : (a0_0 != 2) = false := bne_eq_false_iff_eq.mpr c30
     clear c30
     by_cases c31 : y370.length < 140737488355328; rotate_left
     ·rw [if_neg c31] at H; cases H
     rw [if_pos c31] at H
     have LMc31 := Aside0.mk c31
     clear c31
     obtain ⟨y385, hy385⟩ : ∃ y_ : List Int, y_ = (y370 ++ [((a0_2.size : Int)) % 256]) := ⟨_, rfl⟩
     replace H : (if y385.length + a0_2.size < 140737488355328 then (some (y385 ++ bytesOf a0_2)) else (none)) = some r := by first | (rw [hy385]; with_reducible exact H) | (have H2_ := (Option.bind_some _ _).symm.trans H; rw [hy385]; with_reducible exact H2_) | (have H2_ := (Option.bind_some _ _).symm.trans H; with_reducible exact H2_) | with_reducible exact H | (rw [hy385]; exact H) | exact H
     have Ny385 := Aside0.mk hy385
     clear hy385
     by_cases c32 : y385.length + a0_2.size < 140737488355328; rotate_left
     ·rw [if_neg c32] at H; cases H
     rw [if_pos c32] at H
     have LMc32 := Aside0.mk c32
     clear c32
     obtain ⟨y388, hy388⟩ : ∃ y_ : List Int, y_ = (y385 ++ bytesOf a0_2) := ⟨_, rfl⟩
     replace H : (some y388) = some r := by first | (rw [hy388]; with_reducible exact H) | (have H2_ := (Option.bind_some _ _).symm.trans H; rw [hy388]; with_reducible exact H2_) | (have H2_ := (Option.bind_some _ _).symm.trans H; with_reducible exact H2_) | with_reducible exact H | (rw [hy388]; exact H) | exact H
     have Ny388 := Aside0.mk hy388
     clear hy388
     obtain rfl := Option.some.inj H
     go_enter Try.func43, Try.ntmps43
     try go_wp2_with (first | ((with_reducible refine gate_dst (N := 1) rfl ?_); refine box_event ?hg (N := 1) ?hd (cs := #[.int .i64 a0_0, .int .i64 a0_1, .string a0_2]) (t := 52) ?hr ?_; (case hd => rfl); (case hg => rfl); (case hr => first | (go_simp; done) | (go_simp; rfl)); intro gb368 hg w33 hbox hb; have BK368 := Aside0.mk (hbox); have GW368 := hG HB hg; have GE368 := hG HB hg; replace HB := hB HB hb; clear hb hbox hg; obtain ⟨hcz34_0, hcz34_1, hcz34_2, hfz34_0, hfz34_1, hfz34_2⟩ := blk_c3 BK368.out) | ((with_reducible refine gate_callee (f := 30) rfl ?_); refine goesL_ (some 6) rfl rfl Try.func30 (by kernel_rfl) rfl #[.agg #[.int .i64 a0_0, .int .i64 a0_1, .string a0_2]] rfl (by (try simp only [List.map_toArray, List.map_cons, List.map_nil]); first | done | rfl | (simp only [List.length_drop, List.length_take]; rfl)) ?_; (with_reducible refine (auguryref04_Right.calls a0_0 a0_1 a0_2 true _ A2.out).mono ?_); rintro e w35 ⟨rfl, hb⟩; refine ⟨_, rfl, ?_⟩; replace BK368 := bb BK368 hb; replace HB := hB HB hb; (try clear hb); (try clear hb2); (try clear hk); (try clear hi); obtain ⟨hcz36_0, hcz36_1, hcz36_2, hfz36_0, hfz36_1, hfz36_2⟩ := blk_c3 BK368.out) | ((with_reducible refine gate_dst (N := 11) rfl ?_); refine Kd.R_lit (Kd.int .u8) _ 5 ?hg (N := 11) ?hd (xs := ([(a0_0) % 256] : List Int)) (inner := [.int .u8 ((a0_0) % 256)]) (ok := fun _ => True) (okp := fun _ => True) ?hr ?hp (fun _ hk => hk) trivial (Below.refl _ _) (Nat.le_refl _) (by simp) ?_; (case hd => rfl); (case hg => rfl); (case hr => first | (go_simp; done) | (go_simp; rfl)); (case hp => exact (Reps.one (show Kd.M (Kd.int .u8) _ _ _ ((a0_0) % 256) [.int .u8 ((a0_0) % 256)] from rfl) (Reps.none _ _))); intro v371 w37 ho38 hb hg_ hnew_; clear hg_ hnew_; (first | rw [← Ny370.out] at ho38 | (simp only [Int.reduceToNat] at ho38; rw [← Ny370.out] at ho38)); have HO372 := Aside0.mk (Kd.R_lower ho38 (below_size (pl_below HB.out))); replace BK368 := bb BK368 hb; replace HB := hB HB hb; clear hb ho38; obtain ⟨hcz39_0, hcz39_1, hcz39_2, hfz39_0, hfz39_1, hfz39_2⟩ := blk_c3 BK368.out))
     replace HO372 := Aside0.mk (Kd.R_drew HO372.out)
     replace BK368 := Aside0.mk (blk_drew BK368.out)
     replace HB := Aside0.mk (below_drew1 HB.out)
     refine start_ (n := 11) (S := fun w' => w'.cell? ⟨gb368, 0, none⟩ = some (.int .i64 a0_0) ∧ w'.cell? ⟨gb368, 1, none⟩ = some (.int .i64 a0_1) ∧ w'.cell? ⟨gb368, 2, none⟩ = some (.string a0_2)) (ds := []) #[false, false, false, false, false, false, false, false, false, false, false] (by kernel_rfl) rfl rfl ⟨(blk_cell BK368.out 0).trans rfl, (blk_cell BK368.out 1).trans rfl, (blk_cell BK368.out 2).trans rfl⟩ (fun hHeld => ?_); refine with_tabW auguryref04_Put.tab11 auguryref04_Put.bits11 (fun HT_ HW_ => ?_)
     generalize w37.drew = w40 at HO372 BK368 HB hHeld ⊢
     refine pure_ (i := 0) (N := some 32) (v := ?_) (a' := ?_) #[true, false, false, false, false, false, false, false, false, false, false] rfl rfl (any_of HT_.out (by kernel_rfl)) (fun _ _ _ h => h) (Or.inl ⟨by rfl, ?_⟩) ?_ ?_
     rotate_left
     ·intro w'
      go_simp
      with_reducible rfl
     rotate_left
     ·simp only [Act.put, List.setIfInBounds_toArray, List.set_cons_zero, List.set_cons_succ, i64_w, i32_w]
      rfl
     refine pure_ (i := 1) (N := some 33) (v := ?_) (a' := ?_) #[true, true, false, false, false, false, false, false, false, false, false] rfl rfl (any_of HT_.out (by kernel_rfl)) (fun _ _ _ h => h) (Or.inl ⟨by rfl, ?_⟩) ?_ ?_
     rotate_left
     ·intro w'
      go_simp
      with_reducible rfl
     rotate_left
     ·simp only [Act.put, List.setIfInBounds_toArray, List.set_cons_zero, List.set_cons_succ, i64_w, i32_w]
      rfl
     refine pure_ (i := 7) (N := some 39) (v := ?_) (a' := ?_) #[true, true, false, false, false, false, false, true, false, false, false] rfl rfl (any_of HT_.out (by kernel_rfl)) (fun _ _ _ h => h) (Or.inl ⟨by rfl, ?_⟩) ?_ ?_
     rotate_left
     ·intro w'
      go_simp
      with_reducible rfl
     rotate_left
     ·simp only [Act.put, List.setIfInBounds_toArray, List.set_cons_zero, List.set_cons_succ, i64_w, i32_w]
      rfl
     refine take_ (i := 2) (N := some 34) (v := ?_) (a' := ?_) #[true, true, true, false, false, false, false, true, false, false, false] rfl rfl (take_ofW HT_.out HW_.out (by kernel_rfl)) (fun _ _ _ h => h) (Or.inl ⟨by rfl, ?_⟩) hHeld ?_ ?_
     rotate_left
     ·rintro w' ⟨s0, s1, s2⟩
      go_simp
      with_reducible rfl
     rotate_left
     ·simp only [Act.put, List.setIfInBounds_toArray, List.set_cons_zero, List.set_cons_succ, i64_w, i32_w]
      rfl
     refine pure_ (i := 3) (N := some 35) (v := ?_) (a' := ?_) #[true, true, true, true, false, false, false, true, false, false, false] rfl rfl (any_of HT_.out (by kernel_rfl)) (fun _ _ _ h => h) (Or.inl ⟨by rfl, ?_⟩) ?_ ?_
     rotate_left
     ·intro w'
      go_simp
      with_reducible rfl
     rotate_left
     ·simp only [Act.put, List.setIfInBounds_toArray, List.set_cons_zero, List.set_cons_succ, i64_w, i32_w]
      rfl
     refine pure_ (i := 4) (N := some 36) (v := ?_) (a' := ?_) #[true, true, true, true, true, false, false, true, false, false, false] rfl rfl (any_of HT_.out (by kernel_rfl)) (fun _ _ _ h => h) (Or.inl ⟨by rfl, ?_⟩) ?_ ?_
     rotate_left
     ·intro w'
      go_simp
      with_reducible rfl
     rotate_left
     ·simp only [Act.put, List.setIfInBounds_toArray, List.set_cons_zero, List.set_cons_succ, i64_w, i32_w]
      rfl
     refine take_ (i := 8) (N := some 40) (v := ?_) (a' := ?_) #[true, true, true, true, true, false, false, true, true, false, false] rfl rfl (take_ofW HT_.out HW_.out (by kernel_rfl)) (fun _ _ _ h => h) (Or.inl ⟨by rfl, ?_⟩) hHeld ?_ ?_
     rotate_left
     ·rintro w' ⟨s0, s1, s2⟩
      go_simp
      with_reducible rfl
     rotate_left
     ·simp only [Act.put, List.setIfInBounds_toArray, List.set_cons_zero, List.set_cons_succ, i64_w, i32_w]
      rfl
     refine one_ (i := 5) (N := some 37) #[true, true, true, true, true, true, false, true, true, false, false] rfl rfl (one_of HT_.out (by kernel_rfl)) (by decide) (fun K hK => ?_)
     refine value_ (w1 := ?_) (v := ?_) (by rfl) rfl ?_ ?_
     rotate_left 2
     ·go_simp
      constructor
      ·rfl
      ·rfl
     refine hK.out _ _ ⟨(blk_cell (blk_alloc BK368.out _) 0).trans rfl, (blk_cell (blk_alloc BK368.out _) 1).trans rfl, (blk_cell (blk_alloc BK368.out _) 2).trans rfl⟩ (fun hHeld => ?_)
     clear hK K
     refine norm_ (a' := ?_) ?_ ?_
     rotate_left
     ·show Act.put _ (some 37) _ = _
      simp only [Act.put, List.setIfInBounds_toArray, List.set_cons_zero, List.set_cons_succ, i64_w, i32_w]
      rfl
     refine one_ (i := 6) (N := some 38) #[true, true, true, true, true, true, true, true, true, false, false] rfl rfl (one_of HT_.out (by kernel_rfl)) (by decide) (fun K hK => ?_)
     refine Kd.R_append_step (Kd.int .u8) (w0 := w) w.heap.size (by rfl) (.tmp 32) (.tmp 37) 40 5 (.int .u8 0) 1 rfl Try.underlying40 info5 rfl (by decide) (by omega) v371 y370 (((a0_2.size : Int)) % 256) [.int .u8 (((a0_2.size : Int)) % 256)] (fun _ => True) (fun _ => False) rfl rfl ?aP (fun _ hk => hk.elim) ?aF ?aO ?aB ?aS ?aL ?_
     (case aP => exact rfl)
     (case aB => exact (pl_below HB.out))
     (case aF => exact (fun _ _ => trivial))
     (case aO => exact (Kd.pl_R HO372.out))
     (case aS => exact (below_size (pl_below HB.out)))
     (case aL => have := LMc31.out; omega)
     intro v386 w41 ho hb hg hat
     rw [← Ny385.out] at ho
     replace BK368 := Aside0.mk (blk_grown (pl_blk BK368.out) hg (Kd.R_ne HO372.out BK368.out (by decide)))
     replace HB := Aside0.mk (hb)
     have HO387 := Aside0.mk (ho)
     clear HO372
     clear ho hb hg hat
     refine hK.out _ _ ⟨(blk_cell BK368.out 0).trans rfl, (blk_cell BK368.out 1).trans rfl, (blk_cell BK368.out 2).trans rfl⟩ (fun hHeld => ?_)
     clear hK K
     refine norm_ (a' := ?_) ?_ ?_
     rotate_left
     ·show Act.put _ (some 38) _ = _
      simp only [Act.put, List.setIfInBounds_toArray, List.set_cons_zero, List.set_cons_succ, i64_w, i32_w]
      rfl
     refine one_ (i := 9) (N := some 41) #[true, true, true, true, true, true, true, true, true, true, false] rfl rfl (one_of HT_.out (by kernel_rfl)) (by decide) (fun K hK => ?_)
     refine print_append_str_step (w0 := w) w.heap.size (by rfl) (.tmp 38) _ 40 9 5 rfl Try.underlying40 Try.underlying9 info5 v386 y385 a0_2 rfl rfl ?aO ?aB ?aS ?aL ?_
     (case aB => exact (pl_below HB.out))
     (case aO => exact (Kd.own_of_R (Kd.pl_R HO387.out)))
     (case aS => exact (below_size (pl_below HB.out)))
     (case aL => have := LMc32.out; omega)
     intro v389 w42 ho0 hb hg
     have ho := Kd.R_of_own (h1 := fun _ => rfl) (ok := fun _ => True) ho0 (fun _ _ => trivial)
     clear ho0
     have hat := True.intro
     rw [← Ny388.out] at ho
     change Kd.R (Kd.int .u8) 5 w42 w.heap.size (fun _ => True) v389 y388 at ho
     replace BK368 := Aside0.mk (blk_grown (pl_blk BK368.out) hg (Kd.R_ne HO387.out BK368.out (by decide)))
     replace HB := Aside0.mk (hb)
     have HO390 := Aside0.mk (ho)
     clear HO387
     clear ho hb hg hat
     refine hK.out _ _ ⟨(blk_cell BK368.out 0).trans rfl, (blk_cell BK368.out 1).trans rfl, (blk_cell BK368.out 2).trans rfl⟩ (fun hHeld => ?_)
     clear hK K
     refine norm_ (a' := ?_) ?_ ?_
     rotate_left
     ·show Act.put _ (some 41) _ = _
      simp only [Act.put, List.setIfInBounds_toArray, List.set_cons_zero, List.set_cons_succ, i64_w, i32_w]
      rfl
     refine pure_ (i := 10) (N := some 3) (v := ?_) (a' := ?_) #[true, true, true, true, true, true, true, true, true, true, true] rfl rfl (any_of HT_.out (by kernel_rfl)) (fun _ _ _ h => h) (Or.inl ⟨by rfl, ?_⟩) ?_ ?_
     rotate_left
     ·intro w'
      go_simp
      with_reducible rfl
     rotate_left
     ·simp only [Act.put, List.setIfInBounds_toArray, List.set_cons_zero, List.set_cons_succ, i64_w, i32_w]
      rfl
     refine done_ (done_of HT_.out (by kernel_rfl)) ?_
     try go_wp2
     go_ret
     exact ⟨_, by first | rfl | (simp [errW_none, errW_some] <;> rfl) | (simp [*, errW_none, errW_some] <;> rfl), Kd.pl_R HO390.out, pl_below HB.out⟩
    ·rw [if_neg c30] at H
     have c30b0 : (a0_0 == 2) = false := beq_eq_false_iff_ne.mpr c30
     have c30b1 : (a0_0 != 2) = true := bne_iff_ne.mpr c30
     by_cases c43 : a0_0 = 3
     ·rw [if_pos c43] at H
      have c43b0 : (a0_0 == 3) = true := beq_iff_eq.mpr c43
      have c43b1 : (a0_0 != 3) = false := bne_eq_false_iff_eq.mpr c43
      clear c43
      by_cases c44 : y370.length < 140737488355328; rotate_left
      ·rw [if_neg c44] at H; cases H
      rw [if_pos c44] at H
      have LMc44 := Aside0.mk c44
      clear c44
      obtain ⟨y391, hy391⟩ : ∃ y_ : List Int, y_ = (y370 ++ [(a0_1) % 256]) := ⟨_, rfl⟩
      replace H : (some y391) = some r := by first | (rw [hy391]; with_reducible exact H) | (have H2_ := (Option.bind_some _ _).symm.trans H; rw [hy391]; with_reducible exact H2_) | (have H2_ := (Option.bind_some _ _).symm.trans H; with_reducible exact H2_) | with_reducible exact H | (rw [hy391]; exact H) | exact H
      have Ny391 := Aside0.mk hy391
      clear hy391
      obtain rfl := Option.some.inj H
      go_enter Try.func43, Try.ntmps43
      go_wp2_with (first | ((with_reducible refine gate_dst (N := 1) rfl ?_); refine box_event ?hg (N := 1) ?hd (cs := #[.int .i64 a0_0, .int .i64 a0_1, .string a0_2]) (t := 52) ?hr ?_; (case hd => rfl); (case hg => rfl); (case hr => first | (go_simp; done) | (go_simp; rfl)); intro gb368 hg w45 hbox hb; have BK368 := Aside0.mk (hbox); have GW368 := hG HB hg; have GE368 := hG HB hg; replace HB := hB HB hb; clear hb hbox hg; obtain ⟨hcz46_0, hcz46_1, hcz46_2, hfz46_0, hfz46_1, hfz46_2⟩ := blk_c3 BK368.out) | ((with_reducible refine gate_callee (f := 30) rfl ?_); refine goesL_ (some 6) rfl rfl Try.func30 (by kernel_rfl) rfl #[.agg #[.int .i64 a0_0, .int .i64 a0_1, .string a0_2]] rfl (by (try simp only [List.map_toArray, List.map_cons, List.map_nil]); first | done | rfl | (simp only [List.length_drop, List.length_take]; rfl)) ?_; (with_reducible refine (auguryref04_Right.calls a0_0 a0_1 a0_2 true _ A2.out).mono ?_); rintro e w47 ⟨rfl, hb⟩; refine ⟨_, rfl, ?_⟩; replace BK368 := bb BK368 hb; replace HB := hB HB hb; (try clear hb); (try clear hb2); (try clear hk); (try clear hi); obtain ⟨hcz48_0, hcz48_1, hcz48_2, hfz48_0, hfz48_1, hfz48_2⟩ := blk_c3 BK368.out) | ((with_reducible refine gate_dst (N := 11) rfl ?_); refine Kd.R_lit (Kd.int .u8) _ 5 ?hg (N := 11) ?hd (xs := ([(a0_0) % 256] : List Int)) (inner := [.int .u8 ((a0_0) % 256)]) (ok := fun _ => True) (okp := fun _ => True) ?hr ?hp (fun _ hk => hk) trivial (Below.refl _ _) (Nat.le_refl _) (by simp) ?_; (case hd => rfl); (case hg => rfl); (case hr => first | (go_simp; done) | (go_simp; rfl)); (case hp => exact (Reps.one (show Kd.M (Kd.int .u8) _ _ _ ((a0_0) % 256) [.int .u8 ((a0_0) % 256)] from rfl) (Reps.none _ _))); intro v371 w49 ho50 hb hg_ hnew_; clear hg_ hnew_; (first | rw [← Ny370.out] at ho50 | (simp only [Int.reduceToNat] at ho50; rw [← Ny370.out] at ho50)); have HO372 := Aside0.mk (Kd.R_lower ho50 (below_size (pl_below HB.out))); replace BK368 := bb BK368 hb; replace HB := hB HB hb; clear hb ho50; obtain ⟨hcz51_0, hcz51_1, hcz51_2, hfz51_0, hfz51_1, hfz51_2⟩ := blk_c3 BK368.out) | ((with_reducible refine gate_builtin (b := .append) (xs := #[.tmp 44, .tmp 48]) rfl ?_); at_builtin; refine Kd.R_append (Kd.int .u8) (w0 := w) w.heap.size rfl (.tmp 44) (.tmp 48) 40 5 (.int .u8 0) 1 rfl Try.underlying40 info5 rfl (by decide) (by omega) v371 y370 ((a0_1) % 256) [.int .u8 ((a0_1) % 256)] (fun _ => True) (fun _ => False) rfl rfl ?aP (fun _ hk => hk.elim) ?aF ?aO ?aB ?aS ?aL ?_; (case aP => exact rfl); (case aB => exact (pl_below HB.out)); (case aF => exact (fun _ _ => trivial)); (case aO => exact (Kd.pl_R HO372.out)); (case aS => exact (below_size (pl_below HB.out))); (case aL => have := LMc44.out; omega); intro v392 w52 ho hb hg hat; rw [← Ny391.out] at ho; replace BK368 := Aside0.mk (blk_grown (pl_blk BK368.out) hg (Kd.R_ne HO372.out BK368.out (by decide))); replace HB := Aside0.mk (hb); have HO393 := Aside0.mk (ho); clear HO372; clear ho hb hg hat))
      go_ret
      exact ⟨_, by first | rfl | (simp [errW_none, errW_some] <;> rfl) | (simp [*, errW_none, errW_some] <;> rfl), Kd.pl_R HO393.out, pl_below HB.out⟩
     ·rw [if_neg c43] at H
      have c43b0 : (a0_0 == 3) = false := beq_eq_false_iff_ne.mpr c43
      have c43b1 : (a0_0 != 3) = true := bne_iff_ne.mpr c43
      obtain rfl := Option.some.inj H
      go_enter Try.func43, Try.ntmps43
      go_wp2_with (first | ((with_reducible refine gate_dst (N := 1) rfl ?_); refine box_event ?hg (N := 1) ?hd (cs := #[.int .i64 a0_0, .int .i64 a0_1, .string a0_2]) (t := 52) ?hr ?_; (case hd => rfl); (case hg => rfl); (case hr => first | (go_simp; done) | (go_simp; rfl)); intro gb368 hg w53 hbox hb; have BK368 := Aside0.mk (hbox); have GW368 := hG HB hg; have GE368 := hG HB hg; replace HB := hB HB hb; clear hb hbox hg; obtain ⟨hcz54_0, hcz54_1, hcz54_2, hfz54_0, hfz54_1, hfz54_2⟩ := blk_c3 BK368.out) | ((with_reducible refine gate_callee (f := 30) rfl ?_); refine goesL_ (some 6) rfl rfl Try.func30 (by kernel_rfl) rfl #[.agg #[.int .i64 a0_0, .int .i64 a0_1, .string a0_2]] rfl (by (try simp only [List.map_toArray, List.map_cons, List.map_nil]); first | done | rfl | (simp only [List.length_drop, List.length_take]; rfl)) ?_; (with_reducible refine (auguryref04_Right.calls a0_0 a0_1 a0_2 true _ A2.out).mono ?_); rintro e w55 ⟨rfl, hb⟩; refine ⟨_, rfl, ?_⟩; replace BK368 := bb BK368 hb; replace HB := hB HB hb; (try clear hb); (try clear hb2); (try clear hk); (try clear hi); obtain ⟨hcz56_0, hcz56_1, hcz56_2, hfz56_0, hfz56_1, hfz56_2⟩ := blk_c3 BK368.out) | ((with_reducible refine gate_dst (N := 11) rfl ?_); refine Kd.R_lit (Kd.int .u8) _ 5 ?hg (N := 11) ?hd (xs := ([(a0_0) % 256] : List Int)) (inner := [.int .u8 ((a0_0) % 256)]) (ok := fun _ => True) (okp := fun _ => True) ?hr ?hp (fun _ hk => hk) trivial (Below.refl _ _) (Nat.le_refl _) (by simp) ?_; (case hd => rfl); (case hg => rfl); (case hr => first | (go_simp; done) | (go_simp; rfl)); (case hp => exact (Reps.one (show Kd.M (Kd.int .u8) _ _ _ ((a0_0) % 256) [.int .u8 ((a0_0) % 256)] from rfl) (Reps.none _ _))); intro v371 w57 ho58 hb hg_ hnew_; clear hg_ hnew_; (first | rw [← Ny370.out] at ho58 | (simp only [Int.reduceToNat] at ho58; rw [← Ny370.out] at ho58)); have HO372 := Aside0.mk (Kd.R_lower ho58 (below_size (pl_below HB.out))); replace BK368 := bb BK368 hb; replace HB := hB HB hb; clear hb ho58; obtain ⟨hcz59_0, hcz59_1, hcz59_2, hfz59_0, hfz59_1, hfz59_2⟩ := blk_c3 BK368.out))
      go_ret
      exact ⟨_, by first | rfl | (simp [errW_none, errW_some] <;> rfl) | (simp [*, errW_none, errW_some] <;> rfl), Kd.pl_R HO372.out, pl_below HB.out⟩
  ·replace c3 := Bool.eq_false_iff.mpr c3
   subst c3
   rw [if_neg (show ¬ (false = true) by decide)] at H
   obtain rfl := Option.some.inj H
   go_enter Try.func43, Try.ntmps43
   go_wp2_with (first | ((with_reducible refine gate_dst (N := 1) rfl ?_); refine box_event ?hg (N := 1) ?hd (cs := #[.int .i64 a0_0, .int .i64 a0_1, .string a0_2]) (t := 52) ?hr ?_; (case hd => rfl); (case hg => rfl); (case hr => first | (go_simp; done) | (go_simp; rfl)); intro gb368 hg w60 hbox hb; have BK368 := Aside0.mk (hbox); have GW368 := hG HB hg; have GE368 := hG HB hg; replace HB := hB HB hb; clear hb hbox hg; obtain ⟨hcz61_0, hcz61_1, hcz61_2, hfz61_0, hfz61_1, hfz61_2⟩ := blk_c3 BK368.out) | ((with_reducible refine gate_callee (f := 30) rfl ?_); refine goesL_ (some 6) rfl rfl Try.func30 (by kernel_rfl) rfl #[.agg #[.int .i64 a0_0, .int .i64 a0_1, .string a0_2]] rfl (by (try simp only [List.map_toArray, List.map_cons, List.map_nil]); first | done | rfl | (simp only [List.length_drop, List.length_take]; rfl)) ?_; (with_reducible refine (auguryref04_Right.calls a0_0 a0_1 a0_2 false _ A2.out).mono ?_); rintro e w62 ⟨rfl, hb⟩; refine ⟨_, rfl, ?_⟩; replace BK368 := bb BK368 hb; replace HB := hB HB hb; (try clear hb); (try clear hb2); (try clear hk); (try clear hi)))
   go_ret
   exact ⟨_, by first | rfl | (simp [errW_none, errW_some] <;> rfl) | (simp [*, errW_none, errW_some] <;> rfl), by first | exact Kd.R_nil _ _ _ _ _ | exact Kd.N_nil _ _ _ _ _ | exact Kd.V_nil _ _ _ _ _ | exact Kd.Q_nil _ _ _ _ _ | exact Kd.S_nil _ _ _ _ _, pl_below HB.out⟩

end Go.Proofs.Ytbnjhmcbkocdjaa.PAll
