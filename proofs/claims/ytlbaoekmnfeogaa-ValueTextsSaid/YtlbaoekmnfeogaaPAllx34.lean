/- Written by this session's own program (wip/xprint): functions of the Go program as Lean functions, and proofs that the Go code computes them. -/
import Derived.Test.YtlbaoekmnfeogaaPAllx0
import Derived.Test.YtlbaoekmnfeogaaPAllx12
import Derived.Test.YtlbaoekmnfeogaaPAllx13
import Derived.Test.YtlbaoekmnfeogaaPAllx17
import Derived.Test.YtlbaoekmnfeogaaPAllx18
namespace Go.Proofs.Ytlbaoekmnfeogaa.PAll
open Go.RowKit Go.Proofs.YtlbaoekmnfeogaaW.PrintWords Go.Proofs.YtlbaoekmnfeogaaW.PrintLast Go.Proofs.YtlbaoekmnfeogaaW.PrintMore
attribute [local go_sem] max2_int min2_int max_two min_two max_three min_three max_four min_four   -- for this text's walks alone
set_option linter.unusedVariables false
set_option linter.unusedSimpArgs false

/-! ### augurylaw04_ValueTexts: function 8 -/
def augurylaw04_ValueTexts.f (k : Nat) (a0 : ByteArray) (a1 : ByteArray) : Option (Bool) := (augurylaw04_head.f k).bind fun t481 => (if (wrap64 ((a0.size : Int) + (a1.size : Int))) > 64 then (if t481 = true then (some true) else (none)) else ((augurylaw04_text.f a0).bind fun bt482 => (if a0.size + a1.size ≤ 9223372036854775807 then ((augurylaw04_text.f (a0 ++ a1)).bind fun bt486 => ((value_Compare.f 3 bt482.1 bt482.2.1 bt482.2.2 bt486.1 bt486.2.1 bt486.2.2).bind fun bt490 => ((value_Compare.f 6 bt482.1 bt482.2.1 bt482.2.2 bt486.1 bt486.2.1 bt486.2.2).bind fun bt492 => ((value_Put.f k bt486.1 bt486.2.1 bt486.2.2).bind fun t494 => (if (t494.length : Int) < 2 then (none) else (if t481 = true then (if bt490.2 = 0 then (if bt492.2 = 0 then (if (bt490.1 == (a1.toList != ([] : List UInt8))) = true then (if (bt492.1 == (a1.toList == ([] : List UInt8))) = true then (if (t494.length : Int) = (wrap64 ((wrap64 (2 + (a0.size : Int))) + (a1.size : Int))) then (if 1 < (t494.length : Int) then (if (wrap64 (rd t494 1)) = (wrap64 ((a0.size : Int) + (a1.size : Int))) then (some true) else (none)) else (none)) else (none)) else (none)) else (none)) else (none)) else (none)) else (none))))))) else (none))))
theorem augurylaw04_ValueTexts.mono : ∀ a0 a1 k, LeO (augurylaw04_ValueTexts.f k a0 a1) (augurylaw04_ValueTexts.f (k + 1) a0 a1) := by
  intro a0 a1 k
  unfold augurylaw04_ValueTexts.f
  repeat' first
      | (with_reducible exact augurylaw04_head.mono _)
      | (with_reducible exact value_Put.mono _ _ _ _)
      | (with_reducible exact LeO.refl _)
      | (with_reducible exact LeO.none _)
      | (with_reducible refine LeO.ite ?_ ?_)
      | (with_reducible refine LeO.bind ?_ (fun _ => ?_))
      | exact augurylaw04_head.mono _
      | exact value_Put.mono _ _ _ _
      | exact LeO.none _
      | refine LeO.ite ?_ ?_
      | refine LeO.bind ?_ (fun _ => ?_)
set_option maxHeartbeats 8000000 in
set_option maxRecDepth 100000 in
theorem augurylaw04_ValueTexts.calls (k : Nat) (a0 : ByteArray) (a1 : ByteArray) (r : Bool) (w : World) (h : augurylaw04_ValueTexts.f k a0 a1 = some r) :
    Calls Try.prog 8 #[.string a0, .string a1] w fun e w' => e = .returned (.bool r) ∧ Below w.heap.size w w' := by
  have hu23 := Try.underlying23
  have HB := Aside0.mk (Below.refl w.heap.size w)
  have H : ((augurylaw04_head.f k).bind fun t481 => (if (wrap64 ((a0.size : Int) + (a1.size : Int))) > 64 then (if t481 = true then (some true) else (none)) else ((augurylaw04_text.f a0).bind fun bt482 => (if a0.size + a1.size ≤ 9223372036854775807 then ((augurylaw04_text.f (a0 ++ a1)).bind fun bt486 => ((value_Compare.f 3 bt482.1 bt482.2.1 bt482.2.2 bt486.1 bt486.2.1 bt486.2.2).bind fun bt490 => ((value_Compare.f 6 bt482.1 bt482.2.1 bt482.2.2 bt486.1 bt486.2.1 bt486.2.2).bind fun bt492 => ((value_Put.f k bt486.1 bt486.2.1 bt486.2.2).bind fun t494 => (if (t494.length : Int) < 2 then (none) else (if t481 = true then (if bt490.2 = 0 then (if bt492.2 = 0 then (if (bt490.1 == (a1.toList != ([] : List UInt8))) = true then (if (bt492.1 == (a1.toList == ([] : List UInt8))) = true then (if (t494.length : Int) = (wrap64 ((wrap64 (2 + (a0.size : Int))) + (a1.size : Int))) then (if 1 < (t494.length : Int) then (if (wrap64 (rd t494 1)) = (wrap64 ((a0.size : Int) + (a1.size : Int))) then (some true) else (none)) else (none)) else (none)) else (none)) else (none)) else (none)) else (none)) else (none))))))) else (none))))) = some r := h
  clear h
  replace H := Option.bind_eq_some_iff.mp H
  obtain ⟨t481, A30, H⟩ := H
  replace H : (if (wrap64 ((a0.size : Int) + (a1.size : Int))) > 64 then (if t481 = true then (some true) else (none)) else ((augurylaw04_text.f a0).bind fun bt482 => (if a0.size + a1.size ≤ 9223372036854775807 then ((augurylaw04_text.f (a0 ++ a1)).bind fun bt486 => ((value_Compare.f 3 bt482.1 bt482.2.1 bt482.2.2 bt486.1 bt486.2.1 bt486.2.2).bind fun bt490 => ((value_Compare.f 6 bt482.1 bt482.2.1 bt482.2.2 bt486.1 bt486.2.1 bt486.2.2).bind fun bt492 => ((value_Put.f k bt486.1 bt486.2.1 bt486.2.2).bind fun t494 => (if (t494.length : Int) < 2 then (none) else (if t481 = true then (if bt490.2 = 0 then (if bt492.2 = 0 then (if (bt490.1 == (a1.toList != ([] : List UInt8))) = true then (if (bt492.1 == (a1.toList == ([] : List UInt8))) = true then (if (t494.length : Int) = (wrap64 ((wrap64 (2 + (a0.size : Int))) + (a1.size : Int))) then (if 1 < (t494.length : Int) then (if (wrap64 (rd t494 1)) = (wrap64 ((a0.size : Int) + (a1.size : Int))) then (some true) else (none)) else (none)) else (none)) else (none)) else (none)) else (none)) else (none)) else (none))))))) else (none)))) = some r := H
  have A3 := Aside0.mk A30
  clear A30
  by_cases c4 : (wrap64 ((a0.size : Int) + (a1.size : Int))) > 64
  · rw [if_pos c4] at H
    have c4b0 : decide (64 < (wrap64 ((a0.size : Int) + (a1.size : Int)))) = true := decide_eq_true c4
    clear c4
    by_cases c5 : t481 = true
    · subst c5
      have H1 : (some true) = some r := by rw [if_pos rfl] at H; exact H
      clear H
      have H := H1
      clear H1
      obtain rfl := Option.some.inj H
      go_enter Try.func8, Try.ntmps8
      go_wp2_with (first | ((with_reducible refine gate_callee (f := 9) rfl ?_); refine goesL_ (some 13) rfl rfl Try.func9 (by kernel_rfl) rfl #[] rfl (by (try simp only [List.map_toArray, List.map_cons, List.map_nil]); first | done | rfl | (simp only [List.length_drop, List.length_take]; rfl)) ?_; (with_reducible refine (augurylaw04_head.calls k  true _ A3.out).mono ?_); rintro e w6 ⟨rfl, hb⟩; refine ⟨_, rfl, ?_⟩; have n0_ := Aside0.mk (below_step (by repeat (first | (with_reducible first | exact HB.out | apply below_alloc | apply pw_below_drewN | apply below_drew1) | exact HB.out)) hb); clear HB; have HB := n0_; clear n0_; (try clear hb); (try clear hb2); (try clear hk); (try clear hi)))
      go_ret
      exact ⟨by first | rfl | (simp [errW_none, errW_some] <;> rfl) | (simp [*, errW_none, errW_some] <;> rfl), by repeat (first | (with_reducible first | exact HB.out | apply below_alloc | apply pw_below_drewN | apply below_drew1) | exact HB.out)⟩
    · replace c5 := Bool.eq_false_iff.mpr c5
      subst c5
      have H1 : (none) = some r := by rw [if_neg (show ¬ (false = true) by decide)] at H; exact H
      clear H
      have H := H1
      clear H1
      exact absurd H (by simp)
  · rw [if_neg c4] at H
    have c4b0 : decide (64 < (wrap64 ((a0.size : Int) + (a1.size : Int)))) = false := decide_eq_false c4
    clear c4
    replace H := Option.bind_eq_some_iff.mp H
    obtain ⟨⟨t482, t483, t484⟩, A70, H⟩ := H
    replace H : (if a0.size + a1.size ≤ 9223372036854775807 then ((augurylaw04_text.f (a0 ++ a1)).bind fun bt486 => ((value_Compare.f 3 t482 t483 t484 bt486.1 bt486.2.1 bt486.2.2).bind fun bt490 => ((value_Compare.f 6 t482 t483 t484 bt486.1 bt486.2.1 bt486.2.2).bind fun bt492 => ((value_Put.f k bt486.1 bt486.2.1 bt486.2.2).bind fun t494 => (if (t494.length : Int) < 2 then (none) else (if t481 = true then (if bt490.2 = 0 then (if bt492.2 = 0 then (if (bt490.1 == (a1.toList != ([] : List UInt8))) = true then (if (bt492.1 == (a1.toList == ([] : List UInt8))) = true then (if (t494.length : Int) = (wrap64 ((wrap64 (2 + (a0.size : Int))) + (a1.size : Int))) then (if 1 < (t494.length : Int) then (if (wrap64 (rd t494 1)) = (wrap64 ((a0.size : Int) + (a1.size : Int))) then (some true) else (none)) else (none)) else (none)) else (none)) else (none)) else (none)) else (none)) else (none))))))) else (none)) = some r := H
    have A7 := Aside0.mk A70
    clear A70
    by_cases c8 : a0.size + a1.size ≤ 9223372036854775807
    · rw [if_pos c8] at H
      have hsac8 : ∀ W : World, (Op.stringOp .add a0 a1).run Try.prog W = .ok (.string (a0 ++ a1)) W := fun W => run_string_add_sum W a0 a1 c8
      clear c8
      replace H := Option.bind_eq_some_iff.mp H
      obtain ⟨⟨t486, t487, t488⟩, A90, H⟩ := H
      replace H : ((value_Compare.f 3 t482 t483 t484 t486 t487 t488).bind fun bt490 => ((value_Compare.f 6 t482 t483 t484 t486 t487 t488).bind fun bt492 => ((value_Put.f k t486 t487 t488).bind fun t494 => (if (t494.length : Int) < 2 then (none) else (if t481 = true then (if bt490.2 = 0 then (if bt492.2 = 0 then (if (bt490.1 == (a1.toList != ([] : List UInt8))) = true then (if (bt492.1 == (a1.toList == ([] : List UInt8))) = true then (if (t494.length : Int) = (wrap64 ((wrap64 (2 + (a0.size : Int))) + (a1.size : Int))) then (if 1 < (t494.length : Int) then (if (wrap64 (rd t494 1)) = (wrap64 ((a0.size : Int) + (a1.size : Int))) then (some true) else (none)) else (none)) else (none)) else (none)) else (none)) else (none)) else (none)) else (none)))))) = some r := H
      have A9 := Aside0.mk A90
      clear A90
      replace H := Option.bind_eq_some_iff.mp H
      obtain ⟨⟨t490, t491⟩, A100, H⟩ := H
      replace H : ((value_Compare.f 6 t482 t483 t484 t486 t487 t488).bind fun bt492 => ((value_Put.f k t486 t487 t488).bind fun t494 => (if (t494.length : Int) < 2 then (none) else (if t481 = true then (if t491 = 0 then (if bt492.2 = 0 then (if (t490 == (a1.toList != ([] : List UInt8))) = true then (if (bt492.1 == (a1.toList == ([] : List UInt8))) = true then (if (t494.length : Int) = (wrap64 ((wrap64 (2 + (a0.size : Int))) + (a1.size : Int))) then (if 1 < (t494.length : Int) then (if (wrap64 (rd t494 1)) = (wrap64 ((a0.size : Int) + (a1.size : Int))) then (some true) else (none)) else (none)) else (none)) else (none)) else (none)) else (none)) else (none)) else (none))))) = some r := H
      have A10 := Aside0.mk A100
      clear A100
      replace H := Option.bind_eq_some_iff.mp H
      obtain ⟨⟨t492, t493⟩, A110, H⟩ := H
      replace H : ((value_Put.f k t486 t487 t488).bind fun t494 => (if (t494.length : Int) < 2 then (none) else (if t481 = true then (if t491 = 0 then (if t493 = 0 then (if (t490 == (a1.toList != ([] : List UInt8))) = true then (if (t492 == (a1.toList == ([] : List UInt8))) = true then (if (t494.length : Int) = (wrap64 ((wrap64 (2 + (a0.size : Int))) + (a1.size : Int))) then (if 1 < (t494.length : Int) then (if (wrap64 (rd t494 1)) = (wrap64 ((a0.size : Int) + (a1.size : Int))) then (some true) else (none)) else (none)) else (none)) else (none)) else (none)) else (none)) else (none)) else (none)))) = some r := H
      have A11 := Aside0.mk A110
      clear A110
      replace H := Option.bind_eq_some_iff.mp H
      obtain ⟨t494, A120, H⟩ := H
      replace H : (if (t494.length : Int) < 2 then (none) else (if t481 = true then (if t491 = 0 then (if t493 = 0 then (if (t490 == (a1.toList != ([] : List UInt8))) = true then (if (t492 == (a1.toList == ([] : List UInt8))) = true then (if (t494.length : Int) = (wrap64 ((wrap64 (2 + (a0.size : Int))) + (a1.size : Int))) then (if 1 < (t494.length : Int) then (if (wrap64 (rd t494 1)) = (wrap64 ((a0.size : Int) + (a1.size : Int))) then (some true) else (none)) else (none)) else (none)) else (none)) else (none)) else (none)) else (none)) else (none))) = some r := H
      have A12 := Aside0.mk A120
      clear A120
      by_cases c13 : (t494.length : Int) < 2
      · rw [if_pos c13] at H
        exact absurd H (by simp)
      · rw [if_neg c13] at H
        have c13b0 : decide ((t494.length : Int) < 2) = false := decide_eq_false c13
        have c13b1 : decide (t494.length < 2) = false := decide_eq_false (by omega)
        clear c13
        by_cases c14 : t481 = true
        · subst c14
          have H1 : (if t491 = 0 then (if t493 = 0 then (if (t490 == (a1.toList != ([] : List UInt8))) = true then (if (t492 == (a1.toList == ([] : List UInt8))) = true then (if (t494.length : Int) = (wrap64 ((wrap64 (2 + (a0.size : Int))) + (a1.size : Int))) then (if 1 < (t494.length : Int) then (if (wrap64 (rd t494 1)) = (wrap64 ((a0.size : Int) + (a1.size : Int))) then (some true) else (none)) else (none)) else (none)) else (none)) else (none)) else (none)) else (none)) = some r := by rw [if_pos rfl] at H; exact H
          clear H
          have H := H1
          clear H1
          by_cases c15 : t491 = 0
          · rw [if_pos c15] at H
            have c15b0 : (t491 == 0) = true := beq_iff_eq.mpr c15
            have c15b1 : (t491 != 0) = false := bne_eq_false_iff_eq.mpr c15
            clear c15
            by_cases c16 : t493 = 0
            · rw [if_pos c16] at H
              have c16b0 : (t493 == 0) = true := beq_iff_eq.mpr c16
              have c16b1 : (t493 != 0) = false := bne_eq_false_iff_eq.mpr c16
              clear c16
              by_cases c17 : (t490 == (a1.toList != ([] : List UInt8))) = true
              · rw [if_pos c17] at H
                have c17b0 : (t490 == (a1.toList != ([] : List UInt8))) = true := c17
                (try (have c17b1 : (t490 == (!a1.toList.isEmpty)) = true := by first | simpa using c17 | simpa [bne_nil_] using c17))
                (try (have c17b2 : decide (t490 = (!a1.toList.isEmpty)) = true := by first | simpa using c17 | simpa [bne_nil_] using c17))
                (try (have c17b3 : t490 = (!a1.toList.isEmpty) := by first | simpa using c17 | simpa [bne_nil_] using c17))
                (try (have c17b4 : decide (t490 = (a1.toList != ([] : List UInt8))) = true := by simpa using c17))
                (try (have c17b5 : (t490 == (a1.toList != ([] : List UInt8))) = true := by simpa using c17))
                clear c17
                by_cases c18 : (t492 == (a1.toList == ([] : List UInt8))) = true
                · rw [if_pos c18] at H
                  have c18b0 : (t492 == (a1.toList == ([] : List UInt8))) = true := c18
                  (try (have c18b1 : (t492 == (a1.toList.isEmpty)) = true := by first | simpa using c18 | simpa [bne_nil_] using c18))
                  (try (have c18b2 : decide (t492 = (a1.toList.isEmpty)) = true := by first | simpa using c18 | simpa [bne_nil_] using c18))
                  (try (have c18b3 : t492 = (a1.toList.isEmpty) := by first | simpa using c18 | simpa [bne_nil_] using c18))
                  (try (have c18b4 : decide (t492 = (a1.toList == ([] : List UInt8))) = true := by simpa using c18))
                  (try (have c18b5 : (t492 == (a1.toList == ([] : List UInt8))) = true := by simpa using c18))
                  clear c18
                  by_cases c19 : (t494.length : Int) = (wrap64 ((wrap64 (2 + (a0.size : Int))) + (a1.size : Int)))
                  · rw [if_pos c19] at H
                    have c19b0 : ((t494.length : Int) == (wrap64 ((wrap64 (2 + (a0.size : Int))) + (a1.size : Int)))) = true := beq_iff_eq.mpr c19
                    have c19b1 : ((t494.length : Int) != (wrap64 ((wrap64 (2 + (a0.size : Int))) + (a1.size : Int)))) = false := bne_eq_false_iff_eq.mpr c19
                    clear c19
                    by_cases c20 : 1 < (t494.length : Int)
                    · rw [if_pos c20] at H
                      have c20b0 : decide (1 < (t494.length : Int)) = true := decide_eq_true c20
                      have c20b1 : decide (1 < t494.length) = true := decide_eq_true (by omega)
                      clear c20
                      by_cases c21 : (wrap64 (rd t494 1)) = (wrap64 ((a0.size : Int) + (a1.size : Int)))
                      · rw [if_pos c21] at H
                        have c21b0 : ((wrap64 (rd t494 1)) == (wrap64 ((a0.size : Int) + (a1.size : Int)))) = true := beq_iff_eq.mpr c21
                        have c21b1 : ((wrap64 (rd t494 1)) != (wrap64 ((a0.size : Int) + (a1.size : Int)))) = false := bne_eq_false_iff_eq.mpr c21
                        clear c21
                        obtain rfl := Option.some.inj H
                        go_enter Try.func8, Try.ntmps8
                        go_wp2_with (first | ((with_reducible refine gate_callee (f := 9) rfl ?_); refine goesL_ (some 13) rfl rfl Try.func9 (by kernel_rfl) rfl #[] rfl (by (try simp only [List.map_toArray, List.map_cons, List.map_nil]); first | done | rfl | (simp only [List.length_drop, List.length_take]; rfl)) ?_; (with_reducible refine (augurylaw04_head.calls k  true _ A3.out).mono ?_); rintro e w22 ⟨rfl, hb⟩; refine ⟨_, rfl, ?_⟩; have n0_ := Aside0.mk (below_step (by repeat (first | (with_reducible first | exact HB.out | apply below_alloc | apply pw_below_drewN | apply below_drew1) | exact HB.out)) hb); clear HB; have HB := n0_; clear n0_; (try clear hb); (try clear hb2); (try clear hk); (try clear hi)) | ((with_reducible refine gate_callee (f := 23) rfl ?_); refine goesL_ (some 22) rfl rfl Try.func23 (by kernel_rfl) rfl #[.string a0] rfl (by (try simp only [List.map_toArray, List.map_cons, List.map_nil]); first | done | rfl | (simp only [List.length_drop, List.length_take]; rfl)) ?_; (with_reducible refine (augurylaw04_text.calls a0 t482 t483 t484 _ A7.out).mono ?_); rintro e w23 ⟨rfl, hb⟩; refine ⟨_, rfl, ?_⟩; have n0_ := Aside0.mk (below_step (by repeat (first | (with_reducible first | exact HB.out | apply below_alloc | apply pw_below_drewN | apply below_drew1) | exact HB.out)) hb); clear HB; have HB := n0_; clear n0_; (try clear hb); (try clear hb2); (try clear hk); (try clear hi)) | ((with_reducible refine gate_dst (N := 6) rfl ?_); (try (refine gate_guard (by rfl) ?_; dsimp only)); refine box_event ?hg (N := 6) ?hd (cs := #[.int .i64 0, .int .i64 0, .string (⟨#[]⟩ : ByteArray)]) (t := 23) ?hr ?_; (case hd => rfl); (case hg => rfl); (case hr => first | (go_simp; done) | (go_simp; rfl)); intro gb485 hg w24 hbox hb; have n0_ := Aside0.mk (below_step (by repeat (first | (with_reducible first | exact HB.out | apply below_alloc | apply pw_below_drewN | apply below_drew1) | exact HB.out)) hb); have n1_ := Aside0.mk (hbox); have n2_ := Aside0.mk ((by rw [hg]; exact (below_size (by repeat (first | (with_reducible first | exact HB.out | apply below_alloc | apply pw_below_drewN | apply below_drew1) | exact HB.out))) : w.heap.size ≤ gb485)); have n3_ := Aside0.mk ((by rw [hg]; exact (below_size (by repeat (first | (with_reducible first | exact HB.out | apply below_alloc | apply pw_below_drewN | apply below_drew1) | exact HB.out))) : w.heap.size ≤ gb485)); clear HB; have HB := n0_; have BK485 := n1_; have GW485 := n2_; have GE485 := n3_; clear n0_ n1_ n2_ n3_; clear hb hbox hg; have hcz25_0 : w24.cell? ⟨gb485, 0, none⟩ = some (.int .i64 0) := (blk_cell BK485.out 0).trans rfl; have hcz25_1 : w24.cell? ⟨gb485, 1, none⟩ = some (.int .i64 0) := (blk_cell BK485.out 1).trans rfl; have hcz25_2 : w24.cell? ⟨gb485, 2, none⟩ = some (.string (⟨#[]⟩ : ByteArray)) := (blk_cell BK485.out 2).trans rfl; have hfz25_0 := blk_frozen BK485.out 0; have hfz25_1 := blk_frozen BK485.out 1; have hfz25_2 := blk_frozen BK485.out 2) | ((with_reducible refine gate_callee (f := 23) rfl ?_); refine goesL_ (some 26) rfl rfl Try.func23 (by kernel_rfl) rfl #[.string (a0 ++ a1)] rfl (by (try simp only [List.map_toArray, List.map_cons, List.map_nil]); first | done | rfl | (simp only [List.length_drop, List.length_take]; rfl)) ?_; (with_reducible refine (augurylaw04_text.calls (a0 ++ a1) t486 t487 t488 _ A9.out).mono ?_); rintro e w26 ⟨rfl, hb⟩; refine ⟨_, rfl, ?_⟩; have n0_ := Aside0.mk (blk_below (g := gb485) (o := .cells #[.int .i64 t482, .int .i64 t483, .string t484] 23 (0, 0)) (by (with_reducible repeat (first | refine blk_drewN ?_ _ | refine blk_drew ?_ | refine blk_alloc ?_ _)); refine blk_put (cs := #[.int .i64 t482, .int .i64 t483, .string (⟨#[]⟩ : ByteArray)]) ?_ 2 _ rfl; (with_reducible repeat (first | refine blk_drewN ?_ _ | refine blk_drew ?_ | refine blk_alloc ?_ _)); refine blk_put (cs := #[.int .i64 t482, .int .i64 0, .string (⟨#[]⟩ : ByteArray)]) ?_ 1 _ rfl; (with_reducible repeat (first | refine blk_drewN ?_ _ | refine blk_drew ?_ | refine blk_alloc ?_ _)); refine blk_put (cs := #[.int .i64 0, .int .i64 0, .string (⟨#[]⟩ : ByteArray)]) ?_ 0 _ rfl; (with_reducible repeat (first | refine blk_drewN ?_ _ | refine blk_drew ?_ | refine blk_alloc ?_ _)); exact BK485.out) hb); have n1_ := Aside0.mk (below_step (by repeat (first | (with_reducible first | exact HB.out | apply below_alloc | apply pw_below_drewN | apply below_drew1 | refine below_set ?_ GE485.out) | exact HB.out)) hb); clear BK485; clear HB; have BK485 := n0_; have HB := n1_; clear n0_ n1_; (try clear hb); (try clear hb2); (try clear hk); (try clear hi)) | ((with_reducible refine gate_dst (N := 7) rfl ?_); (try (refine gate_guard (by rfl) ?_; dsimp only)); refine box_event ?hg (N := 7) ?hd (cs := #[.int .i64 0, .int .i64 0, .string (⟨#[]⟩ : ByteArray)]) (t := 23) ?hr ?_; (case hd => rfl); (case hg => rfl); (case hr => first | (go_simp; done) | (go_simp; rfl)); intro gb489 hg w27 hbox hb; have n0_ := Aside0.mk (blk_below (g := gb485) (o := .cells #[.int .i64 t482, .int .i64 t483, .string t484] 23 (0, 0)) (by (with_reducible repeat (first | refine blk_drewN ?_ _ | refine blk_drew ?_ | refine blk_alloc ?_ _)); exact BK485.out) hb); have n1_ := Aside0.mk (below_step (by repeat (first | (with_reducible first | exact HB.out | apply below_alloc | apply pw_below_drewN | apply below_drew1 | refine below_set ?_ GE485.out) | exact HB.out)) hb); have n2_ := Aside0.mk (hbox); have n3_ := Aside0.mk ((by rw [hg]; exact (below_size (by repeat (first | (with_reducible first | exact HB.out | apply below_alloc | apply pw_below_drewN | apply below_drew1 | refine below_set ?_ GE485.out) | exact HB.out))) : w.heap.size ≤ gb489)); have n4_ := Aside0.mk ((by rw [hg]; exact (below_size (by repeat (first | (with_reducible first | exact HB.out | apply below_alloc | apply pw_below_drewN | apply below_drew1 | refine below_set ?_ GE485.out) | exact HB.out))) : w.heap.size ≤ gb489)); have n5_ := Aside0.mk ((by rw [hg]; exact Nat.ne_of_lt (blk_lt (g := gb485) (o := .cells #[.int .i64 t482, .int .i64 t483, .string t484] 23 (0, 0)) (by (with_reducible repeat (first | refine blk_drewN ?_ _ | refine blk_drew ?_ | refine blk_alloc ?_ _)); exact BK485.out)) : gb485 ≠ gb489)); have n6_ := Aside0.mk ((by rw [hg]; exact Nat.ne_of_gt (blk_lt (g := gb485) (o := .cells #[.int .i64 t482, .int .i64 t483, .string t484] 23 (0, 0)) (by (with_reducible repeat (first | refine blk_drewN ?_ _ | refine blk_drew ?_ | refine blk_alloc ?_ _)); exact BK485.out)) : gb489 ≠ gb485)); clear BK485; clear HB; have BK485 := n0_; have HB := n1_; have BK489 := n2_; have GW489 := n3_; have GE489 := n4_; have NB485_489 := n5_; have NB489_485 := n6_; clear n0_ n1_ n2_ n3_ n4_ n5_ n6_; clear hb hbox hg; have hnb28 := NB489_485.out; have hnc28 := NB485_489.out; have hcz29_0 : w27.cell? ⟨gb489, 0, none⟩ = some (.int .i64 0) := (blk_cell BK489.out 0).trans rfl; have hcz29_1 : w27.cell? ⟨gb489, 1, none⟩ = some (.int .i64 0) := (blk_cell BK489.out 1).trans rfl; have hcz29_2 : w27.cell? ⟨gb489, 2, none⟩ = some (.string (⟨#[]⟩ : ByteArray)) := (blk_cell BK489.out 2).trans rfl; have hfz29_0 := blk_frozen BK489.out 0; have hfz29_1 := blk_frozen BK489.out 1; have hfz29_2 := blk_frozen BK489.out 2; have hcz30_0 : w27.cell? ⟨gb485, 0, none⟩ = some (.int .i64 t482) := (blk_cell BK485.out 0).trans rfl; have hcz30_1 : w27.cell? ⟨gb485, 1, none⟩ = some (.int .i64 t483) := (blk_cell BK485.out 1).trans rfl; have hcz30_2 : w27.cell? ⟨gb485, 2, none⟩ = some (.string t484) := (blk_cell BK485.out 2).trans rfl; have hfz30_0 := blk_frozen BK485.out 0; have hfz30_1 := blk_frozen BK485.out 1; have hfz30_2 := blk_frozen BK485.out 2) | ((with_reducible refine gate_callee (f := 14) rfl ?_); refine goesL_ (some 30) rfl rfl Try.func14 (by kernel_rfl) rfl #[.int .i64 3, .agg #[.int .i64 t482, .int .i64 t483, .string t484], .agg #[.int .i64 t486, .int .i64 t487, .string t488]] rfl (by (try simp only [List.map_toArray, List.map_cons, List.map_nil]); first | done | rfl | (simp only [List.length_drop, List.length_take]; rfl)) ?_; (with_reducible refine (value_Compare.calls 3 t482 t483 t484 t486 t487 t488 t490 t491 _ A10.out).mono ?_); rintro e w31 ⟨rfl, hb⟩; refine ⟨_, rfl, ?_⟩; have n0_ := Aside0.mk (blk_below (g := gb485) (o := .cells #[.int .i64 t482, .int .i64 t483, .string t484] 23 (0, 0)) (by (with_reducible repeat (first | refine blk_drewN ?_ _ | refine blk_drew ?_ | refine blk_alloc ?_ _)); refine blk_far ?_ NB485_489.out _; (with_reducible repeat (first | refine blk_drewN ?_ _ | refine blk_drew ?_ | refine blk_alloc ?_ _)); refine blk_far ?_ NB485_489.out _; (with_reducible repeat (first | refine blk_drewN ?_ _ | refine blk_drew ?_ | refine blk_alloc ?_ _)); refine blk_far ?_ NB485_489.out _; (with_reducible repeat (first | refine blk_drewN ?_ _ | refine blk_drew ?_ | refine blk_alloc ?_ _)); exact BK485.out) hb); have n1_ := Aside0.mk (blk_below (g := gb489) (o := .cells #[.int .i64 t486, .int .i64 t487, .string t488] 23 (0, 0)) (by (with_reducible repeat (first | refine blk_drewN ?_ _ | refine blk_drew ?_ | refine blk_alloc ?_ _)); refine blk_put (cs := #[.int .i64 t486, .int .i64 t487, .string (⟨#[]⟩ : ByteArray)]) ?_ 2 _ rfl; (with_reducible repeat (first | refine blk_drewN ?_ _ | refine blk_drew ?_ | refine blk_alloc ?_ _)); refine blk_put (cs := #[.int .i64 t486, .int .i64 0, .string (⟨#[]⟩ : ByteArray)]) ?_ 1 _ rfl; (with_reducible repeat (first | refine blk_drewN ?_ _ | refine blk_drew ?_ | refine blk_alloc ?_ _)); refine blk_put (cs := #[.int .i64 0, .int .i64 0, .string (⟨#[]⟩ : ByteArray)]) ?_ 0 _ rfl; (with_reducible repeat (first | refine blk_drewN ?_ _ | refine blk_drew ?_ | refine blk_alloc ?_ _)); exact BK489.out) hb); have n2_ := Aside0.mk (below_step (by repeat (first | (with_reducible first | exact HB.out | apply below_alloc | apply pw_below_drewN | apply below_drew1 | refine below_set ?_ GE485.out | refine below_set ?_ GE489.out) | exact HB.out)) hb); clear BK485; clear BK489; clear HB; have BK485 := n0_; have BK489 := n1_; have HB := n2_; clear n0_ n1_ n2_; (try clear hb); (try clear hb2); (try clear hk); (try clear hi); have hcz32_0 : w31.cell? ⟨gb485, 0, none⟩ = some (.int .i64 t482) := (blk_cell BK485.out 0).trans rfl; have hcz32_1 : w31.cell? ⟨gb485, 1, none⟩ = some (.int .i64 t483) := (blk_cell BK485.out 1).trans rfl; have hcz32_2 : w31.cell? ⟨gb485, 2, none⟩ = some (.string t484) := (blk_cell BK485.out 2).trans rfl; have hfz32_0 := blk_frozen BK485.out 0; have hfz32_1 := blk_frozen BK485.out 1; have hfz32_2 := blk_frozen BK485.out 2; have hcz33_0 : w31.cell? ⟨gb489, 0, none⟩ = some (.int .i64 t486) := (blk_cell BK489.out 0).trans rfl; have hcz33_1 : w31.cell? ⟨gb489, 1, none⟩ = some (.int .i64 t487) := (blk_cell BK489.out 1).trans rfl; have hcz33_2 : w31.cell? ⟨gb489, 2, none⟩ = some (.string t488) := (blk_cell BK489.out 2).trans rfl; have hfz33_0 := blk_frozen BK489.out 0; have hfz33_1 := blk_frozen BK489.out 1; have hfz33_2 := blk_frozen BK489.out 2) | ((with_reducible refine gate_callee (f := 14) rfl ?_); refine goesL_ (some 36) rfl rfl Try.func14 (by kernel_rfl) rfl #[.int .i64 6, .agg #[.int .i64 t482, .int .i64 t483, .string t484], .agg #[.int .i64 t486, .int .i64 t487, .string t488]] rfl (by (try simp only [List.map_toArray, List.map_cons, List.map_nil]); first | done | rfl | (simp only [List.length_drop, List.length_take]; rfl)) ?_; (with_reducible refine (value_Compare.calls 6 t482 t483 t484 t486 t487 t488 t492 t493 _ A11.out).mono ?_); rintro e w34 ⟨rfl, hb⟩; refine ⟨_, rfl, ?_⟩; have n0_ := Aside0.mk (blk_below (g := gb485) (o := .cells #[.int .i64 t482, .int .i64 t483, .string t484] 23 (0, 0)) (by (with_reducible repeat (first | refine blk_drewN ?_ _ | refine blk_drew ?_ | refine blk_alloc ?_ _)); exact BK485.out) hb); have n1_ := Aside0.mk (blk_below (g := gb489) (o := .cells #[.int .i64 t486, .int .i64 t487, .string t488] 23 (0, 0)) (by (with_reducible repeat (first | refine blk_drewN ?_ _ | refine blk_drew ?_ | refine blk_alloc ?_ _)); exact BK489.out) hb); have n2_ := Aside0.mk (below_step (by repeat (first | (with_reducible first | exact HB.out | apply below_alloc | apply pw_below_drewN | apply below_drew1 | refine below_set ?_ GE485.out | refine below_set ?_ GE489.out) | exact HB.out)) hb); clear BK485; clear BK489; clear HB; have BK485 := n0_; have BK489 := n1_; have HB := n2_; clear n0_ n1_ n2_; (try clear hb); (try clear hb2); (try clear hk); (try clear hi); have hcz35_0 : w34.cell? ⟨gb489, 0, none⟩ = some (.int .i64 t486) := (blk_cell BK489.out 0).trans rfl; have hcz35_1 : w34.cell? ⟨gb489, 1, none⟩ = some (.int .i64 t487) := (blk_cell BK489.out 1).trans rfl; have hcz35_2 : w34.cell? ⟨gb489, 2, none⟩ = some (.string t488) := (blk_cell BK489.out 2).trans rfl; have hfz35_0 := blk_frozen BK489.out 0; have hfz35_1 := blk_frozen BK489.out 1; have hfz35_2 := blk_frozen BK489.out 2) | ((with_reducible refine gate_callee (f := 18) rfl ?_); refine goesL_ (some 40) rfl rfl Try.func18 (by kernel_rfl) rfl #[.agg #[.int .i64 t486, .int .i64 t487, .string t488]] rfl (by (try simp only [List.map_toArray, List.map_cons, List.map_nil]); first | done | rfl | (simp only [List.length_drop, List.length_take]; rfl)) ?_; (with_reducible refine (value_Put.calls k t486 t487 t488 t494 _ A12.out).mono ?_); rintro e w36 ⟨v495, rfl, ho0, hb⟩; refine ⟨_, rfl, ?_⟩; have n0_ := Aside0.mk (Kd.R_lower ho0 (below_size (by repeat (first | (with_reducible first | exact HB.out | apply below_alloc | apply pw_below_drewN | apply below_drew1 | refine below_set ?_ GE485.out | refine below_set ?_ GE489.out) | exact HB.out)))); have n1_ := Aside0.mk (blk_below (g := gb485) (o := .cells #[.int .i64 t482, .int .i64 t483, .string t484] 23 (0, 0)) (by (with_reducible repeat (first | refine blk_drewN ?_ _ | refine blk_drew ?_ | refine blk_alloc ?_ _)); exact BK485.out) hb); have n2_ := Aside0.mk (blk_below (g := gb489) (o := .cells #[.int .i64 t486, .int .i64 t487, .string t488] 23 (0, 0)) (by (with_reducible repeat (first | refine blk_drewN ?_ _ | refine blk_drew ?_ | refine blk_alloc ?_ _)); exact BK489.out) hb); have n3_ := Aside0.mk (below_step (by repeat (first | (with_reducible first | exact HB.out | apply below_alloc | apply pw_below_drewN | apply below_drew1 | refine below_set ?_ GE485.out | refine below_set ?_ GE489.out) | exact HB.out)) hb); clear BK485; clear BK489; clear HB; have HO496 := n0_; have BK485 := n1_; have BK489 := n2_; have HB := n3_; clear n0_ n1_ n2_ n3_; (try clear hb); (try clear hb2); (try clear hk); (try clear hi); (try clear ho0); obtain ⟨Ao37, co37, eo37⟩ := Kd.R_slice HO496.out; subst eo37; have p497 : 0 ≤ (1 : Int) := (by omega); have q497 : 1 < (t494.length : Int) := of_decide_eq_true (by first | (with_reducible assumption) | assumption); obtain ⟨ad497, e497, hx497_0⟩ := Kd.at_int (Kd.R_reads' HO496.out).2.2 1 p497 q497; cases e497; (try simp only [show (1 : Int).toNat = 1 from rfl, Nat.reduceMul, Nat.reduceEqDiff, Go.Addr.add, ↓reduceIte] at hx497_0); have qi497 : (1 < t494.length) = True := eq_true (by omega); (try rw [show ((1 : Int)).toNat = 1 from rfl] at hx497_0); replace p497 := eq_true p497; replace q497 := eq_true q497))
                        go_ret
                        exact ⟨by first | rfl | (simp [errW_none, errW_some] <;> rfl) | (simp [*, errW_none, errW_some] <;> rfl), by repeat (first | (with_reducible first | exact HB.out | apply below_alloc | apply pw_below_drewN | apply below_drew1 | refine below_set ?_ GE485.out | refine below_set ?_ GE489.out) | exact HB.out)⟩
                      · rw [if_neg c21] at H
                        exact absurd H (by simp)
                    · rw [if_neg c20] at H
                      exact absurd H (by simp)
                  · rw [if_neg c19] at H
                    exact absurd H (by simp)
                · rw [if_neg c18] at H
                  exact absurd H (by simp)
              · rw [if_neg c17] at H
                exact absurd H (by simp)
            · rw [if_neg c16] at H
              exact absurd H (by simp)
          · rw [if_neg c15] at H
            exact absurd H (by simp)
        · replace c14 := Bool.eq_false_iff.mpr c14
          subst c14
          have H1 : (none) = some r := by rw [if_neg (show ¬ (false = true) by decide)] at H; exact H
          clear H
          have H := H1
          clear H1
          exact absurd H (by simp)
    · rw [if_neg c8] at H
      exact absurd H (by simp)

/-- THE ONE PURE STATEMENT of augurylaw04_ValueTexts: yours. -/
def augurylaw04_ValueTexts.Pure : Prop := ∀ (a0 : ByteArray) (a1 : ByteArray), a0.size ≤ 140737488351232 → a1.size ≤ 140737488351232 → ∃ k, augurylaw04_ValueTexts.f k a0 a1 = some true
theorem augurylaw04_ValueTexts.walk (P : augurylaw04_ValueTexts.Pure) (a0 : ByteArray) (a1 : ByteArray) (w : World) (w0 : a0.size ≤ 140737488351232) (w1 : a1.size ≤ 140737488351232) :
    Calls Try.prog 8 #[.string a0, .string a1] w fun e w' => e = .returned (.bool true) ∧ Below w.heap.size w w' := by
  obtain ⟨k, h⟩ := P a0 a1 w0 w1
  refine (augurylaw04_ValueTexts.calls k a0 a1 true w h).mono ?_
  rintro e w' ⟨rfl, hd⟩
  exact ⟨rfl, hd⟩

end Go.Proofs.Ytlbaoekmnfeogaa.PAll
