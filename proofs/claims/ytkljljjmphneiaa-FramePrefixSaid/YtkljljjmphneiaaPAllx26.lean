/- Written by this session's own program (wip/xprint): functions of the Go program as Lean functions, and proofs that the Go code computes them. -/
import Derived.Test.YtkljljjmphneiaaPAllx0
import Derived.Test.YtkljljjmphneiaaPAllx24
namespace Go.Proofs.Ytkljljjmphneiaa.PAll
open Go.RowKit Go.Proofs.YtkljljjmphneiaaW.PrintWords Go.Proofs.YtkljljjmphneiaaW.PrintLast Go.Proofs.YtkljljjmphneiaaW.PrintMore
attribute [local go_sem] max2_int min2_int max_two min_two max_three min_three max_four min_four   -- for this text's walks alone
set_option linter.unusedVariables false
set_option linter.unusedSimpArgs false

/-! ### auguryref02_Put: function 15 -/
def auguryref02_Put.f (k : Nat) (a0 : ByteArray) : Option (List Int) := if (a0.size : Int) > 4096 then (some ([] : List Int)) else ((auguryref02_Sum.f k a0).bind fun t196 => ((some (([82, (wrap64 ((a0.size : Int) / 256)) % 256, (a0.size : Int) % 256, (wrap64 (Int.tdiv t196 256)) % 256, (Int.tmod t196 256) % 256] : List Int) : List Int)).bind fun y197 => (if y197.length + a0.size < 140737488355328 then (some (y197 ++ bytesOf a0)) else (none))))
theorem auguryref02_Put.mono : ∀ a0 k, LeO (auguryref02_Put.f k a0) (auguryref02_Put.f (k + 1) a0) := by
  intro a0 k
  unfold auguryref02_Put.f
  repeat' first
      | (with_reducible exact auguryref02_Sum.mono _ _)
      | (with_reducible exact LeO.refl _)
      | (with_reducible exact LeO.none _)
      | (with_reducible refine LeO.ite ?_ ?_)
      | (with_reducible refine LeO.bind ?_ (fun _ => ?_))
      | exact auguryref02_Sum.mono _ _
      | exact LeO.none _
      | refine LeO.ite ?_ ?_
      | refine LeO.bind ?_ (fun _ => ?_)
set_option maxHeartbeats 8000000 in
set_option maxRecDepth 100000 in
theorem auguryref02_Put.calls (k : Nat) (a0 : ByteArray) (r : List Int) (w : World) (h : auguryref02_Put.f k a0 = some r) :
    Calls Try.prog 15 #[.string a0] w fun e w' => ∃ v0_ : Value, e = .returned (v0_) ∧ Kd.R (Kd.int .u8) 5 w' w.heap.size (fun _ => True) v0_ r ∧ Below w.heap.size w w' := by
  have HB := Aside0.mk (Below.refl w.heap.size w)
  have H : (if (a0.size : Int) > 4096 then (some ([] : List Int)) else ((auguryref02_Sum.f k a0).bind fun t196 => ((some (([82, (wrap64 ((a0.size : Int) / 256)) % 256, (a0.size : Int) % 256, (wrap64 (Int.tdiv t196 256)) % 256, (Int.tmod t196 256) % 256] : List Int) : List Int)).bind fun y197 => (if y197.length + a0.size < 140737488355328 then (some (y197 ++ bytesOf a0)) else (none))))) = some r := h
  clear h
  by_cases c2 : (a0.size : Int) > 4096
  · rw [if_pos c2] at H
    have c2b0 : decide (4096 < (a0.size : Int)) = true := decide_eq_true c2
    have c2b1 : decide (4096 < a0.size) = true := decide_eq_true (by omega)
    clear c2
    obtain rfl := Option.some.inj H
    go_enter Try.func15, Try.ntmps15
    go_wp2
    go_ret
    exact ⟨_, by first | rfl | (simp [errW_none, errW_some] <;> rfl) | (simp [*, errW_none, errW_some] <;> rfl), by first | exact Kd.R_nil _ _ _ _ _ | exact Kd.N_nil _ _ _ _ _ | exact Kd.V_nil _ _ _ _ _ | exact Kd.Q_nil _ _ _ _ _ | exact Kd.S_nil _ _ _ _ _, by repeat (first | (with_reducible first | exact HB.out | apply below_alloc | apply pw_below_drewN | apply below_drew1) | exact HB.out)⟩
  · rw [if_neg c2] at H
    have c2b0 : decide (4096 < (a0.size : Int)) = false := decide_eq_false c2
    have c2b1 : decide (4096 < a0.size) = false := decide_eq_false (by omega)
    clear c2
    replace H := Option.bind_eq_some_iff.mp H
    obtain ⟨t196, A30, H⟩ := H
    replace H : ((some (([82, (wrap64 ((a0.size : Int) / 256)) % 256, (a0.size : Int) % 256, (wrap64 (Int.tdiv t196 256)) % 256, (Int.tmod t196 256) % 256] : List Int) : List Int)).bind fun y197 => (if y197.length + a0.size < 140737488355328 then (some (y197 ++ bytesOf a0)) else (none))) = some r := H
    have A3 := Aside0.mk A30
    clear A30
    obtain ⟨y197, hy197⟩ : ∃ y_ : List Int, y_ = (([82, (wrap64 ((a0.size : Int) / 256)) % 256, (a0.size : Int) % 256, (wrap64 (Int.tdiv t196 256)) % 256, (Int.tmod t196 256) % 256] : List Int)) := ⟨_, rfl⟩
    replace H : (if y197.length + a0.size < 140737488355328 then (some (y197 ++ bytesOf a0)) else (none)) = some r := by first | (rw [hy197]; with_reducible exact H) | (have H2_ := (Option.bind_some _ _).symm.trans H; rw [hy197]; with_reducible exact H2_) | (have H2_ := (Option.bind_some _ _).symm.trans H; with_reducible exact H2_) | with_reducible exact H | (rw [hy197]; exact H) | exact H
    have Ny197 := Aside0.mk hy197
    clear hy197
    by_cases c4 : y197.length + a0.size < 140737488355328
    · rw [if_pos c4] at H
      have LMc4 := Aside0.mk c4
      clear c4
      obtain ⟨y200, hy200⟩ : ∃ y_ : List Int, y_ = (y197 ++ bytesOf a0) := ⟨_, rfl⟩
      replace H : (some y200) = some r := by first | (rw [hy200]; with_reducible exact H) | (have H2_ := (Option.bind_some _ _).symm.trans H; rw [hy200]; with_reducible exact H2_) | (have H2_ := (Option.bind_some _ _).symm.trans H; with_reducible exact H2_) | with_reducible exact H | (rw [hy200]; exact H) | exact H
      have Ny200 := Aside0.mk hy200
      clear hy200
      obtain rfl := Option.some.inj H
      go_enter Try.func15, Try.ntmps15
      go_wp2_with (first | ((with_reducible refine gate_callee (f := 13) rfl ?_); refine goesL_ (some 8) rfl rfl Try.func13 (by kernel_rfl) rfl #[.string a0] rfl (by (try simp only [List.map_toArray, List.map_cons, List.map_nil]); first | done | rfl | (simp only [List.length_drop, List.length_take]; rfl)) ?_; (with_reducible refine (auguryref02_Sum.calls k a0 t196 _ A3.out).mono ?_); rintro e w' ⟨rfl, ⟨nd, rfl⟩⟩; refine ⟨_, rfl, ?_⟩) | ((with_reducible refine gate_dst (N := 23) rfl ?_); refine Kd.R_lit (Kd.int .u8) _ 5 ?hg (N := 23) ?hd (xs := ([82, (wrap64 ((a0.size : Int) / 256)) % 256, (a0.size : Int) % 256, (wrap64 (Int.tdiv t196 256)) % 256, (Int.tmod t196 256) % 256] : List Int)) (inner := [.int .u8 82, .int .u8 ((wrap64 ((a0.size : Int) / 256)) % 256), .int .u8 ((a0.size : Int) % 256), .int .u8 ((wrap64 (Int.tdiv t196 256)) % 256), .int .u8 ((Int.tmod t196 256) % 256)]) (ok := fun _ => True) (okp := fun _ => True) ?hr ?hp (fun _ hk => hk) trivial (Below.refl _ _) (Nat.le_refl _) (by simp) ?_; (case hd => rfl); (case hg => rfl); (case hr => first | (go_simp; done) | (go_simp; rfl)); (case hp => exact (Reps.one (show Kd.M (Kd.int .u8) _ _ _ 82 [.int .u8 82] from rfl) (Reps.one (show Kd.M (Kd.int .u8) _ _ _ ((wrap64 ((a0.size : Int) / 256)) % 256) [.int .u8 ((wrap64 ((a0.size : Int) / 256)) % 256)] from rfl) (Reps.one (show Kd.M (Kd.int .u8) _ _ _ ((a0.size : Int) % 256) [.int .u8 ((a0.size : Int) % 256)] from rfl) (Reps.one (show Kd.M (Kd.int .u8) _ _ _ ((wrap64 (Int.tdiv t196 256)) % 256) [.int .u8 ((wrap64 (Int.tdiv t196 256)) % 256)] from rfl) (Reps.one (show Kd.M (Kd.int .u8) _ _ _ ((Int.tmod t196 256) % 256) [.int .u8 ((Int.tmod t196 256) % 256)] from rfl) (Reps.none _ _))))))); intro v198 w5 ho6 hb hg_ hnew_; clear hg_ hnew_; (first | rw [← Ny197.out] at ho6 | (simp only [Int.reduceToNat] at ho6; rw [← Ny197.out] at ho6)); have n0_ := Aside0.mk (Kd.R_lower ho6 (below_size (by repeat (first | (with_reducible first | exact HB.out | apply below_alloc | apply pw_below_drewN | apply below_drew1) | exact HB.out)))); have n1_ := Aside0.mk (below_step (by repeat (first | (with_reducible first | exact HB.out | apply below_alloc | apply pw_below_drewN | apply below_drew1) | exact HB.out)) hb); clear HB; have HO199 := n0_; have HB := n1_; clear n0_ n1_; clear hb ho6) | (at_builtin; refine print_append_str (w0 := w) w.heap.size rfl (.tmp 23) _ 22 9 5 rfl Try.underlying22 Try.underlying9 info5 v198 y197 a0 rfl rfl ?aO ?aB ?aS ?aL ?_; (case aB => exact (by repeat (first | (with_reducible first | exact HB.out | apply below_alloc | apply pw_below_drewN | apply below_drew1) | exact HB.out))); (case aO => exact (Kd.own_of_R (by (with_reducible repeat (first | apply Kd.R_alloc | apply Kd.R_drewN | apply Kd.R_drew)); exact HO199.out))); (case aS => exact (below_size (by repeat (first | (with_reducible first | exact HB.out | apply below_alloc | apply pw_below_drewN | apply below_drew1) | exact HB.out)))); (case aL => have := LMc4.out; omega); intro v201 w7 ho0 hb hg; have ho := Kd.R_of_own (h1 := fun _ => rfl) (ok := fun _ => True) ho0 (fun _ _ => trivial); clear ho0; have hat := True.intro; rw [← Ny200.out] at ho; change Kd.R (Kd.int .u8) 5 w7 w.heap.size (fun _ => True) v201 y200 at ho; have n0_ := Aside0.mk (hb); have n1_ := Aside0.mk (ho); clear HB; clear HO199; have HB := n0_; have HO202 := n1_; clear n0_ n1_; clear ho hb hg hat))
      go_ret
      exact ⟨_, by first | rfl | (simp [errW_none, errW_some] <;> rfl) | (simp [*, errW_none, errW_some] <;> rfl), by (with_reducible repeat (first | apply Kd.R_alloc | apply Kd.R_drewN | apply Kd.R_drew)); exact HO202.out, by repeat (first | (with_reducible first | exact HB.out | apply below_alloc | apply pw_below_drewN | apply below_drew1) | exact HB.out)⟩
    · rw [if_neg c4] at H
      exact absurd H (by simp)

end Go.Proofs.Ytkljljjmphneiaa.PAll
