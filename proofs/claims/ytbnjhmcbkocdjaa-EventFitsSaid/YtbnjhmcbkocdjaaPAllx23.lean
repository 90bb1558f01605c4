/- Written by this session's own program (wip/xprint): functions of the Go program as Lean functions, and proofs that the Go code computes them. -/
import Derived.Test.YtbnjhmcbkocdjaaPAllx0
import Derived.Test.YtbnjhmcbkocdjaaPAllx16
import Derived.Test.YtbnjhmcbkocdjaaPAllx20
import Derived.Test.YtbnjhmcbkocdjaaPAllx22
namespace Go.Proofs.Ytbnjhmcbkocdjaa.PAll
open Go.RowKit Go.Proofs.YtbnjhmcbkocdjaaW.PrintWords Go.Proofs.YtbnjhmcbkocdjaaW.PrintLast Go.Proofs.YtbnjhmcbkocdjaaW.PrintMore
attribute [local go_sem] max2_int min2_int max_two min_two max_three min_three max_four min_four   -- for this text's walks alone
set_option linter.unusedVariables false
set_option linter.unusedSimpArgs false

/-! ### event_Put: function 21 -/
mutual
def event_Put.l0 : Nat → List Int → Int → Int → Int → Int → Int → ByteArray → List (S52) → List Int → Option (List Int)
  | 0, _, _, _, _, _, _, _, _, _ => none
  | k + 1, x305, x306, x307, x171000, x171001, x171002, x171003, x171004, x173000 => if x307 < x306 then (if 0 ≤ x307 then (if x307 < (x305.length : Int) then ((event_digits.f k (rd x305 x307)).bind fun t177 => (if x173000.length + t177.length < 140737488355328 then (event_Put.l0 k x305 x306 (wrap64 (x307 + 1)) x171000 x171001 x171002 x171003 x171004 (x173000 ++ t177)) else (none))) else (none)) else (none)) else (if x173000.length + x171003.size < 140737488355328 then ((some (([(x171004.length : Int)] : List Int) : List Int)).bind fun y186 => (event_Put.l1 k y186 (y186.length : Int) 0 x171000 x171001 x171002 x171003 x171004 (x173000 ++ bytesOf x171003))) else (none))
def event_Put.l1 : Nat → List Int → Int → Int → Int → Int → Int → ByteArray → List (S52) → List Int → Option (List Int)
  | 0, _, _, _, _, _, _, _, _, _ => none
  | k + 1, x321, x322, x323, x171000, x171001, x171002, x171003, x171004, x173000 => if x323 < x322 then (if 0 ≤ x323 then (if x323 < (x321.length : Int) then ((event_digits.f k (rd x321 x323)).bind fun t190 => (if x173000.length + t190.length < 140737488355328 then (event_Put.l1 k x321 x322 (wrap64 (x323 + 1)) x171000 x171001 x171002 x171003 x171004 (x173000 ++ t190)) else (none))) else (none)) else (none)) else (event_Put.l2 k x171004 (x171004.length : Int) 0 x173000)
def event_Put.l2 : Nat → List (S52) → Int → Int → List Int → Option (List Int)
  | 0, _, _, _, _ => none
  | k + 1, x34, x35, x36, x173000 => if x36 < x35 then (if 0 ≤ x36 then (if x36 < (x34.length : Int) then ((value_Put.f k ((rd_T52 x34 x36).f0) ((rd_T52 x34 x36).f1) ((rd_T52 x34 x36).f2)).bind fun t198 => (if x173000.length + t198.length < 140737488355328 then (event_Put.l2 k x34 x35 (wrap64 (x36 + 1)) (x173000 ++ t198)) else (none))) else (none)) else (none)) else (some x173000)
end
def event_Put.f (k : Nat) (a0_0 : Int) (a0_1 : Int) (a0_2 : Int) (a0_3 : ByteArray) (l0_4 : List (S52)) : Option (List Int) := (event_right.f k a0_0 a0_1 a0_2 a0_3 l0_4).bind fun t171 => (if t171 = true then ((some (([a0_0, a0_1, a0_2, (a0_3.size : Int)] : List Int) : List Int)).bind fun y173 => (event_Put.l0 k y173 (y173.length : Int) 0 a0_0 a0_1 a0_2 a0_3 l0_4 ([] : List Int))) else (some ([] : List Int)))
theorem event_Put.mono_l : ∀ k, (∀ y0 y1 y2 y3 y4 y5 y6 y7 y8, LeO (event_Put.l0 k y0 y1 y2 y3 y4 y5 y6 y7 y8) (event_Put.l0 (k + 1) y0 y1 y2 y3 y4 y5 y6 y7 y8)) ∧ (∀ y0 y1 y2 y3 y4 y5 y6 y7 y8, LeO (event_Put.l1 k y0 y1 y2 y3 y4 y5 y6 y7 y8) (event_Put.l1 (k + 1) y0 y1 y2 y3 y4 y5 y6 y7 y8)) ∧ (∀ y0 y1 y2 y3, LeO (event_Put.l2 k y0 y1 y2 y3) (event_Put.l2 (k + 1) y0 y1 y2 y3))
  | 0 => ⟨fun _ _ _ _ _ _ _ _ _ r h => by simp [event_Put.l0] at h, fun _ _ _ _ _ _ _ _ _ r h => by simp [event_Put.l1] at h, fun _ _ _ _ r h => by simp [event_Put.l2] at h⟩
  | k + 1 => by
    obtain ⟨ih0, ih1, ih2⟩ := event_Put.mono_l k
    refine ⟨?_, ?_, ?_⟩
    · intro y0 y1 y2 y3 y4 y5 y6 y7 y8
      unfold event_Put.l0
      repeat' first
      | (with_reducible exact ih0 _ _ _ _ _ _ _ _ _)
      | (with_reducible exact ih1 _ _ _ _ _ _ _ _ _)
      | (with_reducible exact ih2 _ _ _ _)
      | (with_reducible exact event_digits.mono _ _)
      | (with_reducible exact event_right.mono _ _ _ _ _ _)
      | (with_reducible exact value_Put.mono _ _ _ _)
      | (with_reducible exact LeO.refl _)
      | (with_reducible exact LeO.none _)
      | (with_reducible refine LeO.ite ?_ ?_)
      | (with_reducible refine LeO.bind ?_ (fun _ => ?_))
      | exact LeO.none _
      | refine LeO.ite ?_ ?_
      | refine LeO.bind ?_ (fun _ => ?_)
    · intro y0 y1 y2 y3 y4 y5 y6 y7 y8
      unfold event_Put.l1
      repeat' first
      | (with_reducible exact ih0 _ _ _ _ _ _ _ _ _)
      | (with_reducible exact ih1 _ _ _ _ _ _ _ _ _)
      | (with_reducible exact ih2 _ _ _ _)
      | (with_reducible exact event_digits.mono _ _)
      | (with_reducible exact event_right.mono _ _ _ _ _ _)
      | (with_reducible exact value_Put.mono _ _ _ _)
      | (with_reducible exact LeO.refl _)
      | (with_reducible exact LeO.none _)
      | (with_reducible refine LeO.ite ?_ ?_)
      | (with_reducible refine LeO.bind ?_ (fun _ => ?_))
      | exact LeO.none _
      | refine LeO.ite ?_ ?_
      | refine LeO.bind ?_ (fun _ => ?_)
    · intro y0 y1 y2 y3
      unfold event_Put.l2
      repeat' first
      | (with_reducible exact ih0 _ _ _ _ _ _ _ _ _)
      | (with_reducible exact ih1 _ _ _ _ _ _ _ _ _)
      | (with_reducible exact ih2 _ _ _ _)
      | (with_reducible exact event_digits.mono _ _)
      | (with_reducible exact event_right.mono _ _ _ _ _ _)
      | (with_reducible exact value_Put.mono _ _ _ _)
      | (with_reducible exact LeO.refl _)
      | (with_reducible exact LeO.none _)
      | (with_reducible refine LeO.ite ?_ ?_)
      | (with_reducible refine LeO.bind ?_ (fun _ => ?_))
      | exact LeO.none _
      | refine LeO.ite ?_ ?_
      | refine LeO.bind ?_ (fun _ => ?_)
theorem event_Put.mono : ∀ a0 a1 a2 a3 a4 k, LeO (event_Put.f k a0 a1 a2 a3 a4) (event_Put.f (k + 1) a0 a1 a2 a3 a4) := by
  intro a0 a1 a2 a3 a4 k
  obtain ⟨ih0, ih1, ih2⟩ := event_Put.mono_l k
  unfold event_Put.f
  repeat' first
      | (with_reducible exact ih0 _ _ _ _ _ _ _ _ _)
      | (with_reducible exact ih1 _ _ _ _ _ _ _ _ _)
      | (with_reducible exact ih2 _ _ _ _)
      | (with_reducible exact event_digits.mono _ _)
      | (with_reducible exact event_right.mono _ _ _ _ _ _)
      | (with_reducible exact value_Put.mono _ _ _ _)
      | (with_reducible exact LeO.refl _)
      | (with_reducible exact LeO.none _)
      | (with_reducible refine LeO.ite ?_ ?_)
      | (with_reducible refine LeO.bind ?_ (fun _ => ?_))
      | exact LeO.none _
      | refine LeO.ite ?_ ?_
      | refine LeO.bind ?_ (fun _ => ?_)
set_option maxHeartbeats 8000000 in
set_option maxRecDepth 100000 in
theorem event_Put.calls (k : Nat) (a0_0 : Int) (a0_1 : Int) (a0_2 : Int) (a0_3 : ByteArray) (A0_4 : Option Addr) (c0_4 : Nat) (l0_4 : List (S52)) (r : List Int) (w : World) (hr0_4 : Kd.C k52 w A0_4 l0_4.length l0_4) (hc0_4 : l0_4.length ≤ c0_4) (h : event_Put.f k a0_0 a0_1 a0_2 a0_3 l0_4 = some r) :
    Calls Try.prog 21 #[.agg #[.int .i64 a0_0, .int .i64 a0_1, .int .i64 a0_2, .string a0_3, .slice A0_4 l0_4.length c0_4]] w fun e w' => ∃ v0_ : Value, e = .returned (v0_) ∧ Kd.R (Kd.int .u8) 5 w' w.heap.size (fun _ => True) v0_ r ∧ Below w.heap.size w w' := by
  have hu25 := Try.underlying25
  have hu52 := Try.underlying52
  have HR0_4 := Aside0.mk hr0_4
  have HC0_4 := Aside0.mk hc0_4
  clear hr0_4 hc0_4
  have HB := Aside0.mk (Below.refl w.heap.size w)
  have H : ((event_right.f k a0_0 a0_1 a0_2 a0_3 l0_4).bind fun t171 => (if t171 = true then ((some (([a0_0, a0_1, a0_2, (a0_3.size : Int)] : List Int) : List Int)).bind fun y173 => (event_Put.l0 k y173 (y173.length : Int) 0 a0_0 a0_1 a0_2 a0_3 l0_4 ([] : List Int))) else (some ([] : List Int)))) = some r := h
  clear h
  replace H := Option.bind_eq_some_iff.mp H
  obtain ⟨t171, A2, H⟩ := H
  (try dsimp only at H)
  replace A2 := Aside0.mk A2
  by_cases c3 : t171 = true
  ·subst c3
   rw [if_pos rfl] at H
   replace H := Option.bind_eq_some_iff.mp H
   obtain ⟨y173, hy173, H⟩ := H
   replace hy173 := (Option.some.inj hy173).symm
   (try dsimp only at H)
   have Ny173 := Aside0.mk hy173
   clear hy173
   have H' := Aside0.mk H
   clear H
   go_enter Try.func21, Try.ntmps21
   try go_wp2_with (first | ((with_reducible refine gate_dst (N := 1) rfl ?_); refine box_event ?hg (N := 1) ?hd (cs := #[.int .i64 a0_0, .int .i64 a0_1, .int .i64 a0_2, .string a0_3, .slice A0_4 l0_4.length c0_4]) (t := 25) ?hr ?_; (case hd => rfl); (case hg => rfl); (case hr => first | (go_simp; done) | (go_simp; rfl)); intro gb170 hg w4 hbox hb; have BK170 := Aside0.mk (hbox); have GW170 := hG HB hg; have GE170 := hG HB hg; replace HB := hB HB hb; clear hb hbox hg; obtain ⟨hcz5_0, hcz5_1, hcz5_2, hcz5_3, hcz5_4, hfz5_0, hfz5_1, hfz5_2, hfz5_3, hfz5_4⟩ := blk_c5 BK170.out) | ((with_reducible refine gate_callee (f := 35) rfl ?_); refine goesL_ (some 8) rfl rfl Try.func35 (by kernel_rfl) rfl #[.agg #[.int .i64 a0_0, .int .i64 a0_1, .int .i64 a0_2, .string a0_3, .slice A0_4 l0_4.length c0_4]] rfl (by (try simp only [List.map_toArray, List.map_cons, List.map_nil]); first | done | rfl | (simp only [List.length_drop, List.length_take]; rfl)) ?_; (with_reducible refine (event_right.calls k a0_0 a0_1 a0_2 a0_3 _ _ l0_4 true _ ?side1 ?side2 A2.out).mono ?_); (case side1 => repeat (first | exact (Kd.C_below HR0_4.out HB.out) | (with_reducible refine Kd.C_alloc ?_ _) | (with_reducible refine Kd.C_drewN ?_ _) | (with_reducible refine Kd.C_drew ?_))); (case side2 => exact HC0_4.out); rintro e w6 ⟨rfl, hb⟩; refine ⟨_, rfl, ?_⟩; replace BK170 := bb BK170 hb; replace HB := hB HB hb; (try clear hb); (try clear hb2); (try clear hk); (try clear hi)) | ((with_reducible refine gate_dst (N := 3) rfl ?_); refine box_event ?hg (N := 3) ?hd (cs := #[.slice none 0 0]) (t := 40) ?hr ?_; (case hd => rfl); (case hg => rfl); (case hr => first | (go_simp; done) | (go_simp; rfl)); intro gb172 hg w7 hbox hb; have BK172 := Aside0.mk (hbox); have GW172 := hG HB hg; have GE172 := hG HB hg; replace HB := hB HB hb; have NB170_172 := hN BK170 hg; have NB172_170 := hM BK170 hg; replace BK170 := bb BK170 hb; clear hb hbox hg; have hnb8 := NB170_172.out; have hnc8 := NB172_170.out; obtain ⟨hcz9_0, hcz9_1, hcz9_2, hcz9_3, hcz9_4, hfz9_0, hfz9_1, hfz9_2, hfz9_3, hfz9_4⟩ := blk_c5 BK170.out) | ((with_reducible refine gate_dst (N := 21) rfl ?_); refine Kd.R_lit (Kd.int .i64) _ 2 ?hg (N := 21) ?hd (xs := ([a0_0, a0_1, a0_2, (a0_3.size : Int)] : List Int)) (inner := [.int .i64 a0_0, .int .i64 a0_1, .int .i64 a0_2, .int .i64 (a0_3.size : Int)]) (ok := fun _ => True) (okp := fun _ => True) ?hr ?hp (fun _ hk => hk) trivial (Below.refl _ _) (Nat.le_refl _) (by simp) ?_; (case hd => rfl); (case hg => rfl); (case hr => first | (go_simp; done) | (go_simp; rfl)); (case hp => exact (Reps.one (show Kd.M (Kd.int .i64) _ _ _ a0_0 [.int .i64 a0_0] from rfl) (Reps.one (show Kd.M (Kd.int .i64) _ _ _ a0_1 [.int .i64 a0_1] from rfl) (Reps.one (show Kd.M (Kd.int .i64) _ _ _ a0_2 [.int .i64 a0_2] from rfl) (Reps.one (show Kd.M (Kd.int .i64) _ _ _ (a0_3.size : Int) [.int .i64 (a0_3.size : Int)] from rfl) (Reps.none _ _)))))); intro v174 w10 ho11 hb hg_ hnew_; clear hg_ hnew_; (first | rw [← Ny173.out] at ho11 | (simp only [Int.reduceToNat] at ho11; rw [← Ny173.out] at ho11)); have HO175 := Aside0.mk (Kd.R_lower ho11 (below_size (pl_below HB.out))); replace BK170 := bb BK170 hb; replace BK172 := bb BK172 hb; replace HB := hB HB hb; clear hb ho11; obtain ⟨Ao12, co12, eo12⟩ := Kd.R_slice HO175.out; subst eo12))
   go_at_call 39; skip
   go_enter Try.func39, Try.ntmps39
   try go_wp2_with (fail)
   go_loopg [7] k (fun kq v307 w' => ∃ (x307_1 : Int) (x173000_1 : List Int) (u173000 : Value), v307 = .int .i64 x307_1 ∧ Aside0 (event_Put.l0 kq y173 (y173.length : Int) x307_1 a0_0 a0_1 a0_2 a0_3 l0_4 x173000_1 = some r) ∧ Aside0 (kq ≤ k) ∧ Aside0 (Kd.R (Kd.int .i64) 2 w' w.heap.size (fun _ => True) (.slice Ao12 y173.length co12) y173) ∧ Aside0 (Kd.R (Kd.int .u8) 5 w' w.heap.size (fun _ => True) u173000 x173000_1) ∧ Aside0 (w'.heap[gb170]? = some (.cells #[.int .i64 a0_0, .int .i64 a0_1, .int .i64 a0_2, .string a0_3, (.slice A0_4 l0_4.length c0_4)] 25 (0, 0))) ∧ Aside0 (w'.heap[gb172]? = some (.cells #[u173000] 40 (0, 0))) ∧ Aside0 (Below w.heap.size w w'))
   case atStart => exact ⟨(0), (([] : List Int)), (.slice none 0 0), (by first | rfl | (simp; done) | (simp [*]; done) | grind), H', ⟨Nat.le_refl _⟩, ⟨Kd.pl_R HO175.out⟩, ⟨by first | exact Kd.R_nil _ _ _ _ _ | exact Kd.N_nil _ _ _ _ _ | exact Kd.V_nil _ _ _ _ _ | exact Kd.Q_nil _ _ _ _ _ | exact Kd.S_nil _ _ _ _ _⟩, ⟨pl_blk BK170.out⟩, ⟨pl_blk BK172.out⟩, ⟨pl_below HB.out⟩⟩
   case round =>
    clear H'
    (try clear c2); (try clear p2); (try clear c3); (try clear c5); (try clear c8); (try clear hcz5_0 hcz5_1 hcz5_2 hcz5_3 hcz5_4 hfz5_0 hfz5_1 hfz5_2 hfz5_3 hfz5_4); (try clear hcz9_0 hcz9_1 hcz9_2 hcz9_3 hcz9_4 hfz9_0 hfz9_1 hfz9_2 hfz9_3 hfz9_4)
    obtain ⟨x307_1, x173000_1, u173000, rfl, HA, HK1, HO_305, HO_173000, BK170, BK172, HB⟩ := hrel
    cases gk with
    | zero => exact absurd HA.out (by simp [event_Put.l0])
    | succ k1 =>
     have H := HA.out
     clear HA
     simp only [event_Put.l0] at H
     by_cases c13 : x307_1 < (y173.length : Int)
     ·rw [if_pos c13] at H
      have c13b0 : decide (x307_1 < (y173.length : Int)) = true := decide_eq_true c13
      clear c13
      by_cases c14 : 0 ≤ x307_1; rotate_left
      ·rw [if_neg c14] at H; cases H
      rw [if_pos c14] at H
      have c14b0 : decide (0 ≤ x307_1) = true := decide_eq_true c14
      clear c14
      by_cases c15 : x307_1 < (y173.length : Int); rotate_left
      ·rw [if_neg c15] at H; cases H
      rw [if_pos c15] at H
      have c15b0 : decide (x307_1 < (y173.length : Int)) = true := decide_eq_true c15
      clear c15
      replace H := Option.bind_eq_some_iff.mp H
      obtain ⟨t177, A16, H⟩ := H
      (try dsimp only at H)
      replace A16 := Aside0.mk A16
      by_cases c17 : x173000_1.length + t177.length < 140737488355328; rotate_left
      ·rw [if_neg c17] at H; cases H
      rw [if_pos c17] at H
      have LMc17 := Aside0.mk c17
      clear c17
      obtain ⟨y180, hy180⟩ : ∃ y_ : List Int, y_ = (x173000_1 ++ t177) := ⟨_, rfl⟩
      replace H : (event_Put.l0 k1 y173 (y173.length : Int) (wrap64 (x307_1 + 1)) a0_0 a0_1 a0_2 a0_3 l0_4 y180) = some r := by first | (rw [hy180]; with_reducible exact H) | (have H2_ := (Option.bind_some _ _).symm.trans H; rw [hy180]; with_reducible exact H2_) | (have H2_ := (Option.bind_some _ _).symm.trans H; with_reducible exact H2_) | with_reducible exact H | (rw [hy180]; exact H) | exact H
      have Ny180 := Aside0.mk hy180
      clear hy180
      have H' := Aside0.mk H
      clear H
      have p176 : 0 ≤ (x307_1 : Int) := of_decide_eq_true (by first | (with_reducible assumption) | assumption)
      have q176 : x307_1 < (y173.length : Int) := of_decide_eq_true (by first | (with_reducible assumption) | assumption)
      obtain ⟨ad176, e176, hx176_0⟩ := Kd.at_int (Kd.R_reads' HO_305.out).2.2 x307_1 p176 q176
      cases e176
      replace p176 := eq_true p176
      replace q176 := eq_true q176
      try go_wp2
      replace HO_305 := Aside0.mk (Kd.R_drew HO_305.out)
      replace HO_173000 := Aside0.mk (Kd.R_drew HO_173000.out)
      replace BK170 := Aside0.mk (blk_drew BK170.out)
      replace BK172 := Aside0.mk (blk_drew BK172.out)
      replace HB := Aside0.mk (below_drew1 HB.out)
      refine start_ (n := 5) (S := fun w' => w'.cell? ⟨gb172, 0, none⟩ = some (u173000)) (ds := [4]) #[false, false, false, false, false] (by kernel_rfl) rfl rfl ((blk_cell BK172.out 0).trans rfl) (fun hHeld => ?_)
      generalize wr.drew = w18 at HO_305 HO_173000 BK170 BK172 HB hHeld ⊢
      refine pure_ (i := 1) (N := some 12) (v := ?_) (a' := ?_) #[false, true, false, false, false] rfl rfl (by kernel_rfl) (fun _ _ _ h => h) (Or.inl ⟨by rfl, ?_⟩) ?_ ?_
      rotate_left
      ·intro w'
       go_simp
       with_reducible rfl
      rotate_left
      ·simp only [Act.put, List.setIfInBounds_toArray, List.set_cons_zero, List.set_cons_succ, i64_w, i32_w]
       rfl
      refine take_ (i := 0) (N := some 11) (v := ?_) (a' := ?_) #[true, true, false, false, false] rfl rfl (by kernel_rfl) (fun _ _ _ h => h) (Or.inl ⟨by rfl, ?_⟩) hHeld ?_ ?_
      rotate_left
      ·intro w' s0
       go_simp
       with_reducible rfl
      rotate_left
      ·simp only [Act.put, List.setIfInBounds_toArray, List.set_cons_zero, List.set_cons_succ, i64_w, i32_w]
       rfl
      refine one_ (i := 2) (N := some 13) #[true, true, true, false, false] rfl rfl (by kernel_rfl) (by decide) (fun K hK => ?_)
      refine goes_ Try.func40 (by kernel_rfl) rfl #[.int .i64 (rd y173 x307_1)] (by rfl) rfl rfl (by (try simp only [List.map_toArray, List.map_cons, List.map_nil]); first | done | rfl | (simp only [List.length_drop, List.length_take]; rfl)) ?_
      with_reducible refine (event_digits.calls k1 (rd y173 x307_1) t177 _ A16.out).mono ?_
      rintro e w19 ⟨v178, rfl, ho0, hb⟩
      refine ⟨_, rfl, ?_⟩
      replace HO_305 := Aside0.mk (Kd.R_below (Kd.pl_R HO_305.out) hb)
      have HO179 := Aside0.mk (Kd.R_lower (Kd.R_new' ho0 (Kd.R_lt (Kd.pl_R HO_173000.out))) (below_size (pl_below HB.out)))
      replace HO_173000 := Aside0.mk (Kd.R_elder' (Kd.pl_R HO_173000.out) (Kd.R_base ho0) hb)
      replace BK170 := bb BK170 hb
      replace BK172 := bb BK172 hb
      replace HB := hB HB hb
      (try clear hb)
      (try clear hb2)
      (try clear hk)
      (try clear hi)
      (try clear ho0)
      obtain ⟨Ao21, co21, eo21⟩ := Kd.R_slice HO179.out
      (first | subst eo21 | (injection eo21 with f1_ f2_ f3_; have f4_ := f1_.symm; have f5_ := f3_.symm; clear f1_ f2_ f3_; subst f4_; subst f5_))
      refine hK.out _ _ ((blk_cell BK172.out 0).trans rfl) (fun hHeld => ?_)
      clear hK K
      refine norm_ (a' := ?_) ?_ ?_
      rotate_left
      ·show Act.put _ (some 13) _ = _
       simp only [Act.put, List.setIfInBounds_toArray, List.set_cons_zero, List.set_cons_succ, i64_w, i32_w]
       rfl
      refine one_ (i := 3) (N := some 14) #[true, true, true, true, false] rfl rfl (by kernel_rfl) (by decide) (fun K hK => ?_)
      refine Kd.R_append_rows_step (Kd.int .u8) (w0 := w) w.heap.size (by rfl) (.tmp 11) (.tmp 13) 40 5 (.int .u8 0) 1 rfl Try.underlying40 info5 rfl (by decide) (by omega) u173000 x173000_1 t177 _ _ _ (fun k_ => some k_ ≠ (.slice Ao21 t177.length co21 : Value).ownBlock) (fun _ => False) rfl rfl ?aO ?aR (fun _ _ h => h) (fun _ h => h.elim) ?aF ?aB ?aS ?aL ?_
      (case aR => repeat (first | exact (Kd.R_reads' HO179.out).2.2 | (with_reducible refine Kd.C_alloc ?_ _) | (with_reducible refine Kd.C_drewN ?_ _) | (with_reducible refine Kd.C_drew ?_)))
      (case aB => exact (pl_below HB.out))
      (case aF => exact (fun k_ hk => Kd.fresh' (Kd.R_lt (Kd.pl_R HO179.out)) k_ hk))
      (case aO => exact (by (with_reducible repeat (first | apply Kd.R_alloc | apply Kd.R_drewN | apply Kd.R_drew)); exact Kd.R_mono HO_173000.out (fun _ hk => hk.2)))
      (case aS => exact (below_size (pl_below HB.out)))
      (case aL => have := LMc17.out; omega)
      intro v181 w20 ho hb hg hat
      rw [← Ny180.out] at ho
      replace HO_305 := Aside0.mk (Kd.R_over' (Kd.pl_R HO_305.out) (Kd.R_typed (Kd.pl_R HO_173000.out)) (by decide) hg)
      replace BK170 := Aside0.mk (blk_grown (pl_blk BK170.out) hg (Kd.R_ne HO_173000.out BK170.out (by decide)))
      replace BK172 := Aside0.mk (blk_grown (pl_blk BK172.out) hg (Kd.R_ne HO_173000.out BK172.out (by decide)))
      replace HO179 := Aside0.mk (Kd.R_after (ok := (fun _ => True)) (Kd.pl_R HO179.out) hg hat)
      replace HB := Aside0.mk (hb)
      have HO182 := Aside0.mk (ho)
      clear HO_173000
      clear ho hb hg hat
      obtain ⟨Ao22, co22, eo22⟩ := Kd.R_slice HO182.out
      (first | subst eo22 | (injection eo22 with f1_ f2_ f3_; have f4_ := f1_.symm; have f5_ := f3_.symm; clear f1_ f2_ f3_; subst f4_; subst f5_))
      refine hK.out _ _ ((blk_cell BK172.out 0).trans rfl) (fun hHeld => ?_)
      clear hK K
      refine norm_ (a' := ?_) ?_ ?_
      rotate_left
      ·show Act.put _ (some 14) _ = _
       simp only [Act.put, List.setIfInBounds_toArray, List.set_cons_zero, List.set_cons_succ, i64_w, i32_w]
       rfl
      refine last_ (i := 4) (N := none) #[true, true, true, true, true] rfl rfl (by kernel_rfl) (by decide) (fun K hK => ?_)
      have hs23 : w20.cell? ⟨gb172, 0, none⟩ = some (u173000) := (blk_cell BK172.out 0).trans rfl
      have hfs23 := blk_frozen BK172.out 0
      have hns23_0 := NB170_172.out
      have hms23_0 := NB172_170.out
      refine skip_ (w1 := ?_) (by rfl) rfl ?_ ?_
      rotate_left
      ·go_simp
       rfl
      refine hK.out _ _ ?_
      clear hK K
      refine done_ (by kernel_rfl) ?_
      try go_wp2
      go_roundg k1
      case measure => have := HK1.out; omega
      case rel => exact ⟨(wrap64 (x307_1 + 1)), (y180), (.slice Ao22 y180.length co22), (by first | rfl | (simp; done) | (simp [*]; done) | grind), H', ⟨by have := HK1.out; omega⟩, ⟨by (with_reducible repeat (first | apply Kd.R_alloc | apply Kd.R_drewN | apply Kd.R_drew)); exact Kd.R_mono (Kd.R_far (p := ⟨gb172, 0, none⟩) (Kd.R_types HO_305.out BK172.out (by decide)) (fun _ hk => hk.2) (.slice Ao22 y180.length co22)) (fun _ hk => trivial)⟩, ⟨by (with_reducible repeat (first | apply Kd.R_alloc | apply Kd.R_drewN | apply Kd.R_drew)); exact Kd.R_mono (Kd.R_far (p := ⟨gb172, 0, none⟩) (Kd.R_types HO182.out BK172.out (by decide)) (fun _ hk => hk.2) (.slice Ao22 y180.length co22)) (fun _ hk => trivial)⟩, ⟨pl_blk (blk_far (p := ⟨gb172, 0, none⟩) BK170.out NB170_172.out (.slice Ao22 y180.length co22))⟩, ⟨pl_blk (blk_put BK172.out 0 (.slice Ao22 y180.length co22) rfl)⟩, ⟨by repeat (first | (with_reducible first | exact HB.out | apply below_alloc | apply pw_below_drewN | apply below_drew1 | refine below_set ?_ GE172.out) | exact HB.out)⟩⟩
     ·rw [if_neg c13] at H
      have c13b0 : decide (x307_1 < (y173.length : Int)) = false := decide_eq_false c13
      clear c13
      by_cases c24 : x173000_1.length + a0_3.size < 140737488355328; rotate_left
      ·rw [if_neg c24] at H; cases H
      rw [if_pos c24] at H
      have LMc24 := Aside0.mk c24
      clear c24
      obtain ⟨y183, hy183⟩ : ∃ y_ : List Int, y_ = (x173000_1 ++ bytesOf a0_3) := ⟨_, rfl⟩
      replace H : ((some (([(l0_4.length : Int)] : List Int) : List Int)).bind fun y186 => (event_Put.l1 k1 y186 (y186.length : Int) 0 a0_0 a0_1 a0_2 a0_3 l0_4 y183)) = some r := by first | (rw [hy183]; with_reducible exact H) | (have H2_ := (Option.bind_some _ _).symm.trans H; rw [hy183]; with_reducible exact H2_) | (have H2_ := (Option.bind_some _ _).symm.trans H; with_reducible exact H2_) | with_reducible exact H | (rw [hy183]; exact H) | exact H
      have Ny183 := Aside0.mk hy183
      clear hy183
      replace H := Option.bind_eq_some_iff.mp H
      obtain ⟨y186, hy186, H⟩ := H
      replace hy186 := (Option.some.inj hy186).symm
      (try dsimp only at H)
      have Ny186 := Aside0.mk hy186
      clear hy186
      have H' := Aside0.mk H
      clear H
      have hnb25 := NB172_170.out
      have hnc25 := NB170_172.out
      obtain ⟨hcz26_0, hfz26_0⟩ := blk_c1 BK172.out
      obtain ⟨hcz27_0, hcz27_1, hcz27_2, hcz27_3, hcz27_4, hfz27_0, hfz27_1, hfz27_2, hfz27_3, hfz27_4⟩ := blk_c5 BK170.out
      try go_wp2
      first | go_end0 | ((try simp only [Exit.inBlock, Exit.then]); refine bodyPost_ret (results_none rfl _ _ _) rfl ?_)
      (try dsimp only)
      try go_wp2_with (first | (at_builtin; refine print_append_str (w0 := w) w.heap.size rfl (.tmp 23) _ 40 9 5 rfl Try.underlying40 Try.underlying9 info5 u173000 x173000_1 a0_3 rfl rfl ?aO ?aB ?aS ?aL ?_; (case aB => exact (pl_below HB.out)); (case aO => exact (Kd.own_of_R (Kd.pl_R HO_173000.out))); (case aS => exact (below_size (pl_below HB.out))); (case aL => have := LMc24.out; omega); intro v184 w28 ho0 hb hg; have ho := Kd.R_of_own (h1 := fun _ => rfl) (ok := fun _ => True) ho0 (fun _ _ => trivial); clear ho0; have hat := True.intro; rw [← Ny183.out] at ho; change Kd.R (Kd.int .u8) 5 w28 w.heap.size (fun _ => True) v184 y183 at ho; replace HO_305 := Aside0.mk (Kd.R_over' (Kd.pl_R HO_305.out) (Kd.R_typed (Kd.pl_R HO_173000.out)) (by decide) hg); replace BK170 := Aside0.mk (blk_grown (pl_blk BK170.out) hg (Kd.R_ne HO_173000.out BK170.out (by decide))); replace BK172 := Aside0.mk (blk_grown (pl_blk BK172.out) hg (Kd.R_ne HO_173000.out BK172.out (by decide))); replace HB := Aside0.mk (hb); have HO185 := Aside0.mk (ho); clear HO_173000; clear ho hb hg hat; obtain ⟨Ao29, co29, eo29⟩ := Kd.R_slice HO185.out; subst eo29; obtain ⟨hcz30_0, hfz30_0⟩ := blk_c1 BK172.out; obtain ⟨hcz31_0, hcz31_1, hcz31_2, hcz31_3, hcz31_4, hfz31_0, hfz31_1, hfz31_2, hfz31_3, hfz31_4⟩ := blk_c5 BK170.out) | ((with_reducible refine gate_dst (N := 31) rfl ?_); refine Kd.R_lit (Kd.int .i64) _ 2 ?hg (N := 31) ?hd (xs := ([(l0_4.length : Int)] : List Int)) (inner := [.int .i64 (l0_4.length : Int)]) (ok := fun _ => True) (okp := fun _ => True) ?hr ?hp (fun _ hk => hk) trivial (Below.refl _ _) (Nat.le_refl _) (by simp) ?_; (case hd => rfl); (case hg => rfl); (case hr => first | (go_simp; done) | (go_simp; rfl)); (case hp => exact (Reps.one (show Kd.M (Kd.int .i64) _ _ _ (l0_4.length : Int) [.int .i64 (l0_4.length : Int)] from rfl) (Reps.none _ _))); intro v187 w32 ho33 hb hg_ hnew_; clear hg_ hnew_; (first | rw [← Ny186.out] at ho33 | (simp only [Int.reduceToNat] at ho33; rw [← Ny186.out] at ho33)); replace HO185 := Aside0.mk (Kd.R_below (by (with_reducible repeat (first | apply Kd.R_alloc | apply Kd.R_drewN | apply Kd.R_drew)); exact (Kd.R_mono (Kd.R_far (p := ⟨gb172, 0, none⟩) (Kd.R_types HO185.out BK172.out (by decide)) (fun _ hk => hk.2) (.slice Ao29 y183.length co29)) (fun _ h_ => h_.1))) hb); have HO188 := Aside0.mk (Kd.R_lower (Kd.R_new' ho33 (Kd.R_lt (by (with_reducible repeat (first | apply Kd.R_alloc | apply Kd.R_drewN | apply Kd.R_drew)); exact (Kd.R_mono (Kd.R_far (p := ⟨gb172, 0, none⟩) (Kd.R_types HO_305.out BK172.out (by decide)) (fun _ hk => hk.2) (.slice Ao29 y183.length co29)) (fun _ h_ => h_.1))))) (below_size (by repeat (first | (with_reducible first | exact HB.out | apply below_alloc | apply pw_below_drewN | apply below_drew1 | refine below_set ?_ GE172.out) | exact HB.out)))); replace HO_305 := Aside0.mk (Kd.R_elder' (by (with_reducible repeat (first | apply Kd.R_alloc | apply Kd.R_drewN | apply Kd.R_drew)); exact (Kd.R_mono (Kd.R_far (p := ⟨gb172, 0, none⟩) (Kd.R_types HO_305.out BK172.out (by decide)) (fun _ hk => hk.2) (.slice Ao29 y183.length co29)) (fun _ h_ => h_.1))) (Kd.R_base ho33) hb); replace BK170 := Aside0.mk (blk_below (pl_blk (blk_far (p := ⟨gb172, 0, none⟩) BK170.out NB170_172.out (.slice Ao29 y183.length co29))) hb); replace BK172 := Aside0.mk (blk_below (pl_blk (blk_put BK172.out 0 (.slice Ao29 y183.length co29) rfl)) hb); replace HB := Aside0.mk (below_step (by repeat (first | (with_reducible first | exact HB.out | apply below_alloc | apply pw_below_drewN | apply below_drew1 | refine below_set ?_ GE172.out) | exact HB.out)) hb); clear hb ho33; obtain ⟨Ao34, co34, eo34⟩ := Kd.R_slice HO188.out; subst eo34))
      go_at_call 39; skip
      go_enter Try.func39, Try.ntmps39
      try go_wp2_with (fail)
      go_loopg [7] k1 (fun kq v323 w' => ∃ (x323_2 : Int) (x173000_2 : List Int) (u173000 : Value), v323 = .int .i64 x323_2 ∧ Aside0 (event_Put.l1 kq y186 (y186.length : Int) x323_2 a0_0 a0_1 a0_2 a0_3 l0_4 x173000_2 = some r) ∧ Aside0 (kq ≤ k1) ∧ Aside0 (Kd.R (Kd.int .i64) 2 w' w.heap.size (fun _ => True) (.slice Ao34 y186.length co34) y186) ∧ Aside0 (Kd.R (Kd.int .u8) 5 w' w.heap.size (fun _ => True) u173000 x173000_2) ∧ Aside0 (w'.heap[gb170]? = some (.cells #[.int .i64 a0_0, .int .i64 a0_1, .int .i64 a0_2, .string a0_3, (.slice A0_4 l0_4.length c0_4)] 25 (0, 0))) ∧ Aside0 (w'.heap[gb172]? = some (.cells #[u173000] 40 (0, 0))) ∧ Aside0 (Below w.heap.size w w'))
      case atStart => exact ⟨(0), (y183), (.slice Ao29 y183.length co29), (by first | rfl | (simp; done) | (simp [*]; done) | grind), H', ⟨Nat.le_refl _⟩, ⟨by (with_reducible repeat (first | apply Kd.R_alloc | apply Kd.R_drewN | apply Kd.R_drew)); exact Kd.R_mono HO188.out (fun _ hk => trivial)⟩, ⟨Kd.pl_R HO185.out⟩, ⟨pl_blk BK170.out⟩, ⟨pl_blk BK172.out⟩, ⟨pl_below HB.out⟩⟩
      case round =>
       clear H'
       (try clear c1); (try clear p1); (try clear q1); (try clear hx1); (try clear c2); (try clear p2); (try clear c3); (try clear c4); (try clear c5); (try clear p6); (try clear c8); (try clear c13); (try clear c13b0); (try clear c14); (try clear c14b0); (try clear c15); (try clear c15b0); (try clear c17); (try clear p17); (try clear q17); (try clear hx17); (try clear c21); (try clear c24); (try clear c25); (try clear hx176_0); (try clear p176); (try clear q176); (try clear hcz26_0 hfz26_0); (try clear hcz27_0 hcz27_1 hcz27_2 hcz27_3 hcz27_4 hfz27_0 hfz27_1 hfz27_2 hfz27_3 hfz27_4); (try clear hcz30_0 hfz30_0); (try clear hcz31_0 hcz31_1 hcz31_2 hcz31_3 hcz31_4 hfz31_0 hfz31_1 hfz31_2 hfz31_3 hfz31_4); (try clear hcz5_0 hcz5_1 hcz5_2 hcz5_3 hcz5_4 hfz5_0 hfz5_1 hfz5_2 hfz5_3 hfz5_4); (try clear hcz9_0 hcz9_1 hcz9_2 hcz9_3 hcz9_4 hfz9_0 hfz9_1 hfz9_2 hfz9_3 hfz9_4)
       obtain ⟨x323_2, x173000_2, u173000, rfl, HA, HK2, HO_321, HO_173000, BK170, BK172, HB⟩ := hrel
       cases gk with
       | zero => exact absurd HA.out (by simp [event_Put.l1])
       | succ k2 =>
        have H := HA.out
        clear HA
        simp only [event_Put.l1] at H
        by_cases c35 : x323_2 < (y186.length : Int)
        ·rw [if_pos c35] at H
         have c35b0 : decide (x323_2 < (y186.length : Int)) = true := decide_eq_true c35
         clear c35
         by_cases c36 : 0 ≤ x323_2; rotate_left
         ·rw [if_neg c36] at H; cases H
         rw [if_pos c36] at H
         have c36b0 : decide (0 ≤ x323_2) = true := decide_eq_true c36
         clear c36
         by_cases c37 : x323_2 < (y186.length : Int); rotate_left
         ·rw [if_neg c37] at H; cases H
         rw [if_pos c37] at H
         have c37b0 : decide (x323_2 < (y186.length : Int)) = true := decide_eq_true c37
         clear c37
         replace H := Option.bind_eq_some_iff.mp H
         obtain ⟨t190, A38, H⟩ := H
         (try dsimp only at H)
         replace A38 := Aside0.mk A38
         by_cases c39 : x173000_2.length + t190.length < 140737488355328; rotate_left
         ·rw [if_neg c39] at H; cases H
         rw [if_pos c39] at H
         have LMc39 := Aside0.mk c39
         clear c39
         obtain ⟨y193, hy193⟩ : ∃ y_ : List Int, y_ = (x173000_2 ++ t190) := ⟨_, rfl⟩
         replace H : (event_Put.l1 k2 y186 (y186.length : Int) (wrap64 (x323_2 + 1)) a0_0 a0_1 a0_2 a0_3 l0_4 y193) = some r := by first | (rw [hy193]; with_reducible exact H) | (have H2_ := (Option.bind_some _ _).symm.trans H; rw [hy193]; with_reducible exact H2_) | (have H2_ := (Option.bind_some _ _).symm.trans H; with_reducible exact H2_) | with_reducible exact H | (rw [hy193]; exact H) | exact H
         have Ny193 := Aside0.mk hy193
         clear hy193
         have H' := Aside0.mk H
         clear H
         have p189 : 0 ≤ (x323_2 : Int) := of_decide_eq_true (by first | (with_reducible assumption) | assumption)
         have q189 : x323_2 < (y186.length : Int) := of_decide_eq_true (by first | (with_reducible assumption) | assumption)
         obtain ⟨ad189, e189, hx189_0⟩ := Kd.at_int (Kd.R_reads' HO_321.out).2.2 x323_2 p189 q189
         cases e189
         replace p189 := eq_true p189
         replace q189 := eq_true q189
         try go_wp2
         replace HO_321 := Aside0.mk (Kd.R_drew HO_321.out)
         replace HO_173000 := Aside0.mk (Kd.R_drew HO_173000.out)
         replace BK170 := Aside0.mk (blk_drew BK170.out)
         replace BK172 := Aside0.mk (blk_drew BK172.out)
         replace HB := Aside0.mk (below_drew1 HB.out)
         refine start_ (n := 5) (S := fun w' => w'.cell? ⟨gb172, 0, none⟩ = some (u173000)) (ds := [4]) #[false, false, false, false, false] (by kernel_rfl) rfl rfl ((blk_cell BK172.out 0).trans rfl) (fun hHeld => ?_)
         generalize wr.drew = w40 at HO_321 HO_173000 BK170 BK172 HB hHeld ⊢
         refine pure_ (i := 1) (N := some 12) (v := ?_) (a' := ?_) #[false, true, false, false, false] rfl rfl (by kernel_rfl) (fun _ _ _ h => h) (Or.inl ⟨by rfl, ?_⟩) ?_ ?_
         rotate_left
         ·intro w'
          go_simp
          with_reducible rfl
         rotate_left
         ·simp only [Act.put, List.setIfInBounds_toArray, List.set_cons_zero, List.set_cons_succ, i64_w, i32_w]
          rfl
         refine take_ (i := 0) (N := some 11) (v := ?_) (a' := ?_) #[true, true, false, false, false] rfl rfl (by kernel_rfl) (fun _ _ _ h => h) (Or.inl ⟨by rfl, ?_⟩) hHeld ?_ ?_
         rotate_left
         ·intro w' s0
          go_simp
          with_reducible rfl
         rotate_left
         ·simp only [Act.put, List.setIfInBounds_toArray, List.set_cons_zero, List.set_cons_succ, i64_w, i32_w]
          rfl
         refine one_ (i := 2) (N := some 13) #[true, true, true, false, false] rfl rfl (by kernel_rfl) (by decide) (fun K hK => ?_)
         refine goes_ Try.func40 (by kernel_rfl) rfl #[.int .i64 (rd y186 x323_2)] (by rfl) rfl rfl (by (try simp only [List.map_toArray, List.map_cons, List.map_nil]); first | done | rfl | (simp only [List.length_drop, List.length_take]; rfl)) ?_
         with_reducible refine (event_digits.calls k2 (rd y186 x323_2) t190 _ A38.out).mono ?_
         rintro e w41 ⟨v191, rfl, ho0, hb⟩
         refine ⟨_, rfl, ?_⟩
         replace HO_321 := Aside0.mk (Kd.R_below (Kd.pl_R HO_321.out) hb)
         have HO192 := Aside0.mk (Kd.R_lower (Kd.R_new' ho0 (Kd.R_lt (Kd.pl_R HO_173000.out))) (below_size (pl_below HB.out)))
         replace HO_173000 := Aside0.mk (Kd.R_elder' (Kd.pl_R HO_173000.out) (Kd.R_base ho0) hb)
         replace BK170 := bb BK170 hb
         replace BK172 := bb BK172 hb
         replace HB := hB HB hb
         (try clear hb)
         (try clear hb2)
         (try clear hk)
         (try clear hi)
         (try clear ho0)
         obtain ⟨Ao43, co43, eo43⟩ := Kd.R_slice HO192.out
         (first | subst eo43 | (injection eo43 with f1_ f2_ f3_; have f4_ := f1_.symm; have f5_ := f3_.symm; clear f1_ f2_ f3_; subst f4_; subst f5_))
         refine hK.out _ _ ((blk_cell BK172.out 0).trans rfl) (fun hHeld => ?_)
         clear hK K
         refine norm_ (a' := ?_) ?_ ?_
         rotate_left
         ·show Act.put _ (some 13) _ = _
          simp only [Act.put, List.setIfInBounds_toArray, List.set_cons_zero, List.set_cons_succ, i64_w, i32_w]
          rfl
         refine one_ (i := 3) (N := some 14) #[true, true, true, true, false] rfl rfl (by kernel_rfl) (by decide) (fun K hK => ?_)
         refine Kd.R_append_rows_step (Kd.int .u8) (w0 := w) w.heap.size (by rfl) (.tmp 11) (.tmp 13) 40 5 (.int .u8 0) 1 rfl Try.underlying40 info5 rfl (by decide) (by omega) u173000 x173000_2 t190 _ _ _ (fun k_ => some k_ ≠ (.slice Ao43 t190.length co43 : Value).ownBlock) (fun _ => False) rfl rfl ?aO ?aR (fun _ _ h => h) (fun _ h => h.elim) ?aF ?aB ?aS ?aL ?_
         (case aR => repeat (first | exact (Kd.R_reads' HO192.out).2.2 | (with_reducible refine Kd.C_alloc ?_ _) | (with_reducible refine Kd.C_drewN ?_ _) | (with_reducible refine Kd.C_drew ?_)))
         (case aB => exact (pl_below HB.out))
         (case aF => exact (fun k_ hk => Kd.fresh' (Kd.R_lt (Kd.pl_R HO192.out)) k_ hk))
         (case aO => exact (by (with_reducible repeat (first | apply Kd.R_alloc | apply Kd.R_drewN | apply Kd.R_drew)); exact Kd.R_mono HO_173000.out (fun _ hk => hk.2)))
         (case aS => exact (below_size (pl_below HB.out)))
         (case aL => have := LMc39.out; omega)
         intro v194 w42 ho hb hg hat
         rw [← Ny193.out] at ho
         replace HO_321 := Aside0.mk (Kd.R_over' (Kd.pl_R HO_321.out) (Kd.R_typed (Kd.pl_R HO_173000.out)) (by decide) hg)
         replace BK170 := Aside0.mk (blk_grown (pl_blk BK170.out) hg (Kd.R_ne HO_173000.out BK170.out (by decide)))
         replace BK172 := Aside0.mk (blk_grown (pl_blk BK172.out) hg (Kd.R_ne HO_173000.out BK172.out (by decide)))
         replace HO192 := Aside0.mk (Kd.R_after (ok := (fun _ => True)) (Kd.pl_R HO192.out) hg hat)
         replace HB := Aside0.mk (hb)
         have HO195 := Aside0.mk (ho)
         clear HO_173000
         clear ho hb hg hat
         obtain ⟨Ao44, co44, eo44⟩ := Kd.R_slice HO195.out
         (first | subst eo44 | (injection eo44 with f1_ f2_ f3_; have f4_ := f1_.symm; have f5_ := f3_.symm; clear f1_ f2_ f3_; subst f4_; subst f5_))
         refine hK.out _ _ ((blk_cell BK172.out 0).trans rfl) (fun hHeld => ?_)
         clear hK K
         refine norm_ (a' := ?_) ?_ ?_
         rotate_left
         ·show Act.put _ (some 14) _ = _
          simp only [Act.put, List.setIfInBounds_toArray, List.set_cons_zero, List.set_cons_succ, i64_w, i32_w]
          rfl
         refine last_ (i := 4) (N := none) #[true, true, true, true, true] rfl rfl (by kernel_rfl) (by decide) (fun K hK => ?_)
         have hs45 : w42.cell? ⟨gb172, 0, none⟩ = some (u173000) := (blk_cell BK172.out 0).trans rfl
         have hfs45 := blk_frozen BK172.out 0
         have hns45_0 := NB170_172.out
         have hms45_0 := NB172_170.out
         refine skip_ (w1 := ?_) (by rfl) rfl ?_ ?_
         rotate_left
         ·go_simp
          rfl
         refine hK.out _ _ ?_
         clear hK K
         refine done_ (by kernel_rfl) ?_
         try go_wp2
         go_roundg k2
         case measure => have := HK1.out; have := HK2.out; omega
         case rel => exact ⟨(wrap64 (x323_2 + 1)), (y193), (.slice Ao44 y193.length co44), (by first | rfl | (simp; done) | (simp [*]; done) | grind), H', ⟨by have := HK1.out; have := HK2.out; omega⟩, ⟨by (with_reducible repeat (first | apply Kd.R_alloc | apply Kd.R_drewN | apply Kd.R_drew)); exact Kd.R_mono (Kd.R_far (p := ⟨gb172, 0, none⟩) (Kd.R_types HO_321.out BK172.out (by decide)) (fun _ hk => hk.2) (.slice Ao44 y193.length co44)) (fun _ hk => trivial)⟩, ⟨by (with_reducible repeat (first | apply Kd.R_alloc | apply Kd.R_drewN | apply Kd.R_drew)); exact Kd.R_mono (Kd.R_far (p := ⟨gb172, 0, none⟩) (Kd.R_types HO195.out BK172.out (by decide)) (fun _ hk => hk.2) (.slice Ao44 y193.length co44)) (fun _ hk => trivial)⟩, ⟨pl_blk (blk_far (p := ⟨gb172, 0, none⟩) BK170.out NB170_172.out (.slice Ao44 y193.length co44))⟩, ⟨pl_blk (blk_put BK172.out 0 (.slice Ao44 y193.length co44) rfl)⟩, ⟨by repeat (first | (with_reducible first | exact HB.out | apply below_alloc | apply pw_below_drewN | apply below_drew1 | refine below_set ?_ GE172.out) | exact HB.out)⟩⟩
        ·rw [if_neg c35] at H
         have c35b0 : decide (x323_2 < (y186.length : Int)) = false := decide_eq_false c35
         clear c35
         have H' := Aside0.mk H
         clear H
         have hnb46 := NB170_172.out
         have hnc46 := NB172_170.out
         obtain ⟨hcz47_0, hcz47_1, hcz47_2, hcz47_3, hcz47_4, hfz47_0, hfz47_1, hfz47_2, hfz47_3, hfz47_4⟩ := blk_c5 BK170.out
         try go_wp2
         first | go_end0 | ((try simp only [Exit.inBlock, Exit.then]); refine bodyPost_ret (results_none rfl _ _ _) rfl ?_)
         (try dsimp only)
         try go_wp2_with (fail)
         go_loopg [36] k2 (fun kq v36 w' => ∃ (x36_3 : Int) (x173000_3 : List Int) (u173000 : Value), v36 = .int .i64 x36_3 ∧ Aside0 (event_Put.l2 kq l0_4 (l0_4.length : Int) x36_3 x173000_3 = some r) ∧ Aside0 (kq ≤ k2) ∧ Aside0 (Kd.R (Kd.int .u8) 5 w' w.heap.size (fun _ => True) u173000 x173000_3) ∧ Aside0 (w'.heap[gb170]? = some (.cells #[.int .i64 a0_0, .int .i64 a0_1, .int .i64 a0_2, .string a0_3, (.slice A0_4 l0_4.length c0_4)] 25 (0, 0))) ∧ Aside0 (w'.heap[gb172]? = some (.cells #[u173000] 40 (0, 0))) ∧ Aside0 (Below w.heap.size w w'))
         case atStart => exact ⟨(0), (x173000_2), (u173000), (by first | rfl | (simp; done) | (simp [*]; done) | grind), H', ⟨Nat.le_refl _⟩, ⟨Kd.pl_R HO_173000.out⟩, ⟨pl_blk BK170.out⟩, ⟨pl_blk BK172.out⟩, ⟨pl_below HB.out⟩⟩
         case round =>
          clear H'
          (try clear c1); (try clear p1); (try clear q1); (try clear hx1); (try clear c2); (try clear p2); (try clear c3); (try clear c4); (try clear c5); (try clear p6); (try clear c8); (try clear c13); (try clear c13b0); (try clear c14); (try clear c14b0); (try clear c15); (try clear c15b0); (try clear c17); (try clear p17); (try clear q17); (try clear hx17); (try clear p18); (try clear q18); (try clear hx18); (try clear c21); (try clear c24); (try clear c25); (try clear c35); (try clear c35b0); (try clear c36); (try clear c36b0); (try clear c37); (try clear c37b0); (try clear c39); (try clear c40); (try clear c46); (try clear hx176_0); (try clear hx189_0); (try clear p176); (try clear p189); (try clear q176); (try clear q189); (try clear hcz26_0 hfz26_0); (try clear hcz27_0 hcz27_1 hcz27_2 hcz27_3 hcz27_4 hfz27_0 hfz27_1 hfz27_2 hfz27_3 hfz27_4); (try clear hcz30_0 hfz30_0); (try clear hcz31_0 hcz31_1 hcz31_2 hcz31_3 hcz31_4 hfz31_0 hfz31_1 hfz31_2 hfz31_3 hfz31_4); (try clear hcz47_0 hcz47_1 hcz47_2 hcz47_3 hcz47_4 hfz47_0 hfz47_1 hfz47_2 hfz47_3 hfz47_4); (try clear hcz5_0 hcz5_1 hcz5_2 hcz5_3 hcz5_4 hfz5_0 hfz5_1 hfz5_2 hfz5_3 hfz5_4); (try clear hcz9_0 hcz9_1 hcz9_2 hcz9_3 hcz9_4 hfz9_0 hfz9_1 hfz9_2 hfz9_3 hfz9_4)
          obtain ⟨x36_3, x173000_3, u173000, rfl, HA, HK3, HO_173000, BK170, BK172, HB⟩ := hrel
          cases gk with
          | zero => exact absurd HA.out (by simp [event_Put.l2])
          | succ k3 =>
           have H := HA.out
           clear HA
           simp only [event_Put.l2] at H
           by_cases c48 : x36_3 < (l0_4.length : Int)
           ·rw [if_pos c48] at H
            have c48b0 : decide (x36_3 < (l0_4.length : Int)) = true := decide_eq_true c48
            clear c48
            by_cases c49 : 0 ≤ x36_3; rotate_left
            ·rw [if_neg c49] at H; cases H
            rw [if_pos c49] at H
            have c49b0 : decide (0 ≤ x36_3) = true := decide_eq_true c49
            clear c49
            by_cases c50 : x36_3 < (l0_4.length : Int); rotate_left
            ·rw [if_neg c50] at H; cases H
            rw [if_pos c50] at H
            have c50b0 : decide (x36_3 < (l0_4.length : Int)) = true := decide_eq_true c50
            clear c50
            replace H := Option.bind_eq_some_iff.mp H
            obtain ⟨t198, A51, H⟩ := H
            (try dsimp only at H)
            replace A51 := Aside0.mk A51
            by_cases c52 : x173000_3.length + t198.length < 140737488355328; rotate_left
            ·rw [if_neg c52] at H; cases H
            rw [if_pos c52] at H
            have LMc52 := Aside0.mk c52
            clear c52
            obtain ⟨y201, hy201⟩ : ∃ y_ : List Int, y_ = (x173000_3 ++ t198) := ⟨_, rfl⟩
            replace H : (event_Put.l2 k3 l0_4 (l0_4.length : Int) (wrap64 (x36_3 + 1)) y201) = some r := by first | (rw [hy201]; with_reducible exact H) | (have H2_ := (Option.bind_some _ _).symm.trans H; rw [hy201]; with_reducible exact H2_) | (have H2_ := (Option.bind_some _ _).symm.trans H; with_reducible exact H2_) | with_reducible exact H | (rw [hy201]; exact H) | exact H
            have Ny201 := Aside0.mk hy201
            clear hy201
            have H' := Aside0.mk H
            clear H
            have p196 : 0 ≤ (x36_3 : Int) := of_decide_eq_true (by first | (with_reducible assumption) | assumption)
            have q196 : x36_3 < (l0_4.length : Int) := of_decide_eq_true (by first | (with_reducible assumption) | assumption)
            obtain ⟨ad196, e196, hx196_0, hx196_1, hx196_2⟩ := at_T52 HR0_4.out x36_3 p196 q196
            cases e196
            replace hx196_0 := (HB.out.cell (World.block_lt_of_cell? w _ hx196_0)).trans hx196_0
            replace hx196_1 := (HB.out.cell (World.block_lt_of_cell? w _ hx196_1)).trans hx196_1
            replace hx196_2 := (HB.out.cell (World.block_lt_of_cell? w _ hx196_2)).trans hx196_2
            replace p196 := eq_true p196
            replace q196 := eq_true q196
            try go_wp2_with (first | ((with_reducible refine gate_dst (N := 6) rfl ?_); refine box_event ?hg (N := 6) ?hd (cs := #[.int .i64 0, .int .i64 0, .string (⟨#[]⟩ : ByteArray)]) (t := 52) ?hr ?_; (case hd => rfl); (case hg => rfl); (case hr => first | (go_simp; done) | (go_simp; rfl)); intro gb197 hg w53 hbox hb; replace HO_173000 := Aside0.mk (Kd.R_below (Kd.pl_R HO_173000.out) hb); have BK197 := Aside0.mk (hbox); have GW197 := hG HB hg; have GE197 := hG HB hg; replace HB := hB HB hb; have NB170_197 := hN BK170 hg; have NB197_170 := hM BK170 hg; replace BK170 := bb BK170 hb; have NB172_197 := hN BK172 hg; have NB197_172 := hM BK172 hg; replace BK172 := bb BK172 hb; clear hb hbox hg; have hnb54 := NB197_170.out; have hnc54 := NB170_197.out; have hnb55 := NB197_172.out; have hnc55 := NB172_197.out; obtain ⟨hcz56_0, hcz56_1, hcz56_2, hfz56_0, hfz56_1, hfz56_2⟩ := blk_c3 BK197.out))
            generalize hw_ : (((w53.setCell ⟨gb197, 0, none⟩ (.int .i64 ((rd_T52 l0_4 x36_3).f0))).setCell ⟨gb197, 1, none⟩ (.int .i64 ((rd_T52 l0_4 x36_3).f1))).setCell ⟨gb197, 2, none⟩ (.string ((rd_T52 l0_4 x36_3).f2))) = w57
            have n0_ : Aside0 (Kd.R (Kd.int .u8) 5 w57 w.heap.size (fun _ => True) u173000 x173000_3) := ⟨by rw [← hw_]; exact (by (with_reducible repeat (first | apply Kd.R_alloc | apply Kd.R_drewN | apply Kd.R_drew)); exact Kd.R_mono (Kd.R_far (p := ⟨gb197, 2, none⟩) (Kd.R_far (p := ⟨gb197, 1, none⟩) (Kd.R_far (p := ⟨gb197, 0, none⟩) (Kd.R_types HO_173000.out BK197.out (by decide)) (fun _ hk => hk.2) (.int .i64 ((rd_T52 l0_4 x36_3).f0))) (fun _ hk => hk.2) (.int .i64 ((rd_T52 l0_4 x36_3).f1))) (fun _ hk => hk.2) (.string ((rd_T52 l0_4 x36_3).f2))) (fun _ hk => trivial))⟩
            have n1_ : Aside0 (w57.heap[gb170]? = some (.cells #[.int .i64 a0_0, .int .i64 a0_1, .int .i64 a0_2, .string a0_3, .slice (some ad196) l0_4.length c0_4] 25 (0, 0))) := ⟨by rw [← hw_]; exact (pl_blk (blk_far (p := ⟨gb197, 2, none⟩) (blk_far (p := ⟨gb197, 1, none⟩) (blk_far (p := ⟨gb197, 0, none⟩) BK170.out NB170_197.out (.int .i64 ((rd_T52 l0_4 x36_3).f0))) NB170_197.out (.int .i64 ((rd_T52 l0_4 x36_3).f1))) NB170_197.out (.string ((rd_T52 l0_4 x36_3).f2))))⟩
            have n2_ : Aside0 (w57.heap[gb172]? = some (.cells #[u173000] 40 (0, 0))) := ⟨by rw [← hw_]; exact (pl_blk (blk_far (p := ⟨gb197, 2, none⟩) (blk_far (p := ⟨gb197, 1, none⟩) (blk_far (p := ⟨gb197, 0, none⟩) BK172.out NB172_197.out (.int .i64 ((rd_T52 l0_4 x36_3).f0))) NB172_197.out (.int .i64 ((rd_T52 l0_4 x36_3).f1))) NB172_197.out (.string ((rd_T52 l0_4 x36_3).f2))))⟩
            have n3_ : Aside0 (w57.heap[gb197]? = some (.cells #[.int .i64 ((rd_T52 l0_4 x36_3).f0), .int .i64 ((rd_T52 l0_4 x36_3).f1), .string ((rd_T52 l0_4 x36_3).f2)] 52 (0, 0))) := ⟨by rw [← hw_]; exact (pl_blk (blk_put (blk_put (blk_put BK197.out 0 (.int .i64 ((rd_T52 l0_4 x36_3).f0)) rfl) 1 (.int .i64 ((rd_T52 l0_4 x36_3).f1)) rfl) 2 (.string ((rd_T52 l0_4 x36_3).f2)) rfl))⟩
            have n4_ : Aside0 (Below w.heap.size w w57) := ⟨by rw [← hw_]; exact (by repeat (first | (with_reducible first | exact HB.out | apply below_alloc | apply pw_below_drewN | apply below_drew1 | refine below_set ?_ GE197.out) | exact HB.out))⟩
            (try clear HO_173000)
            (try clear BK170)
            (try clear BK172)
            (try clear BK197)
            (try clear HB)
            clear hw_
            have HO_173000 := n0_
            have BK170 := n1_
            have BK172 := n2_
            have BK197 := n3_
            have HB := n4_
            clear n0_ n1_ n2_ n3_ n4_
            replace HO_173000 := Aside0.mk (Kd.R_drew HO_173000.out)
            replace BK170 := Aside0.mk (blk_drew BK170.out)
            replace BK172 := Aside0.mk (blk_drew BK172.out)
            replace BK197 := Aside0.mk (blk_drew BK197.out)
            replace HB := Aside0.mk (below_drew1 HB.out)
            refine start_ (n := 5) (S := fun w' => w'.cell? ⟨gb172, 0, none⟩ = some (u173000) ∧ w'.cell? ⟨gb197, 0, none⟩ = some (.int .i64 ((rd_T52 l0_4 x36_3).f0)) ∧ w'.cell? ⟨gb197, 1, none⟩ = some (.int .i64 ((rd_T52 l0_4 x36_3).f1)) ∧ w'.cell? ⟨gb197, 2, none⟩ = some (.string ((rd_T52 l0_4 x36_3).f2))) (ds := [4]) #[false, false, false, false, false] (by kernel_rfl) rfl rfl ⟨(blk_cell BK172.out 0).trans rfl, (blk_cell BK197.out 0).trans rfl, (blk_cell BK197.out 1).trans rfl, (blk_cell BK197.out 2).trans rfl⟩ (fun hHeld => ?_)
            generalize w57.drew = w58 at HO_173000 BK170 BK172 BK197 HB hHeld ⊢
            refine take_ (i := 0) (N := some 40) (v := ?_) (a' := ?_) #[true, false, false, false, false] rfl rfl (by kernel_rfl) (fun _ _ _ h => h) (Or.inl ⟨by rfl, ?_⟩) hHeld ?_ ?_
            rotate_left
            ·rintro w' ⟨s0, s1, s2, s3⟩
             go_simp
             with_reducible rfl
            rotate_left
            ·simp only [Act.put, List.setIfInBounds_toArray, List.set_cons_zero, List.set_cons_succ, i64_w, i32_w]
             rfl
            refine take_ (i := 1) (N := some 41) (v := ?_) (a' := ?_) #[true, true, false, false, false] rfl rfl (by kernel_rfl) (fun _ _ _ h => h) (Or.inl ⟨by rfl, ?_⟩) hHeld ?_ ?_
            rotate_left
            ·rintro w' ⟨s0, s1, s2, s3⟩
             go_simp
             with_reducible rfl
            rotate_left
            ·simp only [Act.put, List.setIfInBounds_toArray, List.set_cons_zero, List.set_cons_succ, i64_w, i32_w]
             rfl
            refine one_ (i := 2) (N := some 42) #[true, true, true, false, false] rfl rfl (by kernel_rfl) (by decide) (fun K hK => ?_)
            refine goes_ Try.func41 (by kernel_rfl) rfl #[.agg #[.int .i64 ((rd_T52 l0_4 x36_3).f0), .int .i64 ((rd_T52 l0_4 x36_3).f1), .string ((rd_T52 l0_4 x36_3).f2)]] (by rfl) rfl rfl (by (try simp only [List.map_toArray, List.map_cons, List.map_nil]); first | done | rfl | (simp only [List.length_drop, List.length_take]; rfl)) ?_
            with_reducible refine (value_Put.calls k3 ((rd_T52 l0_4 x36_3).f0) ((rd_T52 l0_4 x36_3).f1) ((rd_T52 l0_4 x36_3).f2) t198 _ A51.out).mono ?_
            rintro e w59 ⟨v199, rfl, ho0, hb⟩
            refine ⟨_, rfl, ?_⟩
            have HO200 := Aside0.mk (Kd.R_lower (Kd.R_new' ho0 (Kd.R_lt (Kd.pl_R HO_173000.out))) (below_size (pl_below HB.out)))
            replace HO_173000 := Aside0.mk (Kd.R_elder' (Kd.pl_R HO_173000.out) (Kd.R_base ho0) hb)
            replace BK170 := bb BK170 hb
            replace BK172 := bb BK172 hb
            replace BK197 := bb BK197 hb
            replace HB := hB HB hb
            (try clear hb)
            (try clear hb2)
            (try clear hk)
            (try clear hi)
            (try clear ho0)
            obtain ⟨Ao61, co61, eo61⟩ := Kd.R_slice HO200.out
            (first | subst eo61 | (injection eo61 with f1_ f2_ f3_; have f4_ := f1_.symm; have f5_ := f3_.symm; clear f1_ f2_ f3_; subst f4_; subst f5_))
            refine hK.out _ _ ⟨(blk_cell BK172.out 0).trans rfl, (blk_cell BK197.out 0).trans rfl, (blk_cell BK197.out 1).trans rfl, (blk_cell BK197.out 2).trans rfl⟩ (fun hHeld => ?_)
            clear hK K
            refine norm_ (a' := ?_) ?_ ?_
            rotate_left
            ·show Act.put _ (some 42) _ = _
             simp only [Act.put, List.setIfInBounds_toArray, List.set_cons_zero, List.set_cons_succ, i64_w, i32_w]
             rfl
            refine one_ (i := 3) (N := some 43) #[true, true, true, true, false] rfl rfl (by kernel_rfl) (by decide) (fun K hK => ?_)
            refine Kd.R_append_rows_step (Kd.int .u8) (w0 := w) w.heap.size (by rfl) (.tmp 40) (.tmp 42) 40 5 (.int .u8 0) 1 rfl Try.underlying40 info5 rfl (by decide) (by omega) u173000 x173000_3 t198 _ _ _ (fun k_ => some k_ ≠ (.slice Ao61 t198.length co61 : Value).ownBlock) (fun _ => False) rfl rfl ?aO ?aR (fun _ _ h => h) (fun _ h => h.elim) ?aF ?aB ?aS ?aL ?_
            (case aR => repeat (first | exact (Kd.R_reads' HO200.out).2.2 | (with_reducible refine Kd.C_alloc ?_ _) | (with_reducible refine Kd.C_drewN ?_ _) | (with_reducible refine Kd.C_drew ?_)))
            (case aB => exact (pl_below HB.out))
            (case aF => exact (fun k_ hk => Kd.fresh' (Kd.R_lt (Kd.pl_R HO200.out)) k_ hk))
            (case aO => exact (by (with_reducible repeat (first | apply Kd.R_alloc | apply Kd.R_drewN | apply Kd.R_drew)); exact Kd.R_mono HO_173000.out (fun _ hk => hk.2)))
            (case aS => exact (below_size (pl_below HB.out)))
            (case aL => have := LMc52.out; omega)
            intro v202 w60 ho hb hg hat
            rw [← Ny201.out] at ho
            replace BK170 := Aside0.mk (blk_grown (pl_blk BK170.out) hg (Kd.R_ne HO_173000.out BK170.out (by decide)))
            replace BK172 := Aside0.mk (blk_grown (pl_blk BK172.out) hg (Kd.R_ne HO_173000.out BK172.out (by decide)))
            replace BK197 := Aside0.mk (blk_grown (pl_blk BK197.out) hg (Kd.R_ne HO_173000.out BK197.out (by decide)))
            replace HO200 := Aside0.mk (Kd.R_after (ok := (fun _ => True)) (Kd.pl_R HO200.out) hg hat)
            replace HB := Aside0.mk (hb)
            have HO203 := Aside0.mk (ho)
            clear HO_173000
            clear ho hb hg hat
            obtain ⟨Ao62, co62, eo62⟩ := Kd.R_slice HO203.out
            (first | subst eo62 | (injection eo62 with f1_ f2_ f3_; have f4_ := f1_.symm; have f5_ := f3_.symm; clear f1_ f2_ f3_; subst f4_; subst f5_))
            refine hK.out _ _ ⟨(blk_cell BK172.out 0).trans rfl, (blk_cell BK197.out 0).trans rfl, (blk_cell BK197.out 1).trans rfl, (blk_cell BK197.out 2).trans rfl⟩ (fun hHeld => ?_)
            clear hK K
            refine norm_ (a' := ?_) ?_ ?_
            rotate_left
            ·show Act.put _ (some 43) _ = _
             simp only [Act.put, List.setIfInBounds_toArray, List.set_cons_zero, List.set_cons_succ, i64_w, i32_w]
             rfl
            refine last_ (i := 4) (N := none) #[true, true, true, true, true] rfl rfl (by kernel_rfl) (by decide) (fun K hK => ?_)
            have hs63 : w60.cell? ⟨gb172, 0, none⟩ = some (u173000) := (blk_cell BK172.out 0).trans rfl
            have hfs63 := blk_frozen BK172.out 0
            have hns63_0 := NB170_172.out
            have hns63_2 := NB197_172.out
            have hms63_0 := NB172_170.out
            have hms63_2 := NB172_197.out
            refine skip_ (w1 := ?_) (by rfl) rfl ?_ ?_
            rotate_left
            ·go_simp
             rfl
            refine hK.out _ _ ?_
            clear hK K
            refine done_ (by kernel_rfl) ?_
            try go_wp2
            go_roundg k3
            case measure => have := HK1.out; have := HK2.out; have := HK3.out; omega
            case rel => exact ⟨(wrap64 (x36_3 + 1)), (y201), (.slice Ao62 y201.length co62), (by first | rfl | (simp; done) | (simp [*]; done) | grind), H', ⟨by have := HK1.out; have := HK2.out; have := HK3.out; omega⟩, ⟨by (with_reducible repeat (first | apply Kd.R_alloc | apply Kd.R_drewN | apply Kd.R_drew)); exact Kd.R_mono (Kd.R_far (p := ⟨gb172, 0, none⟩) (Kd.R_types HO203.out BK172.out (by decide)) (fun _ hk => hk.2) (.slice Ao62 y201.length co62)) (fun _ hk => trivial)⟩, ⟨pl_blk (blk_far (p := ⟨gb172, 0, none⟩) BK170.out NB170_172.out (.slice Ao62 y201.length co62))⟩, ⟨pl_blk (blk_put BK172.out 0 (.slice Ao62 y201.length co62) rfl)⟩, ⟨by repeat (first | (with_reducible first | exact HB.out | apply below_alloc | apply pw_below_drewN | apply below_drew1 | refine below_set ?_ GE172.out) | exact HB.out)⟩⟩
           ·rw [if_neg c48] at H
            have c48b0 : decide (x36_3 < (l0_4.length : Int)) = false := decide_eq_false c48
            clear c48
            obtain rfl := Option.some.inj H
            have hnb64 := NB172_170.out
            have hnc64 := NB170_172.out
            obtain ⟨hcz65_0, hfz65_0⟩ := blk_c1 BK172.out
            go_wp2
            go_ret
            exact ⟨_, by first | rfl | (simp [errW_none, errW_some] <;> rfl) | (simp [*, errW_none, errW_some] <;> rfl), Kd.pl_R HO_173000.out, pl_below HB.out⟩
  ·replace c3 := Bool.eq_false_iff.mpr c3
   subst c3
   rw [if_neg (show ¬ (false = true) by decide)] at H
   obtain rfl := Option.some.inj H
   go_enter Try.func21, Try.ntmps21
   go_wp2_with (first | ((with_reducible refine gate_dst (N := 1) rfl ?_); refine box_event ?hg (N := 1) ?hd (cs := #[.int .i64 a0_0, .int .i64 a0_1, .int .i64 a0_2, .string a0_3, .slice A0_4 l0_4.length c0_4]) (t := 25) ?hr ?_; (case hd => rfl); (case hg => rfl); (case hr => first | (go_simp; done) | (go_simp; rfl)); intro gb170 hg w66 hbox hb; have BK170 := Aside0.mk (hbox); have GW170 := hG HB hg; have GE170 := hG HB hg; replace HB := hB HB hb; clear hb hbox hg; obtain ⟨hcz67_0, hcz67_1, hcz67_2, hcz67_3, hcz67_4, hfz67_0, hfz67_1, hfz67_2, hfz67_3, hfz67_4⟩ := blk_c5 BK170.out) | ((with_reducible refine gate_callee (f := 35) rfl ?_); refine goesL_ (some 8) rfl rfl Try.func35 (by kernel_rfl) rfl #[.agg #[.int .i64 a0_0, .int .i64 a0_1, .int .i64 a0_2, .string a0_3, .slice A0_4 l0_4.length c0_4]] rfl (by (try simp only [List.map_toArray, List.map_cons, List.map_nil]); first | done | rfl | (simp only [List.length_drop, List.length_take]; rfl)) ?_; (with_reducible refine (event_right.calls k a0_0 a0_1 a0_2 a0_3 _ _ l0_4 false _ ?side1 ?side2 A2.out).mono ?_); (case side1 => repeat (first | exact (Kd.C_below HR0_4.out HB.out) | (with_reducible refine Kd.C_alloc ?_ _) | (with_reducible refine Kd.C_drewN ?_ _) | (with_reducible refine Kd.C_drew ?_))); (case side2 => exact HC0_4.out); rintro e w68 ⟨rfl, hb⟩; refine ⟨_, rfl, ?_⟩; replace BK170 := bb BK170 hb; replace HB := hB HB hb; (try clear hb); (try clear hb2); (try clear hk); (try clear hi)))
   go_ret
   exact ⟨_, by first | rfl | (simp [errW_none, errW_some] <;> rfl) | (simp [*, errW_none, errW_some] <;> rfl), by first | exact Kd.R_nil _ _ _ _ _ | exact Kd.N_nil _ _ _ _ _ | exact Kd.V_nil _ _ _ _ _ | exact Kd.Q_nil _ _ _ _ _ | exact Kd.S_nil _ _ _ _ _, pl_below HB.out⟩

end Go.Proofs.Ytbnjhmcbkocdjaa.PAll
