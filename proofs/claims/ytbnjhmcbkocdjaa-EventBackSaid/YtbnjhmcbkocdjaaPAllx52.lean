/- Written by this session's own program (wip/xprint): functions of the Go program as Lean functions, and proofs that the Go code computes them. -/
import Derived.Test.YtbnjhmcbkocdjaaPAllx0
import Derived.Test.YtbnjhmcbkocdjaaPAllx23
import Derived.Test.YtbnjhmcbkocdjaaPAllx27
import Derived.Test.YtbnjhmcbkocdjaaPAllx29
import Derived.Test.YtbnjhmcbkocdjaaPAllx32
import Derived.Test.YtbnjhmcbkocdjaaPAllx34
namespace Go.Proofs.Ytbnjhmcbkocdjaa.PAll
open Go.RowKit Go.Proofs.YtbnjhmcbkocdjaaW.PrintWords Go.Proofs.YtbnjhmcbkocdjaaW.PrintLast Go.Proofs.YtbnjhmcbkocdjaaW.PrintMore
attribute [local go_sem] max2_int min2_int max_two min_two max_three min_three max_four min_four   -- for this text's walks alone
set_option linter.unusedVariables false
set_option linter.unusedSimpArgs false

/-! ### augurylaw05_EventBack: function 5 -/
mutual
def augurylaw05_EventBack.j0 : Nat → List Int → Int → Int → Bool → Bool → Int → Int → Int → ByteArray → List (S52) → Option (Bool)
  | 0, _, _, _, _, _, _, _, _, _, _ => none
  | k + 1, x1, x2, x3, x9, x26, x507000, x507001, x507002, x507003, x507004 => if x26 = true then (if x9 = true then (some true) else (none)) else ((event_Put.f k x507000 x507001 x507002 x507003 x507004).bind fun t509 => (if (t509.length : Int) > 0 then ((event_Get.f k t509).bind fun bt512 => (if (t509.length : Int) = 0 then (none) else (if 0 ≤ (Int.tmod (wrap64 (x2)) (t509.length : Int)) then (if (Int.tmod (wrap64 (x2)) (t509.length : Int)) ≤ (t509.length : Int) then ((event_Get.f k (t509.take ((Int.tmod (wrap64 (x2)) (t509.length : Int)) : Int).toNat)).bind fun bt526 => ((some (([] : List Int) : List Int)).bind fun y535 => (if y535.length + t509.length < 140737488355328 then ((some (y535 ++ t509 : List Int)).bind fun y538 => (if y538.length < 140737488355328 then ((event_Get.f k (y538 ++ [x3])).bind fun bt544 => (if bt512.2.2.2.2.2 = true then ((auguryref05_SameOne.f k x507000 x507001 x507002 x507003 x507004 bt512.1 bt512.2.1 bt512.2.2.1 bt512.2.2.2.1 bt512.2.2.2.2.1).bind fun t553 => (if t553 = true then (if bt526.2.2.2.2.2 = true then (none) else (if bt544.2.2.2.2.2 = true then (none) else (augurylaw05_EventBack.j1 k x1 x9))) else (none))) else (none))) else (none))) else (none)))) else (none)) else (none)))) else (augurylaw05_EventBack.j1 k x1 x9)))
def augurylaw05_EventBack.j1 : Nat → List Int → Bool → Option (Bool)
  | 0, _, _ => none
  | k + 1, x1, x9 => (event_Get.f k x1).bind fun bt554 => (if bt554.2.2.2.2.2 = true then (if x9 = true then ((event_Put.f k bt554.1 bt554.2.1 bt554.2.2.1 bt554.2.2.2.1 bt554.2.2.2.2.1).bind fun t563 => (if (strOfNums t563).toList = (strOfNums x1).toList then (if (x1.length : Int) > 0 then (some true) else (none)) else (none))) else (none)) else (if x9 = true then ((auguryref05_SameOne.f k bt554.1 bt554.2.1 bt554.2.2.1 bt554.2.2.2.1 bt554.2.2.2.2.1 0 0 0 (⟨#[]⟩ : ByteArray) ([] : List (S52))).bind fun t566 => (if t566 = true then (some true) else (none))) else (none)))
end
def augurylaw05_EventBack.f (k : Nat) (a0_0 : Int) (a0_1 : Int) (a0_2 : Int) (a0_3 : ByteArray) (l0_4 : List (S52)) (l1 : List Int) (a2 : Int) (a3 : Int) : Option (Bool) := (augurylaw05_head.f k).bind fun t507 => ((augurylaw05_GreatEvent.f k a0_0 a0_1 a0_2 a0_3 l0_4).bind fun t508 => (if t508 = true then (augurylaw05_EventBack.j0 k l1 a2 a3 t507 true a0_0 a0_1 a0_2 a0_3 l0_4) else (augurylaw05_EventBack.j0 k l1 a2 a3 t507 (decide ((l1.length : Int) > 9000)) a0_0 a0_1 a0_2 a0_3 l0_4)))
theorem augurylaw05_EventBack.mono_l : ∀ k, (∀ y0 y1 y2 y3 y4 y5 y6 y7 y8 y9, LeO (augurylaw05_EventBack.j0 k y0 y1 y2 y3 y4 y5 y6 y7 y8 y9) (augurylaw05_EventBack.j0 (k + 1) y0 y1 y2 y3 y4 y5 y6 y7 y8 y9)) ∧ (∀ y0 y1, LeO (augurylaw05_EventBack.j1 k y0 y1) (augurylaw05_EventBack.j1 (k + 1) y0 y1))
  | 0 => ⟨fun _ _ _ _ _ _ _ _ _ _ r h => by simp [augurylaw05_EventBack.j0] at h, fun _ _ r h => by simp [augurylaw05_EventBack.j1] at h⟩
  | k + 1 => by
    obtain ⟨ih0, ih1⟩ := augurylaw05_EventBack.mono_l k
    refine ⟨?_, ?_⟩
    · intro y0 y1 y2 y3 y4 y5 y6 y7 y8 y9
      unfold augurylaw05_EventBack.j0
      repeat' first
      | (with_reducible exact ih0 _ _ _ _ _ _ _ _ _ _)
      | (with_reducible exact ih1 _ _)
      | (with_reducible exact augurylaw05_GreatEvent.mono _ _ _ _ _ _)
      | (with_reducible exact augurylaw05_head.mono _)
      | (with_reducible exact auguryref05_SameOne.mono _ _ _ _ _ _ _ _ _ _ _)
      | (with_reducible exact event_Get.mono _ _)
      | (with_reducible exact event_Put.mono _ _ _ _ _ _)
      | (with_reducible exact LeO.refl _)
      | (with_reducible exact LeO.none _)
      | (with_reducible refine LeO.ite ?_ ?_)
      | (with_reducible refine LeO.bind ?_ (fun _ => ?_))
      | exact LeO.none _
      | refine LeO.ite ?_ ?_
      | refine LeO.bind ?_ (fun _ => ?_)
    · intro y0 y1
      unfold augurylaw05_EventBack.j1
      repeat' first
      | (with_reducible exact ih0 _ _ _ _ _ _ _ _ _ _)
      | (with_reducible exact ih1 _ _)
      | (with_reducible exact augurylaw05_GreatEvent.mono _ _ _ _ _ _)
      | (with_reducible exact augurylaw05_head.mono _)
      | (with_reducible exact auguryref05_SameOne.mono _ _ _ _ _ _ _ _ _ _ _)
      | (with_reducible exact event_Get.mono _ _)
      | (with_reducible exact event_Put.mono _ _ _ _ _ _)
      | (with_reducible exact LeO.refl _)
      | (with_reducible exact LeO.none _)
      | (with_reducible refine LeO.ite ?_ ?_)
      | (with_reducible refine LeO.bind ?_ (fun _ => ?_))
      | exact LeO.none _
      | refine LeO.ite ?_ ?_
      | refine LeO.bind ?_ (fun _ => ?_)
theorem augurylaw05_EventBack.mono : ∀ a0 a1 a2 a3 a4 a5 a6 a7 k, LeO (augurylaw05_EventBack.f k a0 a1 a2 a3 a4 a5 a6 a7) (augurylaw05_EventBack.f (k + 1) a0 a1 a2 a3 a4 a5 a6 a7) := by
  intro a0 a1 a2 a3 a4 a5 a6 a7 k
  obtain ⟨ih0, ih1⟩ := augurylaw05_EventBack.mono_l k
  unfold augurylaw05_EventBack.f
  repeat' first
      | (with_reducible exact ih0 _ _ _ _ _ _ _ _ _ _)
      | (with_reducible exact ih1 _ _)
      | (with_reducible exact augurylaw05_GreatEvent.mono _ _ _ _ _ _)
      | (with_reducible exact augurylaw05_head.mono _)
      | (with_reducible exact auguryref05_SameOne.mono _ _ _ _ _ _ _ _ _ _ _)
      | (with_reducible exact event_Get.mono _ _)
      | (with_reducible exact event_Put.mono _ _ _ _ _ _)
      | (with_reducible exact LeO.refl _)
      | (with_reducible exact LeO.none _)
      | (with_reducible refine LeO.ite ?_ ?_)
      | (with_reducible refine LeO.bind ?_ (fun _ => ?_))
      | exact LeO.none _
      | refine LeO.ite ?_ ?_
      | refine LeO.bind ?_ (fun _ => ?_)
def augurylaw05_EventBack.T14 : Bool × List (List Nat × List Nat) := (true, [([], []), ([0], [0]), ([1], [1]), ([2, 1, 1], [1, 2]), ([3, 1], [1, 3]), ([1], [1]), ([5, 1], [1, 5]), ([4, 6, 1], [1, 4, 6]), ([1, 7], [1, 7]), ([8, 3], [8]), ([9], [9]), ([10, 9], [9, 10]), ([11, 9], [9, 11]), ([9, 12], [9, 12]), ([13, 9, 0, 1, 2, 3, 4, 5, 6, 7, 8, 9, 10, 11, 12, 13], [13])])
def augurylaw05_EventBack.B14 : List Nat := [0, 1, 3, 7, 15, 3, 35, 127, 255, 511, 1023, 2047, 4095, 8191, 16383]
theorem augurylaw05_EventBack.tab14 : rtab .any (opsOf Try.f5 14) = augurylaw05_EventBack.T14 := by kernel_rfl
theorem augurylaw05_EventBack.bits14 : waitsOk augurylaw05_EventBack.T14.2 augurylaw05_EventBack.B14 = true := by kernel_rfl
set_option maxHeartbeats 8000000 in
set_option maxRecDepth 100000 in
theorem augurylaw05_EventBack.calls (k : Nat) (a0_0 : Int) (a0_1 : Int) (a0_2 : Int) (a0_3 : ByteArray) (A0_4 : Option Addr) (c0_4 : Nat) (l0_4 : List (S52)) (A1 : Option Addr) (c1 : Nat) (l1 : List Int) (a2 : Int) (a3 : Int) (r : Bool) (w : World) (hr0_4 : Kd.C k52 w A0_4 l0_4.length l0_4) (hc0_4 : l0_4.length ≤ c0_4) (hr1 : Kd.C (Kd.int .u8) w A1 l1.length l1) (hc1 : l1.length ≤ c1) (h : augurylaw05_EventBack.f k a0_0 a0_1 a0_2 a0_3 l0_4 l1 a2 a3 = some r) :
    Calls Try.prog 5 #[.agg #[.int .i64 a0_0, .int .i64 a0_1, .int .i64 a0_2, .string a0_3, .slice A0_4 l0_4.length c0_4], .slice A1 l1.length c1, .int .u16 a2, .int .u8 a3] w fun e w' => e = .returned (.bool r) ∧ Below w.heap.size w w' := by
  have hu25 := Try.underlying25
  have HR0_4 := Aside0.mk hr0_4
  have HC0_4 := Aside0.mk hc0_4
  clear hr0_4 hc0_4
  have HR1 := Aside0.mk hr1
  have HC1 := Aside0.mk hc1
  clear hr1 hc1
  have HB := Aside0.mk (Below.refl w.heap.size w)
  have H : ((augurylaw05_head.f k).bind fun t507 => ((augurylaw05_GreatEvent.f k a0_0 a0_1 a0_2 a0_3 l0_4).bind fun t508 => (if t508 = true then (augurylaw05_EventBack.j0 k l1 a2 a3 t507 true a0_0 a0_1 a0_2 a0_3 l0_4) else (augurylaw05_EventBack.j0 k l1 a2 a3 t507 (decide ((l1.length : Int) > 9000)) a0_0 a0_1 a0_2 a0_3 l0_4)))) = some r := h
  clear h
  replace H := Option.bind_eq_some_iff.mp H
  obtain ⟨t507, A5, H⟩ := H
  (try dsimp only at H)
  replace A5 := Aside0.mk A5
  have HC6 := Aside0.mk H
  clear H
  go_enter Try.func5, Try.ntmps5
  go_upto_region 2 with (first | ((with_reducible refine gate_dst (N := 4) rfl ?_); (try (refine gate_guard (by rfl) ?_; dsimp only)); refine box_event ?hg (N := 4) ?hd (cs := #[.int .i64 a0_0, .int .i64 a0_1, .int .i64 a0_2, .string a0_3, .slice A0_4 l0_4.length c0_4]) (t := 25) ?hr ?_; (case hd => rfl); (case hg => rfl); (case hr => first | (go_simp; done) | (go_simp; rfl)); intro gb506 hg w7 hbox hb; have BK506 := Aside0.mk (hbox); have GW506 := hG HB hg; have GE506 := hG HB hg; replace HB := hB HB hb; clear hb hbox hg) | ((with_reducible refine gate_callee (f := 9) rfl ?_); refine goesL_ (some 19) rfl rfl Try.func9 (by kernel_rfl) rfl #[] rfl (by (try simp only [List.map_toArray, List.map_cons, List.map_nil]); first | done | rfl | (simp only [List.length_drop, List.length_take]; rfl)) ?_; (with_reducible refine (augurylaw05_head.calls k  t507 _ A5.out).mono ?_); rintro e w8 ⟨rfl, hb⟩; refine ⟨_, rfl, ?_⟩; replace BK506 := bb BK506 hb; replace HB := hB HB hb; (try clear hb); (try clear hb2); (try clear hk); (try clear hi)))
  (try simp only [Act.put, List.setIfInBounds_toArray, List.set_cons_zero, List.set_cons_succ])
  go_cut [26] (fun v26 wc => ∃ (kq : Nat) (x26_5 : Bool), v26 = .bool x26_5 ∧ Aside0 (augurylaw05_EventBack.j0 kq l1 a2 a3 t507 x26_5 a0_0 a0_1 a0_2 a0_3 l0_4 = some r) ∧ Aside0 (kq ≤ k) ∧ Aside0 (wc.heap[gb506]? = some (.cells #[.int .i64 a0_0, .int .i64 a0_1, .int .i64 a0_2, .string a0_3, (.slice A0_4 l0_4.length c0_4)] 25 (0, 0))) ∧ Aside0 (Below w.heap.size w wc))
  case first =>
   have H := HC6.out
   clear HC6
   replace H := Option.bind_eq_some_iff.mp H
   obtain ⟨t508, A9, H⟩ := H
   (try dsimp only at H)
   replace A9 := Aside0.mk A9
   by_cases c10 : t508 = true
   ·subst c10
    rw [if_pos rfl] at H
    have H' := Aside0.mk H
    clear H
    obtain ⟨hcz11_0, hcz11_1, hcz11_2, hcz11_3, hcz11_4, hfz11_0, hfz11_1, hfz11_2, hfz11_3, hfz11_4⟩ := blk_c5 BK506.out
    go_wp2_with (first | ((with_reducible refine gate_callee (f := 11) rfl ?_); refine goesL_ (some 21) rfl rfl Try.func11 (by kernel_rfl) rfl #[.agg #[.int .i64 a0_0, .int .i64 a0_1, .int .i64 a0_2, .string a0_3, .slice A0_4 l0_4.length c0_4]] rfl (by (try simp only [List.map_toArray, List.map_cons, List.map_nil]); first | done | rfl | (simp only [List.length_drop, List.length_take]; rfl)) ?_; (with_reducible refine (augurylaw05_GreatEvent.calls k a0_0 a0_1 a0_2 a0_3 _ _ l0_4 true _ ?side1 ?side2 A9.out).mono ?_); (case side1 => repeat (first | exact (Kd.C_below HR0_4.out HB.out) | (with_reducible refine Kd.C_alloc ?_ _) | (with_reducible refine Kd.C_drewN ?_ _) | (with_reducible refine Kd.C_drew ?_))); (case side2 => exact HC0_4.out); rintro e w12 ⟨rfl, hb⟩; refine ⟨_, rfl, ?_⟩; replace BK506 := bb BK506 hb; replace HB := hB HB hb; (try clear hb); (try clear hb2); (try clear hk); (try clear hi)))
    go_meet
    case rel => exact ⟨_, (true), (by first | rfl | (simp; done) | (simp [*]; done) | grind), H', ⟨by first | omega | exact Nat.le_refl _⟩, ⟨pl_blk BK506.out⟩, ⟨pl_below HB.out⟩⟩
   ·replace c10 := Bool.eq_false_iff.mpr c10
    subst c10
    rw [if_neg (show ¬ (false = true) by decide)] at H
    have H' := Aside0.mk H
    clear H
    obtain ⟨hcz13_0, hcz13_1, hcz13_2, hcz13_3, hcz13_4, hfz13_0, hfz13_1, hfz13_2, hfz13_3, hfz13_4⟩ := blk_c5 BK506.out
    go_wp2_with (first | ((with_reducible refine gate_callee (f := 11) rfl ?_); refine goesL_ (some 21) rfl rfl Try.func11 (by kernel_rfl) rfl #[.agg #[.int .i64 a0_0, .int .i64 a0_1, .int .i64 a0_2, .string a0_3, .slice A0_4 l0_4.length c0_4]] rfl (by (try simp only [List.map_toArray, List.map_cons, List.map_nil]); first | done | rfl | (simp only [List.length_drop, List.length_take]; rfl)) ?_; (with_reducible refine (augurylaw05_GreatEvent.calls k a0_0 a0_1 a0_2 a0_3 _ _ l0_4 false _ ?side1 ?side2 A9.out).mono ?_); (case side1 => repeat (first | exact (Kd.C_below HR0_4.out HB.out) | (with_reducible refine Kd.C_alloc ?_ _) | (with_reducible refine Kd.C_drewN ?_ _) | (with_reducible refine Kd.C_drew ?_))); (case side2 => exact HC0_4.out); rintro e w14 ⟨rfl, hb⟩; refine ⟨_, rfl, ?_⟩; replace BK506 := bb BK506 hb; replace HB := hB HB hb; (try clear hb); (try clear hb2); (try clear hk); (try clear hi)))
    go_meet
    case rel => exact ⟨_, (decide ((l1.length : Int) > 9000)), (by first | rfl | (simp; done) | (simp [*]; done) | grind), H', ⟨by first | omega | exact Nat.le_refl _⟩, ⟨pl_blk BK506.out⟩, ⟨pl_below HB.out⟩⟩
  case rest =>
   clear HC6
   (try clear c1); (try clear p2); (try clear c5); (try clear c9); (try clear c10); (try clear c11); (try clear hcz11_0 hcz11_1 hcz11_2 hcz11_3 hcz11_4 hfz11_0 hfz11_1 hfz11_2 hfz11_3 hfz11_4); (try clear hcz13_0 hcz13_1 hcz13_2 hcz13_3 hcz13_4 hfz13_0 hfz13_1 hfz13_2 hfz13_3 hfz13_4)
   obtain ⟨kq, x26_5, rfl, HA, HJ5, BK506, HB⟩ := hcut
   cases kq with
   | zero => exact absurd HA.out (by simp [augurylaw05_EventBack.j0])
   | succ kj5 =>
    have H := HA.out
    clear HA
    simp only [augurylaw05_EventBack.j0] at H
    by_cases c15 : x26_5 = true
    ·subst c15
     rw [if_pos rfl] at H
     by_cases c16 : t507 = true; rotate_left
     ·rw [if_neg c16] at H; cases H
     subst c16
     rw [if_pos rfl] at H
     obtain rfl := Option.some.inj H
     go_wp2
     go_ret
     exact ⟨by first | rfl | (simp [errW_none, errW_some] <;> rfl) | (simp [*, errW_none, errW_some] <;> rfl), pl_below HB.out⟩
    ·replace c15 := Bool.eq_false_iff.mpr c15
     subst c15
     rw [if_neg (show ¬ (false = true) by decide)] at H
     replace H := Option.bind_eq_some_iff.mp H
     obtain ⟨t509, A17, H⟩ := H
     (try dsimp only at H)
     replace A17 := Aside0.mk A17
     have HC18 := Aside0.mk H
     clear H
     obtain ⟨hcz19_0, hcz19_1, hcz19_2, hcz19_3, hcz19_4, hfz19_0, hfz19_1, hfz19_2, hfz19_3, hfz19_4⟩ := blk_c5 BK506.out
     go_upto_if 32 with (first | ((with_reducible refine gate_callee (f := 21) rfl ?_); refine goesL_ (some 29) rfl rfl Try.func21 (by kernel_rfl) rfl #[.agg #[.int .i64 a0_0, .int .i64 a0_1, .int .i64 a0_2, .string a0_3, .slice A0_4 l0_4.length c0_4]] rfl (by (try simp only [List.map_toArray, List.map_cons, List.map_nil]); first | done | rfl | (simp only [List.length_drop, List.length_take]; rfl)) ?_; (with_reducible refine (event_Put.calls kj5 a0_0 a0_1 a0_2 a0_3 _ _ l0_4 t509 _ ?side1 ?side2 A17.out).mono ?_); (case side1 => repeat (first | exact (Kd.C_below HR0_4.out HB.out) | (with_reducible refine Kd.C_alloc ?_ _) | (with_reducible refine Kd.C_drewN ?_ _) | (with_reducible refine Kd.C_drew ?_))); (case side2 => exact HC0_4.out); rintro e w20 ⟨v510, rfl, ho0, hb⟩; refine ⟨_, rfl, ?_⟩; have HO511 := Aside0.mk (Kd.R_lower ho0 (below_size (pl_below HB.out))); replace BK506 := bb BK506 hb; replace HB := hB HB hb; (try clear hb); (try clear hb2); (try clear hk); (try clear hi); (try clear ho0); obtain ⟨Ao21, co21, eo21⟩ := Kd.R_slice HO511.out; subst eo21))
     (try simp only [Act.put, List.setIfInBounds_toArray, List.set_cons_zero, List.set_cons_succ])
     go_cut [] (fun wc => ∃ (kq : Nat), Aside0 (augurylaw05_EventBack.j1 kq l1 t507 = some r) ∧ Aside0 (kq ≤ kj5) ∧ Aside0 (wc.heap[gb506]? = some (.cells #[.int .i64 a0_0, .int .i64 a0_1, .int .i64 a0_2, .string a0_3, (.slice A0_4 l0_4.length c0_4)] 25 (0, 0))) ∧ Aside0 (Below w.heap.size w wc))
     case first =>
      have H := HC18.out
      clear HC18
      by_cases c22 : (t509.length : Int) > 0
      ·rw [if_pos c22] at H
       have c22b0 : decide (0 < (t509.length : Int)) = true := decide_eq_true c22
       have c22b1 : decide (0 < t509.length) = true := decide_eq_true (by omega)
       clear c22
       (first | rw [c22b0] | (simp only [i64_w, i32_w]; rw [c22b0]) | rw [c22b1] | skip)
       replace H := Option.bind_eq_some_iff.mp H
       obtain ⟨⟨t512, t513, t514, t515, t516, t519⟩, A23, H⟩ := H
       (try dsimp only at H)
       replace A23 := Aside0.mk A23
       by_cases c24 : (t509.length : Int) = 0
       ·rw [if_pos c24] at H; cases H
       rw [if_neg c24] at H
       have c24b0 : ((t509.length : Int) == 0) = false := beq_eq_false_iff_ne.mpr c24
       have c24b1 : ((t509.length : Int) != 0) = true := bne_iff_ne.mpr c24
       have c24b2 : ¬ (t509 = []) := fun h_ => c24 (by rw [h_]; rfl)
       obtain ⟨ji25, hji25⟩ : ∃ j_ : Int, (Int.tmod (wrap64 (a2)) (t509.length : Int)) = j_ := ⟨_, rfl⟩
       replace H : (if 0 ≤ (ji25) then (if (ji25) ≤ (t509.length : Int) then ((event_Get.f kj5 (t509.take ((ji25) : Int).toNat)).bind fun bt526 => ((some (([] : List Int) : List Int)).bind fun y535 => (if y535.length + t509.length < 140737488355328 then ((some (y535 ++ t509 : List Int)).bind fun y538 => (if y538.length < 140737488355328 then ((event_Get.f kj5 (y538 ++ [a3])).bind fun bt544 => (if t519 = true then ((auguryref05_SameOne.f kj5 a0_0 a0_1 a0_2 a0_3 l0_4 t512 t513 t514 t515 t516).bind fun t553 => (if t553 = true then (if bt526.2.2.2.2.2 = true then (none) else (if bt544.2.2.2.2.2 = true then (none) else (augurylaw05_EventBack.j1 kj5 l1 t507))) else (none))) else (none))) else (none))) else (none)))) else (none)) else (none)) = some r := by first | (rw [hji25] at H; exact H) | (simp only [hji25] at H ⊢; exact H)
       (try rw [hji25] at A23)
       by_cases c26 : 0 ≤ (ji25); rotate_left
       ·rw [if_neg c26] at H; cases H
       rw [if_pos c26] at H
       have c26b0 := eq_true c26
       have c26b1 : decide (0 ≤ (ji25)) = true := decide_eq_true c26
       clear c26
       by_cases c27 : (ji25) ≤ (t509.length : Int); rotate_left
       ·rw [if_neg c27] at H; cases H
       rw [if_pos c27] at H
       have c27b0 := eq_true c27
       have c27b1 : decide ((ji25) ≤ (t509.length : Int)) = true := decide_eq_true c27
       clear c27
       obtain ⟨y521, hy521⟩ : ∃ y_ : List Int, y_ = (t509.take ((ji25) : Int).toNat) := ⟨_, rfl⟩
       replace H : ((event_Get.f kj5 y521).bind fun bt526 => ((some (([] : List Int) : List Int)).bind fun y535 => (if y535.length + t509.length < 140737488355328 then ((some (y535 ++ t509 : List Int)).bind fun y538 => (if y538.length < 140737488355328 then ((event_Get.f kj5 (y538 ++ [a3])).bind fun bt544 => (if t519 = true then ((auguryref05_SameOne.f kj5 a0_0 a0_1 a0_2 a0_3 l0_4 t512 t513 t514 t515 t516).bind fun t553 => (if t553 = true then (if bt526.2.2.2.2.2 = true then (none) else (if bt544.2.2.2.2.2 = true then (none) else (augurylaw05_EventBack.j1 kj5 l1 t507))) else (none))) else (none))) else (none))) else (none)))) = some r := by first | (rw [hy521]; with_reducible exact H) | (have H2_ := (Option.bind_some _ _).symm.trans H; rw [hy521]; with_reducible exact H2_) | (have H2_ := (Option.bind_some _ _).symm.trans H; with_reducible exact H2_) | with_reducible exact H | (rw [hy521]; exact H) | exact H
       have Ny521 := Aside0.mk hy521
       clear hy521
       replace H := Option.bind_eq_some_iff.mp H
       obtain ⟨⟨t526, t527, t528, t529, t530, t533⟩, A28, H⟩ := H
       (try dsimp only at H)
       replace A28 := Aside0.mk A28
       obtain ⟨y535, hy535⟩ : ∃ y_ : List Int, y_ = (([] : List Int)) := ⟨_, rfl⟩
       replace H : (if y535.length + t509.length < 140737488355328 then ((some (y535 ++ t509 : List Int)).bind fun y538 => (if y538.length < 140737488355328 then ((event_Get.f kj5 (y538 ++ [a3])).bind fun bt544 => (if t519 = true then ((auguryref05_SameOne.f kj5 a0_0 a0_1 a0_2 a0_3 l0_4 t512 t513 t514 t515 t516).bind fun t553 => (if t553 = true then (if t533 = true then (none) else (if bt544.2.2.2.2.2 = true then (none) else (augurylaw05_EventBack.j1 kj5 l1 t507))) else (none))) else (none))) else (none))) else (none)) = some r := by first | (rw [hy535]; with_reducible exact H) | (have H2_ := (Option.bind_some _ _).symm.trans H; rw [hy535]; with_reducible exact H2_) | (have H2_ := (Option.bind_some _ _).symm.trans H; with_reducible exact H2_) | with_reducible exact H | (rw [hy535]; exact H) | exact H
       have Ny535 := Aside0.mk hy535
       clear hy535
       by_cases c29 : y535.length + t509.length < 140737488355328; rotate_left
       ·rw [if_neg c29] at H; cases H
       rw [if_pos c29] at H
       have LMc29 := Aside0.mk c29
       clear c29
       obtain ⟨y538, hy538⟩ : ∃ y_ : List Int, y_ = (y535 ++ t509) := ⟨_, rfl⟩
       replace H : (if y538.length < 140737488355328 then ((event_Get.f kj5 (y538 ++ [a3])).bind fun bt544 => (if t519 = true then ((auguryref05_SameOne.f kj5 a0_0 a0_1 a0_2 a0_3 l0_4 t512 t513 t514 t515 t516).bind fun t553 => (if t553 = true then (if t533 = true then (none) else (if bt544.2.2.2.2.2 = true then (none) else (augurylaw05_EventBack.j1 kj5 l1 t507))) else (none))) else (none))) else (none)) = some r := by first | (rw [hy538]; with_reducible exact H) | (have H2_ := (Option.bind_some _ _).symm.trans H; rw [hy538]; with_reducible exact H2_) | (have H2_ := (Option.bind_some _ _).symm.trans H; with_reducible exact H2_) | with_reducible exact H | (rw [hy538]; exact H) | exact H
       have Ny538 := Aside0.mk hy538
       clear hy538
       by_cases c30 : y538.length < 140737488355328; rotate_left
       ·rw [if_neg c30] at H; cases H
       rw [if_pos c30] at H
       have LMc30 := Aside0.mk c30
       clear c30
       obtain ⟨y541, hy541⟩ : ∃ y_ : List Int, y_ = (y538 ++ [a3]) := ⟨_, rfl⟩
       replace H : ((event_Get.f kj5 y541).bind fun bt544 => (if t519 = true then ((auguryref05_SameOne.f kj5 a0_0 a0_1 a0_2 a0_3 l0_4 t512 t513 t514 t515 t516).bind fun t553 => (if t553 = true then (if t533 = true then (none) else (if bt544.2.2.2.2.2 = true then (none) else (augurylaw05_EventBack.j1 kj5 l1 t507))) else (none))) else (none))) = some r := by first | (rw [hy541]; with_reducible exact H) | (have H2_ := (Option.bind_some _ _).symm.trans H; rw [hy541]; with_reducible exact H2_) | (have H2_ := (Option.bind_some _ _).symm.trans H; with_reducible exact H2_) | with_reducible exact H | (rw [hy541]; exact H) | exact H
       have Ny541 := Aside0.mk hy541
       clear hy541
       replace H := Option.bind_eq_some_iff.mp H
       obtain ⟨⟨t544, t545, t546, t547, t548, t551⟩, A31, H⟩ := H
       (try dsimp only at H)
       replace A31 := Aside0.mk A31
       by_cases c32 : t519 = true; rotate_left
       ·rw [if_neg c32] at H; cases H
       subst c32
       rw [if_pos rfl] at H
       replace H := Option.bind_eq_some_iff.mp H
       obtain ⟨t553, A33, H⟩ := H
       (try dsimp only at H)
       replace A33 := Aside0.mk A33
       by_cases c34 : t553 = true; rotate_left
       ·rw [if_neg c34] at H; cases H
       subst c34
       rw [if_pos rfl] at H
       by_cases c35 : t533 = true
       ·rw [if_pos c35] at H; cases H
       replace c35 := Bool.eq_false_iff.mpr c35
       subst c35
       rw [if_neg (show ¬ (false = true) by decide)] at H
       by_cases c36 : t551 = true
       ·rw [if_pos c36] at H; cases H
       replace c36 := Bool.eq_false_iff.mpr c36
       subst c36
       rw [if_neg (show ¬ (false = true) by decide)] at H
       have H' := Aside0.mk H
       clear H
       go_wp2_with (first | ((with_reducible refine gate_callee (f := 25) rfl ?_); refine goesL_ (some 35) rfl rfl Try.func25 (by kernel_rfl) rfl #[.slice Ao21 t509.length co21] rfl (by (try simp only [List.map_toArray, List.map_cons, List.map_nil]); first | done | rfl | (simp only [List.length_drop, List.length_take]; rfl)) ?_; (with_reducible refine (event_Get.calls kj5 (fun k_ => some k_ = (.slice Ao21 t509.length co21 : Value).ownBlock) _ _ t509 t512 t513 t514 t515 t516 true _ ?side1 A23.out).mono ?_); (case side1 => exact Kd.R_V (Kd.R_tight rfl (Kd.R_types (HO511.out) BK506.out (by decide)))); rintro e w37 ⟨v517, rfl, ho0, hb⟩; refine ⟨_, rfl, ?_⟩; replace HO511 := Aside0.mk (Kd.R_below (Kd.pl_R HO511.out) hb); have HO518 := Aside0.mk (Kd.R_lower (Kd.R_mono (ok' := fun k_ => True) ho0 (fun _ hk_ => trivial)) (below_size (pl_below HB.out))); replace BK506 := bb BK506 hb; replace HB := hB HB hb; (try clear hb); (try clear hb2); (try clear hk); (try clear hi); (try clear ho0)) | ((with_reducible refine gate_dst (N := 11) rfl ?_); (try (refine gate_guard (by rfl) ?_; dsimp only)); refine box_event ?hg (N := 11) ?hd (cs := #[.int .i64 0, .int .i64 0, .int .i64 0, .string (⟨#[]⟩ : ByteArray), .slice none 0 0]) (t := 25) ?hr ?_; (case hd => rfl); (case hg => rfl); (case hr => first | (go_simp; done) | (go_simp; rfl)); intro gb520 hg w38 hbox hb; replace HO511 := Aside0.mk (Kd.R_below (Kd.pl_R HO511.out) hb); replace HO518 := Aside0.mk (Kd.R_below (Kd.pl_R HO518.out) hb); have BK520 := Aside0.mk (hbox); have GW520 := hG HB hg; have GE520 := hG HB hg; replace HB := hB HB hb; have NB506_520 := hN BK506 hg; have NB520_506 := hM BK506 hg; replace BK506 := bb BK506 hb; clear hb hbox hg; have hnb39 := NB520_506.out; have hnc39 := NB506_520.out; obtain ⟨hcz40_0, hcz40_1, hcz40_2, hcz40_3, hcz40_4, hfz40_0, hfz40_1, hfz40_2, hfz40_3, hfz40_4⟩ := blk_c5 BK520.out; obtain ⟨Ao41, co41, eo41⟩ := Kd.R_slice HO518.out; subst eo41) | ((with_reducible refine gate_store (t := 25) (p := 11) rfl ?_); refine store_event (t := 25) (p := 11) (v := ?vo_w42) (w1 := (((((w38.setCell ⟨gb520, 0, none⟩ (.int .i64 t512)).setCell ⟨gb520, 1, none⟩ (.int .i64 t513)).setCell ⟨gb520, 2, none⟩ (.int .i64 t514)).setCell ⟨gb520, 3, none⟩ (.string t515)).setCell ⟨gb520, 4, none⟩ (.slice Ao41 t516.length co41))) ?hg ?ho ?hn ?hr ?_; (case ho => rfl); (case hg => rfl); (case hn => rfl); (case hr => first | (go_simp; done) | (go_simp; rfl)); intro w42 hw; have n0_ : Aside0 (Kd.R (Kd.int .u8) 5 w42 w.heap.size (fun _ => True) (.slice Ao21 t509.length co21) t509) := ⟨(by rw [hw]; exact (by (with_reducible repeat (first | apply Kd.R_alloc | apply Kd.R_drewN | apply Kd.R_drew)); exact Kd.R_mono (Kd.R_far (p := ⟨gb520, 4, none⟩) (Kd.R_far (p := ⟨gb520, 3, none⟩) (Kd.R_far (p := ⟨gb520, 2, none⟩) (Kd.R_far (p := ⟨gb520, 1, none⟩) (Kd.R_far (p := ⟨gb520, 0, none⟩) (Kd.R_types HO511.out BK520.out (by decide)) (fun _ hk => hk.2) (.int .i64 t512)) (fun _ hk => hk.2) (.int .i64 t513)) (fun _ hk => hk.2) (.int .i64 t514)) (fun _ hk => hk.2) (.string t515)) (fun _ hk => hk.2) (.slice Ao41 t516.length co41)) (fun _ hk => trivial)))⟩; have n1_ : Aside0 (Kd.R k52 52 w42 w.heap.size (fun _ => True) (.slice Ao41 t516.length co41) t516) := ⟨(by rw [hw]; exact (by (with_reducible repeat (first | apply Kd.R_alloc | apply Kd.R_drewN | apply Kd.R_drew)); exact Kd.R_mono (Kd.R_far (p := ⟨gb520, 4, none⟩) (Kd.R_far (p := ⟨gb520, 3, none⟩) (Kd.R_far (p := ⟨gb520, 2, none⟩) (Kd.R_far (p := ⟨gb520, 1, none⟩) (Kd.R_far (p := ⟨gb520, 0, none⟩) (Kd.R_types HO518.out BK520.out (by decide)) (fun _ hk => hk.2) (.int .i64 t512)) (fun _ hk => hk.2) (.int .i64 t513)) (fun _ hk => hk.2) (.int .i64 t514)) (fun _ hk => hk.2) (.string t515)) (fun _ hk => hk.2) (.slice Ao41 t516.length co41)) (fun _ hk => trivial)))⟩; have n2_ : Aside0 (w42.heap[gb506]? = some (.cells #[.int .i64 a0_0, .int .i64 a0_1, .int .i64 a0_2, .string a0_3, .slice A0_4 l0_4.length c0_4] 25 (0, 0))) := ⟨(by rw [hw]; exact (pl_blk (blk_far (p := ⟨gb520, 4, none⟩) (blk_far (p := ⟨gb520, 3, none⟩) (blk_far (p := ⟨gb520, 2, none⟩) (blk_far (p := ⟨gb520, 1, none⟩) (blk_far (p := ⟨gb520, 0, none⟩) BK506.out NB506_520.out (.int .i64 t512)) NB506_520.out (.int .i64 t513)) NB506_520.out (.int .i64 t514)) NB506_520.out (.string t515)) NB506_520.out (.slice Ao41 t516.length co41))))⟩; have n3_ : Aside0 (w42.heap[gb520]? = some (.cells #[.int .i64 t512, .int .i64 t513, .int .i64 t514, .string t515, .slice Ao41 t516.length co41] 25 (0, 0))) := ⟨(by rw [hw]; exact (pl_blk (blk_put (blk_put (blk_put (blk_put (blk_put BK520.out 0 (.int .i64 t512) rfl) 1 (.int .i64 t513) rfl) 2 (.int .i64 t514) rfl) 3 (.string t515) rfl) 4 (.slice Ao41 t516.length co41) rfl)))⟩; have n4_ : Aside0 (Below w.heap.size w w42) := ⟨(by rw [hw]; exact (by repeat (first | (with_reducible first | exact HB.out | apply below_alloc | apply pw_below_drewN | apply below_drew1 | refine below_set ?_ GE520.out) | exact HB.out)))⟩; clear hw; clear HO511; clear HO518; clear BK506; clear BK520; clear HB; have HO511 := n0_; have HO518 := n1_; have BK506 := n2_; have BK520 := n3_; have HB := n4_; clear n0_ n1_ n2_ n3_ n4_; have q43 : ((ji25) : Int) ≤ ((t509.length : Int) : Int) := of_decide_eq_true (by first | (with_reducible assumption) | assumption); obtain ⟨i043, hi043, _, hsz43, _⟩ := info_parts info5; have hroom43 : t509.length ≤ co21 := (Kd.R_reads' HO511.out).2.1; have hC43 : Kd.F (Kd.int .u8) _ _ Ao21 t509.length t509 := (Kd.V_at (base := w.heap.size) (Kd.R_V (Kd.R_types (Kd.R_types (Kd.R_apart' (HO511.out) (Kd.R_typed HO518.out) (by decide)) BK506.out (by decide)) BK520.out (by decide)))).2.2; have hcut43 := cut_to (P := Try.prog) 40 5 .i64 Try.underlying40 hi043 Ao21 t509.length co21 (ji25) (of_decide_eq_true (by first | (with_reducible assumption) | assumption)) q43 hroom43; have hr43 := Kd.F_take (m := ((ji25) : Int).toNat) hC43 (by omega); have hy43 : y521.length = ((ji25) : Int).toNat := (by rw [Ny521.out, List.length_take]; omega); rw [← Ny521.out] at hr43; rw [← hy43] at hcut43; have HO525 := Aside0.mk (show Kd.V (Kd.int .u8) 5 _ w.heap.size _ (.slice Ao21 y521.length co21) y521 from Kd.V_mk (by omega) hr43); have HC525 := Aside0.mk (show y521.length ≤ co21 from by omega); clear hr43 hC43 hroom43 hi043 hsz43; have KY43 := Aside0.mk hy43; clear hy43; replace q43 := eq_true q43) | ((with_reducible refine gate_callee (f := 25) rfl ?_); refine goesL_ (some 46) rfl rfl Try.func25 (by kernel_rfl) rfl #[.slice Ao21 y521.length co21] rfl (by (try simp only [List.map_toArray, List.map_cons, List.map_nil]); first | done | rfl | (simp only [List.length_drop, List.length_take]; rfl)) ?_; (with_reducible refine (event_Get.calls kj5 (fun k_ => (((True ∧ some k_ ≠ (.slice Ao41 t516.length co41 : Value).ownBlock) ∧ k_ ≠ gb506) ∧ k_ ≠ gb520)) _ _ y521 t526 t527 t528 t529 t530 false _ ?side1 A28.out).mono ?_); (case side1 => exact HO525.out); rintro e w44 ⟨v531, rfl, ho0, hb⟩; refine ⟨_, rfl, ?_⟩; replace HO511 := Aside0.mk (Kd.R_below (Kd.pl_R HO511.out) hb); replace HO525 := Aside0.mk (Kd.V_elder' (Kd.pl_V HO525.out) (Kd.R_base ho0) hb); have HO532 := Aside0.mk (Kd.R_lower (Kd.R_new' (Kd.R_mono (ok' := fun k_ => True) ho0 (fun _ hk_ => trivial)) (Kd.R_lt (Kd.pl_R HO518.out))) (below_size (pl_below HB.out))); replace HO518 := Aside0.mk (Kd.R_elder' (Kd.pl_R HO518.out) (Kd.R_base ho0) hb); replace BK506 := bb BK506 hb; replace BK520 := bb BK520 hb; replace HB := hB HB hb; (try clear hb); (try clear hb2); (try clear hk); (try clear hi); (try clear ho0)) | ((with_reducible refine gate_dst (N := 13) rfl ?_); (try (refine gate_guard (by rfl) ?_; dsimp only)); refine box_event ?hg (N := 13) ?hd (cs := #[.int .i64 0, .int .i64 0, .int .i64 0, .string (⟨#[]⟩ : ByteArray), .slice none 0 0]) (t := 25) ?hr ?_; (case hd => rfl); (case hg => rfl); (case hr => first | (go_simp; done) | (go_simp; rfl)); intro gb534 hg w45 hbox hb; replace HO511 := Aside0.mk (Kd.R_below (Kd.pl_R HO511.out) hb); replace HO518 := Aside0.mk (Kd.R_below (Kd.pl_R HO518.out) hb); replace HO525 := Aside0.mk (Kd.V_below (Kd.V_elderB (Kd.pl_V HO525.out) gb534 (Nat.le_of_eq hg.symm)) hb); replace HO532 := Aside0.mk (Kd.R_below (Kd.pl_R HO532.out) hb); have BK534 := Aside0.mk (hbox); have GW534 := hG HB hg; have GE534 := hG HB hg; replace HB := hB HB hb; have NB506_534 := hN BK506 hg; have NB534_506 := hM BK506 hg; replace BK506 := bb BK506 hb; have NB520_534 := hN BK520 hg; have NB534_520 := hM BK520 hg; replace BK520 := bb BK520 hb; clear hb hbox hg; have hnb46 := NB534_506.out; have hnc46 := NB506_534.out; have hnb47 := NB534_520.out; have hnc47 := NB520_534.out; obtain ⟨hcz48_0, hcz48_1, hcz48_2, hcz48_3, hcz48_4, hfz48_0, hfz48_1, hfz48_2, hfz48_3, hfz48_4⟩ := blk_c5 BK534.out; obtain ⟨Ao49, co49, eo49⟩ := Kd.R_slice HO532.out; subst eo49) | ((with_reducible refine gate_dst (N := 50) rfl ?_); (try (refine gate_guard (by rfl) ?_; dsimp only)); refine Kd.R_lit (Kd.int .u8) _ 5 ?hg (N := 50) ?hd (xs := ([] : List Int)) (inner := []) (ok := fun _ => True) (okp := fun _ => True) ?hr ?hp (fun _ hk => hk) trivial (Below.refl _ _) (Nat.le_refl _) (by simp) ?_; (case hd => rfl); (case hg => rfl); (case hr => first | (go_simp; done) | (go_simp; rfl)); (case hp => exact (Reps.none _ _)); intro v536 w50 ho51 hb hg_ hnew_; clear hg_ hnew_; (first | rw [← Ny535.out] at ho51 | (simp only [Int.reduceToNat] at ho51; rw [← Ny535.out] at ho51)); replace HO518 := Aside0.mk (Kd.R_below (by (with_reducible repeat (first | apply Kd.R_alloc | apply Kd.R_drewN | apply Kd.R_drew)); exact (Kd.R_mono (Kd.R_far (p := ⟨gb534, 4, none⟩) (Kd.R_far (p := ⟨gb534, 3, none⟩) (Kd.R_far (p := ⟨gb534, 2, none⟩) (Kd.R_far (p := ⟨gb534, 1, none⟩) (Kd.R_far (p := ⟨gb534, 0, none⟩) (Kd.R_types HO518.out BK534.out (by decide)) (fun _ hk => hk.2) (.int .i64 t526)) (fun _ hk => hk.2) (.int .i64 t527)) (fun _ hk => hk.2) (.int .i64 t528)) (fun _ hk => hk.2) (.string t529)) (fun _ hk => hk.2) (.slice Ao49 t530.length co49)) (fun _ h_ => h_.1))) hb); replace HO525 := Aside0.mk (Kd.V_elder' (by (with_reducible repeat (first | apply Kd.V_alloc | apply Kd.V_drewN | apply Kd.V_drew)); exact (Kd.V_mono (Kd.V_far (p := ⟨gb534, 4, none⟩) (Kd.V_far (p := ⟨gb534, 3, none⟩) (Kd.V_far (p := ⟨gb534, 2, none⟩) (Kd.V_far (p := ⟨gb534, 1, none⟩) (Kd.V_far (p := ⟨gb534, 0, none⟩) (Kd.V_mono HO525.out (fun k_ hk => (⟨hk, hk.2⟩ : _ ∧ k_ ≠ gb534))) (fun _ hk => hk.2) (.int .i64 t526)) (fun _ hk => hk.2) (.int .i64 t527)) (fun _ hk => hk.2) (.int .i64 t528)) (fun _ hk => hk.2) (.string t529)) (fun _ hk => hk.2) (.slice Ao49 t530.length co49)) (fun _ h_ => h_.1))) (Kd.R_base ho51) hb); replace HO532 := Aside0.mk (Kd.R_below (by (with_reducible repeat (first | apply Kd.R_alloc | apply Kd.R_drewN | apply Kd.R_drew)); exact (Kd.R_mono (Kd.R_far (p := ⟨gb534, 4, none⟩) (Kd.R_far (p := ⟨gb534, 3, none⟩) (Kd.R_far (p := ⟨gb534, 2, none⟩) (Kd.R_far (p := ⟨gb534, 1, none⟩) (Kd.R_far (p := ⟨gb534, 0, none⟩) (Kd.R_types HO532.out BK534.out (by decide)) (fun _ hk => hk.2) (.int .i64 t526)) (fun _ hk => hk.2) (.int .i64 t527)) (fun _ hk => hk.2) (.int .i64 t528)) (fun _ hk => hk.2) (.string t529)) (fun _ hk => hk.2) (.slice Ao49 t530.length co49)) (fun _ h_ => h_.1))) hb); have HO537 := Aside0.mk (Kd.R_lower (Kd.R_new' ho51 (Kd.R_lt (by (with_reducible repeat (first | apply Kd.R_alloc | apply Kd.R_drewN | apply Kd.R_drew)); exact (Kd.R_mono (Kd.R_far (p := ⟨gb534, 4, none⟩) (Kd.R_far (p := ⟨gb534, 3, none⟩) (Kd.R_far (p := ⟨gb534, 2, none⟩) (Kd.R_far (p := ⟨gb534, 1, none⟩) (Kd.R_far (p := ⟨gb534, 0, none⟩) (Kd.R_types HO511.out BK534.out (by decide)) (fun _ hk => hk.2) (.int .i64 t526)) (fun _ hk => hk.2) (.int .i64 t527)) (fun _ hk => hk.2) (.int .i64 t528)) (fun _ hk => hk.2) (.string t529)) (fun _ hk => hk.2) (.slice Ao49 t530.length co49)) (fun _ h_ => h_.1))))) (below_size (by repeat (first | (with_reducible first | exact HB.out | apply below_alloc | apply pw_below_drewN | apply below_drew1 | refine below_set ?_ GE534.out) | exact HB.out)))); replace HO511 := Aside0.mk (Kd.R_elder' (by (with_reducible repeat (first | apply Kd.R_alloc | apply Kd.R_drewN | apply Kd.R_drew)); exact (Kd.R_mono (Kd.R_far (p := ⟨gb534, 4, none⟩) (Kd.R_far (p := ⟨gb534, 3, none⟩) (Kd.R_far (p := ⟨gb534, 2, none⟩) (Kd.R_far (p := ⟨gb534, 1, none⟩) (Kd.R_far (p := ⟨gb534, 0, none⟩) (Kd.R_types HO511.out BK534.out (by decide)) (fun _ hk => hk.2) (.int .i64 t526)) (fun _ hk => hk.2) (.int .i64 t527)) (fun _ hk => hk.2) (.int .i64 t528)) (fun _ hk => hk.2) (.string t529)) (fun _ hk => hk.2) (.slice Ao49 t530.length co49)) (fun _ h_ => h_.1))) (Kd.R_base ho51) hb); replace BK506 := Aside0.mk (blk_below (pl_blk (blk_far (p := ⟨gb534, 4, none⟩) (blk_far (p := ⟨gb534, 3, none⟩) (blk_far (p := ⟨gb534, 2, none⟩) (blk_far (p := ⟨gb534, 1, none⟩) (blk_far (p := ⟨gb534, 0, none⟩) BK506.out NB506_534.out (.int .i64 t526)) NB506_534.out (.int .i64 t527)) NB506_534.out (.int .i64 t528)) NB506_534.out (.string t529)) NB506_534.out (.slice Ao49 t530.length co49))) hb); replace BK520 := Aside0.mk (blk_below (pl_blk (blk_far (p := ⟨gb534, 4, none⟩) (blk_far (p := ⟨gb534, 3, none⟩) (blk_far (p := ⟨gb534, 2, none⟩) (blk_far (p := ⟨gb534, 1, none⟩) (blk_far (p := ⟨gb534, 0, none⟩) BK520.out NB520_534.out (.int .i64 t526)) NB520_534.out (.int .i64 t527)) NB520_534.out (.int .i64 t528)) NB520_534.out (.string t529)) NB520_534.out (.slice Ao49 t530.length co49))) hb); replace BK534 := Aside0.mk (blk_below (pl_blk (blk_put (blk_put (blk_put (blk_put (blk_put BK534.out 0 (.int .i64 t526) rfl) 1 (.int .i64 t527) rfl) 2 (.int .i64 t528) rfl) 3 (.string t529) rfl) 4 (.slice Ao49 t530.length co49) rfl)) hb); replace HB := Aside0.mk (below_step (by repeat (first | (with_reducible first | exact HB.out | apply below_alloc | apply pw_below_drewN | apply below_drew1 | refine below_set ?_ GE534.out) | exact HB.out)) hb); clear hb ho51) | ((with_reducible refine gate_builtin (b := .append) (xs := #[.tmp 50, .tmp 51]) rfl ?_); (try (refine gate_guard (by rfl) ?_; dsimp only)); at_builtin; refine Kd.R_append_rows (Kd.int .u8) (w0 := w) w.heap.size rfl (.tmp 50) (.tmp 51) 40 5 (.int .u8 0) 1 rfl Try.underlying40 info5 rfl (by decide) (by omega) v536 y535 t509 _ _ _ (fun k_ => some k_ ≠ (.slice Ao21 t509.length co21 : Value).ownBlock) (fun _ => False) rfl rfl ?aO ?aR (fun _ _ h => h) (fun _ h => h.elim) ?aF ?aB ?aS ?aL ?_; (case aR => repeat (first | exact (Kd.R_reads' HO511.out).2.2 | (with_reducible refine Kd.C_alloc ?_ _) | (with_reducible refine Kd.C_drewN ?_ _) | (with_reducible refine Kd.C_drew ?_))); (case aB => exact (pl_below HB.out)); (case aF => exact (fun k_ hk => Kd.fresh' (Kd.R_lt (Kd.pl_R HO511.out)) k_ hk)); (case aO => exact (by (with_reducible repeat (first | apply Kd.R_alloc | apply Kd.R_drewN | apply Kd.R_drew)); exact Kd.R_mono HO537.out (fun _ hk => hk.2))); (case aS => exact (below_size (pl_below HB.out))); (case aL => have := LMc29.out; omega); intro v539 w52 ho hb hg hat; rw [← Ny538.out] at ho; replace BK506 := Aside0.mk (blk_grown (pl_blk BK506.out) hg (Kd.R_ne HO537.out BK506.out (by decide))); replace HO511 := Aside0.mk (Kd.R_after (ok := (fun _ => True)) (Kd.pl_R HO511.out) hg hat); replace HO518 := Aside0.mk (Kd.R_over' (Kd.pl_R HO518.out) (Kd.R_typed (Kd.pl_R HO537.out)) (by decide) hg); replace BK520 := Aside0.mk (blk_grown (pl_blk BK520.out) hg (Kd.R_ne HO537.out BK520.out (by decide))); replace HO525 := Aside0.mk (Kd.V_afterv (ok := (fun k_ => some k_ ≠ (.slice Ao41 t516.length co41 : Value).ownBlock ∧ some k_ ≠ (.slice Ao49 t530.length co49 : Value).ownBlock ∧ k_ ≠ gb506 ∧ k_ ≠ gb520 ∧ k_ ≠ gb534)) (by (with_reducible repeat (first | apply Kd.V_alloc | apply Kd.V_drewN | apply Kd.V_drew)); exact Kd.V_mono HO525.out (fun _ hk => ⟨⟨hk.1.1.1.1.1.2, ⟨hk.1.1.2, ⟨hk.1.1.1.1.2, ⟨hk.1.1.1.2, hk.1.2⟩⟩⟩⟩, hk.2⟩)) hg hat); replace HO532 := Aside0.mk (Kd.R_over' (Kd.pl_R HO532.out) (Kd.R_typed (Kd.pl_R HO537.out)) (by decide) hg); replace BK534 := Aside0.mk (blk_grown (pl_blk BK534.out) hg (Kd.R_ne HO537.out BK534.out (by decide))); replace HB := Aside0.mk (hb); have HO540 := Aside0.mk (ho); clear HO537; clear ho hb hg hat) | ((with_reducible refine gate_builtin (b := .append) (xs := #[.tmp 52, .tmp 54]) rfl ?_); (try (refine gate_guard (by rfl) ?_; dsimp only)); at_builtin; refine Kd.R_append (Kd.int .u8) (w0 := w) w.heap.size rfl (.tmp 52) (.tmp 54) 40 5 (.int .u8 0) 1 rfl Try.underlying40 info5 rfl (by decide) (by omega) v539 y538 a3 [.int .u8 a3] (fun k_ => some k_ ≠ (.slice Ao21 t509.length co21 : Value).ownBlock) (fun _ => False) rfl rfl ?aP (fun _ hk => hk.elim) ?aF ?aO ?aB ?aS ?aL ?_; (case aP => exact rfl); (case aB => exact (pl_below HB.out)); (case aF => exact (fun k_ hk => Kd.fresh' (Kd.R_lt (Kd.pl_R HO511.out)) k_ hk)); (case aO => exact (Kd.pl_R HO540.out)); (case aS => exact (below_size (pl_below HB.out))); (case aL => have := LMc30.out; omega); intro v542 w53 ho hb hg hat; rw [← Ny541.out] at ho; replace BK506 := Aside0.mk (blk_grown (pl_blk BK506.out) hg (Kd.R_ne HO540.out BK506.out (by decide))); replace HO511 := Aside0.mk (Kd.R_after (ok := (fun _ => True)) (Kd.pl_R HO511.out) hg hat); replace HO518 := Aside0.mk (Kd.R_over' (Kd.pl_R HO518.out) (Kd.R_typed (Kd.pl_R HO540.out)) (by decide) hg); replace BK520 := Aside0.mk (blk_grown (pl_blk BK520.out) hg (Kd.R_ne HO540.out BK520.out (by decide))); replace HO525 := Aside0.mk (Kd.V_afterv (ok := (fun k_ => some k_ ≠ (.slice Ao41 t516.length co41 : Value).ownBlock ∧ some k_ ≠ (.slice Ao49 t530.length co49 : Value).ownBlock ∧ k_ ≠ gb506 ∧ k_ ≠ gb520 ∧ k_ ≠ gb534)) (Kd.pl_V HO525.out) hg hat); replace HO532 := Aside0.mk (Kd.R_over' (Kd.pl_R HO532.out) (Kd.R_typed (Kd.pl_R HO540.out)) (by decide) hg); replace BK534 := Aside0.mk (blk_grown (pl_blk BK534.out) hg (Kd.R_ne HO540.out BK534.out (by decide))); replace HB := Aside0.mk (hb); have HO543 := Aside0.mk (ho); clear HO540; clear ho hb hg hat; obtain ⟨Ao54, co54, eo54⟩ := Kd.R_slice HO543.out; subst eo54) | ((with_reducible refine gate_callee (f := 25) rfl ?_); refine goesL_ (some 56) rfl rfl Try.func25 (by kernel_rfl) rfl #[.slice Ao54 y541.length co54] rfl (by (try simp only [List.map_toArray, List.map_cons, List.map_nil]); first | done | rfl | (simp only [List.length_drop, List.length_take]; rfl)) ?_; (with_reducible refine (event_Get.calls kj5 (fun k_ => some k_ = (.slice Ao54 y541.length co54 : Value).ownBlock) _ _ y541 t544 t545 t546 t547 t548 false _ ?side1 A31.out).mono ?_); (case side1 => exact Kd.R_V (Kd.R_tight rfl (Kd.R_types (Kd.R_types (Kd.R_types (Kd.R_apart' (Kd.R_apart' (HO543.out) (Kd.R_typed HO518.out) (by decide)) (Kd.R_typed HO532.out) (by decide)) BK506.out (by decide)) BK520.out (by decide)) BK534.out (by decide)))); rintro e w55 ⟨v549, rfl, ho0, hb⟩; refine ⟨_, rfl, ?_⟩; replace HO511 := Aside0.mk (Kd.R_below (Kd.pl_R HO511.out) hb); replace HO525 := Aside0.mk (Kd.V_elder' (Kd.pl_V HO525.out) (Kd.R_base ho0) hb); replace HO543 := Aside0.mk (Kd.R_below (Kd.pl_R HO543.out) hb); have HO550 := Aside0.mk (Kd.R_lower (Kd.R_new' (Kd.R_new' (Kd.R_mono (ok' := fun k_ => True) ho0 (fun _ hk_ => trivial)) (Kd.R_lt (Kd.pl_R HO518.out))) (Kd.R_lt (Kd.pl_R HO532.out))) (below_size (pl_below HB.out))); replace HO518 := Aside0.mk (Kd.R_elder' (Kd.pl_R HO518.out) (Kd.R_base ho0) hb); replace HO532 := Aside0.mk (Kd.R_elder' (Kd.pl_R HO532.out) (Kd.R_base ho0) hb); replace BK506 := bb BK506 hb; replace BK520 := bb BK520 hb; replace BK534 := bb BK534 hb; replace HB := hB HB hb; (try clear hb); (try clear hb2); (try clear hk); (try clear hi); (try clear ho0)) | ((with_reducible refine gate_dst (N := 15) rfl ?_); (try (refine gate_guard (by rfl) ?_; dsimp only)); refine box_event ?hg (N := 15) ?hd (cs := #[.int .i64 0, .int .i64 0, .int .i64 0, .string (⟨#[]⟩ : ByteArray), .slice none 0 0]) (t := 25) ?hr ?_; (case hd => rfl); (case hg => rfl); (case hr => first | (go_simp; done) | (go_simp; rfl)); intro gb552 hg w56 hbox hb; replace HO511 := Aside0.mk (Kd.R_below (Kd.pl_R HO511.out) hb); replace HO518 := Aside0.mk (Kd.R_below (Kd.pl_R HO518.out) hb); replace HO525 := Aside0.mk (Kd.V_below (Kd.V_elderB (Kd.pl_V HO525.out) gb552 (Nat.le_of_eq hg.symm)) hb); replace HO532 := Aside0.mk (Kd.R_below (Kd.pl_R HO532.out) hb); replace HO543 := Aside0.mk (Kd.R_below (Kd.pl_R HO543.out) hb); replace HO550 := Aside0.mk (Kd.R_below (Kd.pl_R HO550.out) hb); have BK552 := Aside0.mk (hbox); have GW552 := hG HB hg; have GE552 := hG HB hg; replace HB := hB HB hb; have NB506_552 := hN BK506 hg; have NB552_506 := hM BK506 hg; replace BK506 := bb BK506 hb; have NB520_552 := hN BK520 hg; have NB552_520 := hM BK520 hg; replace BK520 := bb BK520 hb; have NB534_552 := hN BK534 hg; have NB552_534 := hM BK534 hg; replace BK534 := bb BK534 hb; clear hb hbox hg; have hnb57 := NB552_506.out; have hnc57 := NB506_552.out; have hnb58 := NB552_520.out; have hnc58 := NB520_552.out; have hnb59 := NB552_534.out; have hnc59 := NB534_552.out; obtain ⟨hcz60_0, hcz60_1, hcz60_2, hcz60_3, hcz60_4, hfz60_0, hfz60_1, hfz60_2, hfz60_3, hfz60_4⟩ := blk_c5 BK552.out; obtain ⟨Ao61, co61, eo61⟩ := Kd.R_slice HO550.out; subst eo61; obtain ⟨hcz62_0, hcz62_1, hcz62_2, hcz62_3, hcz62_4, hfz62_0, hfz62_1, hfz62_2, hfz62_3, hfz62_4⟩ := blk_c5 BK506.out; obtain ⟨hcz63_0, hcz63_1, hcz63_2, hcz63_3, hcz63_4, hfz63_0, hfz63_1, hfz63_2, hfz63_3, hfz63_4⟩ := blk_c5 BK520.out) | (go_at_call 27; (with_reducible refine (auguryref05_SameOne.calls kj5 a0_0 a0_1 a0_2 a0_3 _ _ l0_4 t512 t513 t514 t515 _ _ t516 true _ ?side1 ?side2 ?side3 ?side4 A33.out).mono ?_); (case side1 => exact Kd.C_below HR0_4.out (by repeat (first | (with_reducible first | exact HB.out | apply below_alloc | apply pw_below_drewN | apply below_drew1 | refine below_set ?_ GE552.out) | exact HB.out))); (case side2 => exact HC0_4.out); (case side3 => refine (Kd.R_reads' (e := 52) (base := w.heap.size) (ok := fun k_ => ((True ∧ some k_ ≠ (.slice Ao49 t530.length co49 : Value).ownBlock) ∧ some k_ ≠ (.slice Ao61 t548.length co61 : Value).ownBlock)) (n := t516.length) (c := co41) ?_).2.2; exact (by (with_reducible repeat (first | apply Kd.R_alloc | apply Kd.R_drewN | apply Kd.R_drew)); exact (Kd.R_mono (Kd.R_far (p := ⟨gb552, 4, none⟩) (Kd.R_far (p := ⟨gb552, 3, none⟩) (Kd.R_far (p := ⟨gb552, 2, none⟩) (Kd.R_far (p := ⟨gb552, 1, none⟩) (Kd.R_far (p := ⟨gb552, 0, none⟩) (Kd.R_types HO518.out BK552.out (by decide)) (fun _ hk => hk.2) (.int .i64 t544)) (fun _ hk => hk.2) (.int .i64 t545)) (fun _ hk => hk.2) (.int .i64 t546)) (fun _ hk => hk.2) (.string t547)) (fun _ hk => hk.2) (.slice Ao61 t548.length co61)) (fun _ h_ => h_.1)))); (case side4 => exact (Kd.R_reads' HO518.out).2.1); rintro e w64 ⟨rfl, hb⟩; replace HO511 := Aside0.mk (Kd.R_below (by (with_reducible repeat (first | apply Kd.R_alloc | apply Kd.R_drewN | apply Kd.R_drew)); exact (Kd.R_mono (Kd.R_far (p := ⟨gb552, 4, none⟩) (Kd.R_far (p := ⟨gb552, 3, none⟩) (Kd.R_far (p := ⟨gb552, 2, none⟩) (Kd.R_far (p := ⟨gb552, 1, none⟩) (Kd.R_far (p := ⟨gb552, 0, none⟩) (Kd.R_types HO511.out BK552.out (by decide)) (fun _ hk => hk.2) (.int .i64 t544)) (fun _ hk => hk.2) (.int .i64 t545)) (fun _ hk => hk.2) (.int .i64 t546)) (fun _ hk => hk.2) (.string t547)) (fun _ hk => hk.2) (.slice Ao61 t548.length co61)) (fun _ h_ => h_.1))) hb); replace HO518 := Aside0.mk (Kd.R_below (by (with_reducible repeat (first | apply Kd.R_alloc | apply Kd.R_drewN | apply Kd.R_drew)); exact (Kd.R_mono (Kd.R_far (p := ⟨gb552, 4, none⟩) (Kd.R_far (p := ⟨gb552, 3, none⟩) (Kd.R_far (p := ⟨gb552, 2, none⟩) (Kd.R_far (p := ⟨gb552, 1, none⟩) (Kd.R_far (p := ⟨gb552, 0, none⟩) (Kd.R_types HO518.out BK552.out (by decide)) (fun _ hk => hk.2) (.int .i64 t544)) (fun _ hk => hk.2) (.int .i64 t545)) (fun _ hk => hk.2) (.int .i64 t546)) (fun _ hk => hk.2) (.string t547)) (fun _ hk => hk.2) (.slice Ao61 t548.length co61)) (fun _ h_ => h_.1))) hb); replace HO525 := Aside0.mk (Kd.V_below (by (with_reducible repeat (first | apply Kd.V_alloc | apply Kd.V_drewN | apply Kd.V_drew)); exact (Kd.V_mono (Kd.V_far (p := ⟨gb552, 4, none⟩) (Kd.V_far (p := ⟨gb552, 3, none⟩) (Kd.V_far (p := ⟨gb552, 2, none⟩) (Kd.V_far (p := ⟨gb552, 1, none⟩) (Kd.V_far (p := ⟨gb552, 0, none⟩) (Kd.V_mono HO525.out (fun k_ hk => (⟨hk, hk.2⟩ : _ ∧ k_ ≠ gb552))) (fun _ hk => hk.2) (.int .i64 t544)) (fun _ hk => hk.2) (.int .i64 t545)) (fun _ hk => hk.2) (.int .i64 t546)) (fun _ hk => hk.2) (.string t547)) (fun _ hk => hk.2) (.slice Ao61 t548.length co61)) (fun _ h_ => h_.1))) hb); replace HO532 := Aside0.mk (Kd.R_below (by (with_reducible repeat (first | apply Kd.R_alloc | apply Kd.R_drewN | apply Kd.R_drew)); exact (Kd.R_mono (Kd.R_far (p := ⟨gb552, 4, none⟩) (Kd.R_far (p := ⟨gb552, 3, none⟩) (Kd.R_far (p := ⟨gb552, 2, none⟩) (Kd.R_far (p := ⟨gb552, 1, none⟩) (Kd.R_far (p := ⟨gb552, 0, none⟩) (Kd.R_types HO532.out BK552.out (by decide)) (fun _ hk => hk.2) (.int .i64 t544)) (fun _ hk => hk.2) (.int .i64 t545)) (fun _ hk => hk.2) (.int .i64 t546)) (fun _ hk => hk.2) (.string t547)) (fun _ hk => hk.2) (.slice Ao61 t548.length co61)) (fun _ h_ => h_.1))) hb); replace HO543 := Aside0.mk (Kd.R_below (by (with_reducible repeat (first | apply Kd.R_alloc | apply Kd.R_drewN | apply Kd.R_drew)); exact (Kd.R_mono (Kd.R_far (p := ⟨gb552, 4, none⟩) (Kd.R_far (p := ⟨gb552, 3, none⟩) (Kd.R_far (p := ⟨gb552, 2, none⟩) (Kd.R_far (p := ⟨gb552, 1, none⟩) (Kd.R_far (p := ⟨gb552, 0, none⟩) (Kd.R_types HO543.out BK552.out (by decide)) (fun _ hk => hk.2) (.int .i64 t544)) (fun _ hk => hk.2) (.int .i64 t545)) (fun _ hk => hk.2) (.int .i64 t546)) (fun _ hk => hk.2) (.string t547)) (fun _ hk => hk.2) (.slice Ao61 t548.length co61)) (fun _ h_ => h_.1))) hb); replace HO550 := Aside0.mk (Kd.R_below (by (with_reducible repeat (first | apply Kd.R_alloc | apply Kd.R_drewN | apply Kd.R_drew)); exact (Kd.R_mono (Kd.R_far (p := ⟨gb552, 4, none⟩) (Kd.R_far (p := ⟨gb552, 3, none⟩) (Kd.R_far (p := ⟨gb552, 2, none⟩) (Kd.R_far (p := ⟨gb552, 1, none⟩) (Kd.R_far (p := ⟨gb552, 0, none⟩) (Kd.R_types HO550.out BK552.out (by decide)) (fun _ hk => hk.2) (.int .i64 t544)) (fun _ hk => hk.2) (.int .i64 t545)) (fun _ hk => hk.2) (.int .i64 t546)) (fun _ hk => hk.2) (.string t547)) (fun _ hk => hk.2) (.slice Ao61 t548.length co61)) (fun _ h_ => h_.1))) hb); replace BK506 := Aside0.mk (blk_below (pl_blk (blk_far (p := ⟨gb552, 4, none⟩) (blk_far (p := ⟨gb552, 3, none⟩) (blk_far (p := ⟨gb552, 2, none⟩) (blk_far (p := ⟨gb552, 1, none⟩) (blk_far (p := ⟨gb552, 0, none⟩) BK506.out NB506_552.out (.int .i64 t544)) NB506_552.out (.int .i64 t545)) NB506_552.out (.int .i64 t546)) NB506_552.out (.string t547)) NB506_552.out (.slice Ao61 t548.length co61))) hb); replace BK520 := Aside0.mk (blk_below (pl_blk (blk_far (p := ⟨gb552, 4, none⟩) (blk_far (p := ⟨gb552, 3, none⟩) (blk_far (p := ⟨gb552, 2, none⟩) (blk_far (p := ⟨gb552, 1, none⟩) (blk_far (p := ⟨gb552, 0, none⟩) BK520.out NB520_552.out (.int .i64 t544)) NB520_552.out (.int .i64 t545)) NB520_552.out (.int .i64 t546)) NB520_552.out (.string t547)) NB520_552.out (.slice Ao61 t548.length co61))) hb); replace BK534 := Aside0.mk (blk_below (pl_blk (blk_far (p := ⟨gb552, 4, none⟩) (blk_far (p := ⟨gb552, 3, none⟩) (blk_far (p := ⟨gb552, 2, none⟩) (blk_far (p := ⟨gb552, 1, none⟩) (blk_far (p := ⟨gb552, 0, none⟩) BK534.out NB534_552.out (.int .i64 t544)) NB534_552.out (.int .i64 t545)) NB534_552.out (.int .i64 t546)) NB534_552.out (.string t547)) NB534_552.out (.slice Ao61 t548.length co61))) hb); replace BK552 := Aside0.mk (blk_below (pl_blk (blk_put (blk_put (blk_put (blk_put (blk_put BK552.out 0 (.int .i64 t544) rfl) 1 (.int .i64 t545) rfl) 2 (.int .i64 t546) rfl) 3 (.string t547) rfl) 4 (.slice Ao61 t548.length co61) rfl)) hb); replace HB := Aside0.mk (below_step (by repeat (first | (with_reducible first | exact HB.out | apply below_alloc | apply pw_below_drewN | apply below_drew1 | refine below_set ?_ GE552.out) | exact HB.out)) hb); (try clear hb); (try clear hb2); (try clear hk); (try clear hi)))
       go_meet
       case rel => exact ⟨_, H', ⟨by have := HJ5.out; first | omega | exact Nat.le_refl _⟩, ⟨pl_blk BK506.out⟩, ⟨pl_below HB.out⟩⟩
      ·rw [if_neg c22] at H
       have c22b0 : decide (0 < (t509.length : Int)) = false := decide_eq_false c22
       have c22b1 : decide (0 < t509.length) = false := decide_eq_false (by omega)
       clear c22
       (first | rw [c22b0] | (simp only [i64_w, i32_w]; rw [c22b0]) | rw [c22b1] | skip)
       have H' := Aside0.mk H
       clear H
       go_wp2
       go_meet
       case rel => exact ⟨_, H', ⟨by have := HJ5.out; first | omega | exact Nat.le_refl _⟩, ⟨pl_blk BK506.out⟩, ⟨pl_below HB.out⟩⟩
     case rest =>
      clear HC18
      (try clear c1); (try clear c2); (try clear p2); (try clear c3); (try clear c4); (try clear q4); (try clear c5); (try clear p6); (try clear c9); (try clear c10); (try clear c11); (try clear c15); (try clear c16); (try clear c21); (try clear c22); (try clear c22b0); (try clear c22b1); (try clear c24); (try clear c24b0); (try clear c24b1); (try clear c24b2); (try clear c25); (try clear c26); (try clear c26b0); (try clear c26b1); (try clear c27); (try clear c27b0); (try clear c27b1); (try clear c29); (try clear c30); (try clear c32); (try clear c34); (try clear c35); (try clear c36); (try clear c39); (try clear q43); (try clear c46); (try clear c47); (try clear c57); (try clear c58); (try clear c59); (try clear p64); (try clear hcz11_0 hcz11_1 hcz11_2 hcz11_3 hcz11_4 hfz11_0 hfz11_1 hfz11_2 hfz11_3 hfz11_4); (try clear hcz13_0 hcz13_1 hcz13_2 hcz13_3 hcz13_4 hfz13_0 hfz13_1 hfz13_2 hfz13_3 hfz13_4); (try clear hcz19_0 hcz19_1 hcz19_2 hcz19_3 hcz19_4 hfz19_0 hfz19_1 hfz19_2 hfz19_3 hfz19_4); (try clear hcz40_0 hcz40_1 hcz40_2 hcz40_3 hcz40_4 hfz40_0 hfz40_1 hfz40_2 hfz40_3 hfz40_4); (try clear hcz48_0 hcz48_1 hcz48_2 hcz48_3 hcz48_4 hfz48_0 hfz48_1 hfz48_2 hfz48_3 hfz48_4); (try clear hcz60_0 hcz60_1 hcz60_2 hcz60_3 hcz60_4 hfz60_0 hfz60_1 hfz60_2 hfz60_3 hfz60_4); (try clear hcz62_0 hcz62_1 hcz62_2 hcz62_3 hcz62_4 hfz62_0 hfz62_1 hfz62_2 hfz62_3 hfz62_4); (try clear hcz63_0 hcz63_1 hcz63_2 hcz63_3 hcz63_4 hfz63_0 hfz63_1 hfz63_2 hfz63_3 hfz63_4)
      obtain ⟨kq, HA, HJ17, BK506, HB⟩ := hcut
      cases kq with
      | zero => exact absurd HA.out (by simp [augurylaw05_EventBack.j1])
      | succ kj17 =>
       have H := HA.out
       clear HA
       simp only [augurylaw05_EventBack.j1] at H
       replace H := Option.bind_eq_some_iff.mp H
       obtain ⟨⟨t554, t555, t556, t557, t558, t561⟩, A65, H⟩ := H
       (try dsimp only at H)
       replace A65 := Aside0.mk A65
       by_cases c66 : t561 = true
       ·subst c66
        rw [if_pos rfl] at H
        by_cases c67 : t507 = true
        ·subst c67
         rw [if_pos rfl] at H
         replace H := Option.bind_eq_some_iff.mp H
         obtain ⟨t563, A68, H⟩ := H
         (try dsimp only at H)
         replace A68 := Aside0.mk A68
         by_cases c69 : (strOfNums t563).toList = (strOfNums l1).toList
         ·rw [if_pos c69] at H
          have c69b0 : ((strOfNums t563).toList == (strOfNums l1).toList) = true := beq_iff_eq.mpr c69
          have c69b1 : ((strOfNums t563).toList != (strOfNums l1).toList) = false := bne_eq_false_iff_eq.mpr c69
          clear c69
          by_cases c70 : (l1.length : Int) > 0; rotate_left
          ·rw [if_neg c70] at H; cases H
          rw [if_pos c70] at H
          have c70b0 : decide (0 < (l1.length : Int)) = true := decide_eq_true c70
          have c70b1 : decide (0 < l1.length) = true := decide_eq_true (by omega)
          clear c70
          obtain rfl := Option.some.inj H
          try go_wp2_with (first | ((with_reducible refine gate_callee (f := 25) rfl ?_); refine goesL_ (some 75) rfl rfl Try.func25 (by kernel_rfl) rfl #[.slice A1 l1.length c1] rfl (by (try simp only [List.map_toArray, List.map_cons, List.map_nil]); first | done | rfl | (simp only [List.length_drop, List.length_take]; rfl)) ?_; (with_reducible refine (event_Get.calls kj17 (fun k_ => k_ < w.heap.size) _ _ l1 t554 t555 t556 t557 t558 true _ ?side1 A65.out).mono ?_); (case side1 => exact Kd.V_mk HC1.out (Kd.F_below (Kd.C_F (Kd.heap_int .u8) HR1.out) (pl_below HB.out))); rintro e w71 ⟨v559, rfl, ho0, hb⟩; refine ⟨_, rfl, ?_⟩; have HO560 := Aside0.mk (Kd.R_lower (Kd.R_mono (ok' := fun k_ => True) ho0 (fun _ hk_ => trivial)) (below_size (pl_below HB.out))); replace BK506 := bb BK506 hb; replace HB := hB HB hb; (try clear hb); (try clear hb2); (try clear hk); (try clear hi); (try clear ho0)) | ((with_reducible refine gate_dst (N := 17) rfl ?_); (try (refine gate_guard (by rfl) ?_; dsimp only)); refine box_event ?hg (N := 17) ?hd (cs := #[.int .i64 0, .int .i64 0, .int .i64 0, .string (⟨#[]⟩ : ByteArray), .slice none 0 0]) (t := 25) ?hr ?_; (case hd => rfl); (case hg => rfl); (case hr => first | (go_simp; done) | (go_simp; rfl)); intro gb562 hg w72 hbox hb; replace HO560 := Aside0.mk (Kd.R_below (Kd.pl_R HO560.out) hb); have BK562 := Aside0.mk (hbox); have GW562 := hG HB hg; have GE562 := hG HB hg; replace HB := hB HB hb; have NB506_562 := hN BK506 hg; have NB562_506 := hM BK506 hg; replace BK506 := bb BK506 hb; clear hb hbox hg; have hnb73 := NB562_506.out; have hnc73 := NB506_562.out; obtain ⟨hcz74_0, hcz74_1, hcz74_2, hcz74_3, hcz74_4, hfz74_0, hfz74_1, hfz74_2, hfz74_3, hfz74_4⟩ := blk_c5 BK562.out; obtain ⟨Ao75, co75, eo75⟩ := Kd.R_slice HO560.out; subst eo75))
          generalize hw_ : (((((w72.setCell ⟨gb562, 0, none⟩ (.int .i64 t554)).setCell ⟨gb562, 1, none⟩ (.int .i64 t555)).setCell ⟨gb562, 2, none⟩ (.int .i64 t556)).setCell ⟨gb562, 3, none⟩ (.string t557)).setCell ⟨gb562, 4, none⟩ (.slice Ao75 t558.length co75)) = w76
          have n0_ : Aside0 (Kd.R k52 52 w76 w.heap.size (fun _ => True) (.slice Ao75 t558.length co75) t558) := ⟨by rw [← hw_]; exact (by (with_reducible repeat (first | apply Kd.R_alloc | apply Kd.R_drewN | apply Kd.R_drew)); exact Kd.R_mono (Kd.R_far (p := ⟨gb562, 4, none⟩) (Kd.R_far (p := ⟨gb562, 3, none⟩) (Kd.R_far (p := ⟨gb562, 2, none⟩) (Kd.R_far (p := ⟨gb562, 1, none⟩) (Kd.R_far (p := ⟨gb562, 0, none⟩) (Kd.R_types HO560.out BK562.out (by decide)) (fun _ hk => hk.2) (.int .i64 t554)) (fun _ hk => hk.2) (.int .i64 t555)) (fun _ hk => hk.2) (.int .i64 t556)) (fun _ hk => hk.2) (.string t557)) (fun _ hk => hk.2) (.slice Ao75 t558.length co75)) (fun _ hk => trivial))⟩
          have n1_ : Aside0 (w76.heap[gb506]? = some (.cells #[.int .i64 a0_0, .int .i64 a0_1, .int .i64 a0_2, .string a0_3, .slice A0_4 l0_4.length c0_4] 25 (0, 0))) := ⟨by rw [← hw_]; exact (pl_blk (blk_far (p := ⟨gb562, 4, none⟩) (blk_far (p := ⟨gb562, 3, none⟩) (blk_far (p := ⟨gb562, 2, none⟩) (blk_far (p := ⟨gb562, 1, none⟩) (blk_far (p := ⟨gb562, 0, none⟩) BK506.out NB506_562.out (.int .i64 t554)) NB506_562.out (.int .i64 t555)) NB506_562.out (.int .i64 t556)) NB506_562.out (.string t557)) NB506_562.out (.slice Ao75 t558.length co75)))⟩
          have n2_ : Aside0 (w76.heap[gb562]? = some (.cells #[.int .i64 t554, .int .i64 t555, .int .i64 t556, .string t557, .slice Ao75 t558.length co75] 25 (0, 0))) := ⟨by rw [← hw_]; exact (pl_blk (blk_put (blk_put (blk_put (blk_put (blk_put BK562.out 0 (.int .i64 t554) rfl) 1 (.int .i64 t555) rfl) 2 (.int .i64 t556) rfl) 3 (.string t557) rfl) 4 (.slice Ao75 t558.length co75) rfl))⟩
          have n3_ : Aside0 (Below w.heap.size w w76) := ⟨by rw [← hw_]; exact (by repeat (first | (with_reducible first | exact HB.out | apply below_alloc | apply pw_below_drewN | apply below_drew1 | refine below_set ?_ GE562.out) | exact HB.out))⟩
          (try clear HO560)
          (try clear BK506)
          (try clear BK562)
          (try clear HB)
          clear hw_
          have HO560 := n0_
          have BK506 := n1_
          have BK562 := n2_
          have HB := n3_
          clear n0_ n1_ n2_ n3_
          replace HO560 := Aside0.mk (Kd.R_drew HO560.out)
          replace BK506 := Aside0.mk (blk_drew BK506.out)
          replace BK562 := Aside0.mk (blk_drew BK562.out)
          replace HB := Aside0.mk (below_drew1 HB.out)
          refine start_ (n := 15) (S := fun w' => w'.cell? ⟨gb562, 0, none⟩ = some (.int .i64 t554) ∧ w'.cell? ⟨gb562, 1, none⟩ = some (.int .i64 t555) ∧ w'.cell? ⟨gb562, 2, none⟩ = some (.int .i64 t556) ∧ w'.cell? ⟨gb562, 3, none⟩ = some (.string t557) ∧ w'.cell? ⟨gb562, 4, none⟩ = some (.slice Ao75 t558.length co75) ∧ ∀ n_ : Nat, n_ = l1.length → (convert 40 9 (.slice A1 n_ c1)).run Try.prog w' = .ok (.string (strOfNums l1)) w') (ds := []) #[false, false, false, false, false, false, false, false, false, false, false, false, false, false, false] (by kernel_rfl) rfl rfl ⟨(blk_cell BK562.out 0).trans rfl, (blk_cell BK562.out 1).trans rfl, (blk_cell BK562.out 2).trans rfl, (blk_cell BK562.out 3).trans rfl, (blk_cell BK562.out 4).trans rfl, (fun n_ hn_ => by subst hn_; exact Kd.C_string (P := Try.prog) Try.underlying40 Try.underlying5 Try.underlying9 (Kd.C_below HR1.out HB.out))⟩ (fun hHeld => ?_); refine with_tabW augurylaw05_EventBack.tab14 augurylaw05_EventBack.bits14 (fun HT_ HW_ => ?_)
          generalize w76.drew = w77 at HO560 BK506 BK562 HB HO560 hHeld ⊢
          refine pure_ (i := 0) (N := some 86) (v := ?_) (a' := ?_) #[true, false, false, false, false, false, false, false, false, false, false, false, false, false, false] rfl rfl (any_of HT_.out (by kernel_rfl)) (fun _ _ _ h => h) (Or.inl ⟨by rfl, ?_⟩) ?_ ?_
          rotate_left
          ·intro w'
           go_simp
           with_reducible rfl
          rotate_left
          ·simp only [Act.put, List.setIfInBounds_toArray, List.set_cons_zero, List.set_cons_succ, i64_w, i32_w]
           rfl
          refine pure_ (i := 1) (N := some 87) (v := ?_) (a' := ?_) #[true, true, false, false, false, false, false, false, false, false, false, false, false, false, false] rfl rfl (any_of HT_.out (by kernel_rfl)) (fun _ _ _ h => h) (Or.inl ⟨by rfl, ?_⟩) ?_ ?_
          rotate_left
          ·intro w'
           go_simp
           with_reducible rfl
          rotate_left
          ·simp only [Act.put, List.setIfInBounds_toArray, List.set_cons_zero, List.set_cons_succ, i64_w, i32_w]
           rfl
          refine pure_ (i := 5) (N := some 91) (v := ?_) (a' := ?_) #[true, true, false, false, false, true, false, false, false, false, false, false, false, false, false] rfl rfl (any_of HT_.out (by kernel_rfl)) (fun _ _ _ h => h) (Or.inl ⟨by rfl, ?_⟩) ?_ ?_
          rotate_left
          ·intro w'
           go_simp
           with_reducible rfl
          rotate_left
          ·simp only [Act.put, List.setIfInBounds_toArray, List.set_cons_zero, List.set_cons_succ, i64_w, i32_w]
           rfl
          refine take_ (i := 2) (N := some 88) (v := ?_) (a' := ?_) #[true, true, true, false, false, true, false, false, false, false, false, false, false, false, false] rfl rfl (take_ofW HT_.out HW_.out (by kernel_rfl)) (fun _ _ _ h => h) (Or.inl ⟨by rfl, ?_⟩) hHeld ?_ ?_
          rotate_left
          ·rintro w' ⟨s0, s1, s2, s3, s4, s5⟩
           go_simp
           with_reducible rfl
          rotate_left
          ·simp only [Act.put, List.setIfInBounds_toArray, List.set_cons_zero, List.set_cons_succ, i64_w, i32_w]
           rfl
          refine take_ (i := 6) (N := some 92) (v := ?_) (a' := ?_) #[true, true, true, false, false, true, true, false, false, false, false, false, false, false, false] rfl rfl (take_ofW HT_.out HW_.out (by kernel_rfl)) (fun _ _ _ h => h) (Or.inl ⟨by rfl, ?_⟩) hHeld ?_ ?_
          rotate_left
          ·rintro w' ⟨s0, s1, s2, s3, s4, s5⟩
           go_simp
           with_reducible rfl
          rotate_left
          ·simp only [Act.put, List.setIfInBounds_toArray, List.set_cons_zero, List.set_cons_succ, i64_w, i32_w]
           rfl
          refine one_ (i := 3) (N := some 89) #[true, true, true, true, false, true, true, false, false, false, false, false, false, false, false] rfl rfl (one_of HT_.out (by kernel_rfl)) (by decide) (fun K hK => ?_)
          refine goes_ Try.func21 (by kernel_rfl) rfl #[.agg #[.int .i64 t554, .int .i64 t555, .int .i64 t556, .string t557, .slice Ao75 t558.length co75]] (by rfl) rfl rfl (by (try simp only [List.map_toArray, List.map_cons, List.map_nil]); first | done | rfl | (simp only [List.length_drop, List.length_take]; rfl)) ?_
          with_reducible refine (event_Put.calls kj17 t554 t555 t556 t557 _ _ t558 t563 _ ?side1 ?side2 A68.out).mono ?_
          (case side1 => repeat (first | exact (Kd.R_reads' HO560.out).2.2 | (with_reducible refine Kd.C_alloc ?_ _) | (with_reducible refine Kd.C_drewN ?_ _) | (with_reducible refine Kd.C_drew ?_)))
          (case side2 => exact (Kd.R_reads' HO560.out).2.1)
          rintro e w78 ⟨v564, rfl, ho0, hb⟩
          refine ⟨_, rfl, ?_⟩
          replace HO560 := Aside0.mk (Kd.R_below (Kd.pl_R HO560.out) hb)
          have HO565 := Aside0.mk (Kd.R_lower ho0 (below_size (pl_below HB.out)))
          replace BK506 := bb BK506 hb
          replace BK562 := bb BK562 hb
          replace HB := hB HB hb
          (try clear hb)
          (try clear hb2)
          (try clear hk)
          (try clear hi)
          (try clear ho0)
          refine hK.out _ _ ⟨(blk_cell BK562.out 0).trans rfl, (blk_cell BK562.out 1).trans rfl, (blk_cell BK562.out 2).trans rfl, (blk_cell BK562.out 3).trans rfl, (blk_cell BK562.out 4).trans rfl, (fun n_ hn_ => by subst hn_; exact Kd.C_string (P := Try.prog) Try.underlying40 Try.underlying5 Try.underlying9 (Kd.C_below HR1.out HB.out))⟩ (fun hHeld => ?_)
          clear hK K
          refine norm_ (a' := ?_) ?_ ?_
          rotate_left
          ·show Act.put _ (some 89) _ = _
           simp only [Act.put, List.setIfInBounds_toArray, List.set_cons_zero, List.set_cons_succ, i64_w, i32_w]
           rfl
          refine one_ (i := 4) (N := some 90) #[true, true, true, true, true, true, true, false, false, false, false, false, false, false, false] rfl rfl (one_of HT_.out (by kernel_rfl)) (by decide) (fun K hK => ?_)
          have hcv79 := own_string (P := Try.prog) Try.underlying40 Try.underlying5 Try.underlying9 (Kd.own_of_R HO565.out)
          refine value_ (w1 := ?_) (v := ?_) (by rfl) rfl ?_ ?_
          rotate_left 2
          ·go_simp
           constructor
           ·rfl
           ·rfl
          clear hcv79
          refine hK.out _ _ ⟨(blk_cell BK562.out 0).trans rfl, (blk_cell BK562.out 1).trans rfl, (blk_cell BK562.out 2).trans rfl, (blk_cell BK562.out 3).trans rfl, (blk_cell BK562.out 4).trans rfl, (fun n_ hn_ => by subst hn_; exact Kd.C_string (P := Try.prog) Try.underlying40 Try.underlying5 Try.underlying9 (Kd.C_below HR1.out HB.out))⟩ (fun hHeld => ?_)
          clear hK K
          refine norm_ (a' := ?_) ?_ ?_
          rotate_left
          ·show Act.put _ (some 90) _ = _
           simp only [Act.put, List.setIfInBounds_toArray, List.set_cons_zero, List.set_cons_succ, i64_w, i32_w]
           rfl
          refine pure_ (i := 7) (N := some 93) (v := ?_) (a' := ?_) #[true, true, true, true, true, true, true, true, false, false, false, false, false, false, false] rfl rfl (any_of HT_.out (by kernel_rfl)) (fun _ _ _ h => h) (Or.inl ⟨by rfl, ?_⟩) ?_ ?_
          rotate_left
          ·intro w'
           go_simp
           with_reducible rfl
          rotate_left
          ·simp only [Act.put, List.setIfInBounds_toArray, List.set_cons_zero, List.set_cons_succ, i64_w, i32_w]
           rfl
          refine pure_ (i := 8) (N := some 94) (v := ?_) (a' := ?_) #[true, true, true, true, true, true, true, true, true, false, false, false, false, false, false] rfl rfl (any_of HT_.out (by kernel_rfl)) (fun _ _ _ h => h) (Or.inl ⟨by rfl, ?_⟩) ?_ ?_
          rotate_left
          ·intro w'
           go_simp
           with_reducible rfl
          rotate_left
          ·simp only [Act.put, List.setIfInBounds_toArray, List.set_cons_zero, List.set_cons_succ, i64_w, i32_w]
           rfl
          refine pure_ (i := 9) (N := some 95) (v := ?_) (a' := ?_) #[true, true, true, true, true, true, true, true, true, true, false, false, false, false, false] rfl rfl (any_of HT_.out (by kernel_rfl)) (fun _ _ _ h => h) (Or.inl ⟨by rfl, ?_⟩) ?_ ?_
          rotate_left
          ·intro w'
           go_simp
           with_reducible rfl
          rotate_left
          ·simp only [Act.put, List.setIfInBounds_toArray, List.set_cons_zero, List.set_cons_succ, i64_w, i32_w]
           rfl
          refine pure_ (i := 10) (N := some 96) (v := ?_) (a' := ?_) #[true, true, true, true, true, true, true, true, true, true, true, false, false, false, false] rfl rfl (any_of HT_.out (by kernel_rfl)) (fun _ _ _ h => h) (Or.inl ⟨by rfl, ?_⟩) ?_ ?_
          rotate_left
          ·intro w'
           go_simp
           with_reducible rfl
          rotate_left
          ·simp only [Act.put, List.setIfInBounds_toArray, List.set_cons_zero, List.set_cons_succ, i64_w, i32_w]
           rfl
          refine pure_ (i := 11) (N := some 97) (v := ?_) (a' := ?_) #[true, true, true, true, true, true, true, true, true, true, true, true, false, false, false] rfl rfl (any_of HT_.out (by kernel_rfl)) (fun _ _ _ h => h) (Or.inl ⟨by rfl, ?_⟩) ?_ ?_
          rotate_left
          ·intro w'
           go_simp
           with_reducible rfl
          rotate_left
          ·simp only [Act.put, List.setIfInBounds_toArray, List.set_cons_zero, List.set_cons_succ, i64_w, i32_w]
           rfl
          refine pure_ (i := 12) (N := some 98) (v := ?_) (a' := ?_) #[true, true, true, true, true, true, true, true, true, true, true, true, true, false, false] rfl rfl (any_of HT_.out (by kernel_rfl)) (fun _ _ _ h => h) (Or.inl ⟨by rfl, ?_⟩) ?_ ?_
          rotate_left
          ·intro w'
           go_simp
           with_reducible rfl
          rotate_left
          ·simp only [Act.put, List.setIfInBounds_toArray, List.set_cons_zero, List.set_cons_succ, i64_w, i32_w]
           rfl
          refine pure_ (i := 13) (N := some 99) (v := ?_) (a' := ?_) #[true, true, true, true, true, true, true, true, true, true, true, true, true, true, false] rfl rfl (any_of HT_.out (by kernel_rfl)) (fun _ _ _ h => h) (Or.inl ⟨by rfl, ?_⟩) ?_ ?_
          rotate_left
          ·intro w'
           go_simp
           with_reducible rfl
          rotate_left
          ·simp only [Act.put, List.setIfInBounds_toArray, List.set_cons_zero, List.set_cons_succ, i64_w, i32_w]
           rfl
          refine pure_ (i := 14) (N := some 8) (v := ?_) (a' := ?_) #[true, true, true, true, true, true, true, true, true, true, true, true, true, true, true] rfl rfl (any_of HT_.out (by kernel_rfl)) (fun _ _ _ h => h) (Or.inl ⟨by rfl, ?_⟩) ?_ ?_
          rotate_left
          ·intro w'
           go_simp
           with_reducible rfl
          rotate_left
          ·simp only [Act.put, List.setIfInBounds_toArray, List.set_cons_zero, List.set_cons_succ, i64_w, i32_w]
           rfl
          refine done_ (done_of HT_.out (by kernel_rfl)) ?_
          try go_wp2
          go_ret
          exact ⟨by first | rfl | (simp [errW_none, errW_some] <;> rfl) | (simp [*, errW_none, errW_some] <;> rfl), pl_below HB.out⟩
         ·rw [if_neg c69] at H
          have c69b0 : ((strOfNums t563).toList == (strOfNums l1).toList) = false := beq_eq_false_iff_ne.mpr c69
          have c69b1 : ((strOfNums t563).toList != (strOfNums l1).toList) = true := bne_iff_ne.mpr c69
          exact absurd H (by simp)
        ·replace c67 := Bool.eq_false_iff.mpr c67
         subst c67
         rw [if_neg (show ¬ (false = true) by decide)] at H
         exact absurd H (by simp)
       ·replace c66 := Bool.eq_false_iff.mpr c66
        subst c66
        rw [if_neg (show ¬ (false = true) by decide)] at H
        by_cases c82 : t507 = true; rotate_left
        ·rw [if_neg c82] at H; cases H
        subst c82
        rw [if_pos rfl] at H
        replace H := Option.bind_eq_some_iff.mp H
        obtain ⟨t566, A83, H⟩ := H
        (try dsimp only at H)
        replace A83 := Aside0.mk A83
        by_cases c84 : t566 = true; rotate_left
        ·rw [if_neg c84] at H; cases H
        subst c84
        rw [if_pos rfl] at H
        obtain rfl := Option.some.inj H
        go_wp2_with (first | ((with_reducible refine gate_callee (f := 25) rfl ?_); refine goesL_ (some 75) rfl rfl Try.func25 (by kernel_rfl) rfl #[.slice A1 l1.length c1] rfl (by (try simp only [List.map_toArray, List.map_cons, List.map_nil]); first | done | rfl | (simp only [List.length_drop, List.length_take]; rfl)) ?_; (with_reducible refine (event_Get.calls kj17 (fun k_ => k_ < w.heap.size) _ _ l1 t554 t555 t556 t557 t558 false _ ?side1 A65.out).mono ?_); (case side1 => exact Kd.V_mk HC1.out (Kd.F_below (Kd.C_F (Kd.heap_int .u8) HR1.out) (pl_below HB.out))); rintro e w85 ⟨v559, rfl, ho0, hb⟩; refine ⟨_, rfl, ?_⟩; have HO560 := Aside0.mk (Kd.R_lower (Kd.R_mono (ok' := fun k_ => True) ho0 (fun _ hk_ => trivial)) (below_size (pl_below HB.out))); replace BK506 := bb BK506 hb; replace HB := hB HB hb; (try clear hb); (try clear hb2); (try clear hk); (try clear hi); (try clear ho0)) | ((with_reducible refine gate_dst (N := 17) rfl ?_); (try (refine gate_guard (by rfl) ?_; dsimp only)); refine box_event ?hg (N := 17) ?hd (cs := #[.int .i64 0, .int .i64 0, .int .i64 0, .string (⟨#[]⟩ : ByteArray), .slice none 0 0]) (t := 25) ?hr ?_; (case hd => rfl); (case hg => rfl); (case hr => first | (go_simp; done) | (go_simp; rfl)); intro gb562 hg w86 hbox hb; replace HO560 := Aside0.mk (Kd.R_below (Kd.pl_R HO560.out) hb); have BK562 := Aside0.mk (hbox); have GW562 := hG HB hg; have GE562 := hG HB hg; replace HB := hB HB hb; have NB506_562 := hN BK506 hg; have NB562_506 := hM BK506 hg; replace BK506 := bb BK506 hb; clear hb hbox hg; have hnb87 := NB562_506.out; have hnc87 := NB506_562.out; obtain ⟨hcz88_0, hcz88_1, hcz88_2, hcz88_3, hcz88_4, hfz88_0, hfz88_1, hfz88_2, hfz88_3, hfz88_4⟩ := blk_c5 BK562.out; obtain ⟨Ao89, co89, eo89⟩ := Kd.R_slice HO560.out; subst eo89) | (go_at_call 27; (refine (auguryref05_SameOne.calls kj17 t554 t555 t556 t557 _ _ t558 0 0 0 (⟨#[]⟩ : ByteArray) _ _ ([] : List (S52)) true _ ?side1 ?side2 ?side3 ?side4 A83.out).mono ?_); (case side1 => refine (Kd.R_reads' (e := 52) (base := w.heap.size) (ok := fun k_ => True) (n := t558.length) (c := co89) ?_).2.2; exact (by (with_reducible repeat (first | apply Kd.R_alloc | apply Kd.R_drewN | apply Kd.R_drew)); exact (Kd.R_mono (Kd.R_far (p := ⟨gb562, 4, none⟩) (Kd.R_far (p := ⟨gb562, 3, none⟩) (Kd.R_far (p := ⟨gb562, 2, none⟩) (Kd.R_far (p := ⟨gb562, 1, none⟩) (Kd.R_far (p := ⟨gb562, 0, none⟩) (Kd.R_types HO560.out BK562.out (by decide)) (fun _ hk => hk.2) (.int .i64 t554)) (fun _ hk => hk.2) (.int .i64 t555)) (fun _ hk => hk.2) (.int .i64 t556)) (fun _ hk => hk.2) (.string t557)) (fun _ hk => hk.2) (.slice Ao89 t558.length co89)) (fun _ h_ => h_.1)))); (case side2 => exact (Kd.R_reads' HO560.out).2.1); (case side3 => exact Kd.C_nil _ _); (case side4 => exact Nat.le_refl _); rintro e w90 ⟨rfl, hb⟩; replace HO560 := Aside0.mk (Kd.R_below (by (with_reducible repeat (first | apply Kd.R_alloc | apply Kd.R_drewN | apply Kd.R_drew)); exact (Kd.R_mono (Kd.R_far (p := ⟨gb562, 4, none⟩) (Kd.R_far (p := ⟨gb562, 3, none⟩) (Kd.R_far (p := ⟨gb562, 2, none⟩) (Kd.R_far (p := ⟨gb562, 1, none⟩) (Kd.R_far (p := ⟨gb562, 0, none⟩) (Kd.R_types HO560.out BK562.out (by decide)) (fun _ hk => hk.2) (.int .i64 t554)) (fun _ hk => hk.2) (.int .i64 t555)) (fun _ hk => hk.2) (.int .i64 t556)) (fun _ hk => hk.2) (.string t557)) (fun _ hk => hk.2) (.slice Ao89 t558.length co89)) (fun _ h_ => h_.1))) hb); replace BK506 := Aside0.mk (blk_below (pl_blk (blk_far (p := ⟨gb562, 4, none⟩) (blk_far (p := ⟨gb562, 3, none⟩) (blk_far (p := ⟨gb562, 2, none⟩) (blk_far (p := ⟨gb562, 1, none⟩) (blk_far (p := ⟨gb562, 0, none⟩) BK506.out NB506_562.out (.int .i64 t554)) NB506_562.out (.int .i64 t555)) NB506_562.out (.int .i64 t556)) NB506_562.out (.string t557)) NB506_562.out (.slice Ao89 t558.length co89))) hb); replace BK562 := Aside0.mk (blk_below (pl_blk (blk_put (blk_put (blk_put (blk_put (blk_put BK562.out 0 (.int .i64 t554) rfl) 1 (.int .i64 t555) rfl) 2 (.int .i64 t556) rfl) 3 (.string t557) rfl) 4 (.slice Ao89 t558.length co89) rfl)) hb); replace HB := Aside0.mk (below_step (by repeat (first | (with_reducible first | exact HB.out | apply below_alloc | apply pw_below_drewN | apply below_drew1 | refine below_set ?_ GE562.out) | exact HB.out)) hb); (try clear hb); (try clear hb2); (try clear hk); (try clear hi)))
        go_ret
        exact ⟨by first | rfl | (simp [errW_none, errW_some] <;> rfl) | (simp [*, errW_none, errW_some] <;> rfl), pl_below HB.out⟩

/-- THE ONE PURE STATEMENT of augurylaw05_EventBack: yours. -/
def augurylaw05_EventBack.Pure : Prop := ∀ (x0 : S25) (l1 : List Int) (a2 : Int) (a3 : Int), ok25 x0 → (l1.length ≤ 140737488351232 ∧ ∀ x ∈ l1, (Lit.int .u8 x).wf = true) → (Lit.int .u16 a2).wf = true → (Lit.int .u8 a3).wf = true → ∃ k, augurylaw05_EventBack.f k x0.f0 x0.f1 x0.f2 x0.f3 x0.f4 l1 a2 a3 = some true

end Go.Proofs.Ytbnjhmcbkocdjaa.PAll
