/- Written by this session's own program (wip/xprint): functions of the Go program as Lean functions, and proofs that the Go code computes them. -/
import Derived.Test.YtbnjhmcbkocdjaaPAllx0
import Derived.Test.YtbnjhmcbkocdjaaPAllx9
namespace Go.Proofs.Ytbnjhmcbkocdjaa.PAll
open Go.RowKit Go.Proofs.YtbnjhmcbkocdjaaW.PrintWords Go.Proofs.YtbnjhmcbkocdjaaW.PrintLast Go.Proofs.YtbnjhmcbkocdjaaW.PrintMore
attribute [local go_sem] max2_int min2_int max_two min_two max_three min_three max_four min_four   -- for this text's walks alone
set_option linter.unusedVariables false
set_option linter.unusedSimpArgs false

/-! ### event_Find: function 12 -/
def event_Find.f (k : Nat) (l0 : List (S31)) (a1 : ByteArray) : Option (ByteArray × (List (S55)) × Bool) := (api_Schema__f32.f k l0 a1).bind fun t113 => (if t113 < 0 then (some ((⟨#[]⟩ : ByteArray), ([] : List (S55)), false)) else (if 0 ≤ t113 then (if t113 < (l0.length : Int) then (some ((rd_T31 l0 t113).f0, (rd_T31 l0 t113).f1, true)) else (none)) else (none)))
theorem event_Find.mono : ∀ a0 a1 k, LeO (event_Find.f k a0 a1) (event_Find.f (k + 1) a0 a1) := by
  intro a0 a1 k
  unfold event_Find.f
  repeat' first
      | (with_reducible exact api_Schema__f32.mono _ _ _)
      | (with_reducible exact LeO.refl _)
      | (with_reducible exact LeO.none _)
      | (with_reducible refine LeO.ite ?_ ?_)
      | (with_reducible refine LeO.bind ?_ (fun _ => ?_))
      | exact LeO.none _
      | refine LeO.ite ?_ ?_
      | refine LeO.bind ?_ (fun _ => ?_)
set_option maxHeartbeats 8000000 in
set_option maxRecDepth 100000 in
theorem event_Find.calls (k : Nat) (P0_ : Nat → Prop) (A0 : Option Addr) (c0 : Nat) (l0 : List (S31)) (a1 : ByteArray) (r1 : ByteArray) (r2 : List (S55)) (r3 : Bool) (w : World) (hs0 : Kd.V k31 31 w w.heap.size (fun k_ => P0_ k_) (.slice A0 l0.length c0) l0) (h : event_Find.f k l0 a1 = some (r1, r2, r3)) :
    Calls Try.prog 12 #[.slice A0 l0.length c0, .string a1] w fun e w' => ∃ v1_ : Value, e = .returned (.tuple #[.agg #[.string r1, v1_], .bool r3]) ∧ Kd.V k55 55 w' w.heap.size (fun k_ => (P0_ k_ ∨ w.heap.size ≤ k_)) v1_ r2 ∧ Below w.heap.size w w' := by
  have hu31 := Try.underlying31
  have HO0 := Aside0.mk (show Kd.V k31 31 w w.heap.size (fun k_ => (P0_ k_ ∨ w.heap.size ≤ k_)) (.slice A0 l0.length c0) l0 from Kd.V_mono hs0 (fun k_ hk => .inl hk))
  have HB := Aside0.mk (Below.refl w.heap.size w)
  have H : ((api_Schema__f32.f k l0 a1).bind fun t113 => (if t113 < 0 then (some ((⟨#[]⟩ : ByteArray), ([] : List (S55)), false)) else (if 0 ≤ t113 then (if t113 < (l0.length : Int) then (some ((rd_T31 l0 t113).f0, (rd_T31 l0 t113).f1, true)) else (none)) else (none)))) = some (r1, r2, r3) := h
  clear h
  replace H := Option.bind_eq_some_iff.mp H
  obtain ⟨t113, A3, H⟩ := H
  (try dsimp only at H)
  replace A3 := Aside0.mk A3
  by_cases c4 : t113 < 0
  ·rw [if_pos c4] at H
   have c4b0 : decide (t113 < 0) = true := decide_eq_true c4
   clear c4
   simp only [Option.some.injEq, Prod.mk.injEq] at H
   obtain ⟨rfl, rfl, rfl⟩ := H
   go_enter Try.func12, Try.ntmps12
   go_wp2_with (first | ((with_reducible refine gate_dst (N := 3) rfl ?_); refine box_event ?hg (N := 3) ?hd (cs := #[.string a1]) (t := 9) ?hr ?_; (case hd => rfl); (case hg => rfl); (case hr => first | (go_simp; done) | (go_simp; rfl)); intro gb111 hg w5 hbox hb; replace HO0 := Aside0.mk (Kd.V_below (Kd.V_elderB (Kd.pl_V HO0.out) gb111 (Nat.le_of_eq hg.symm)) hb); have BK111 := Aside0.mk (hbox); have GW111 := hG HB hg; have GE111 := hG HB hg; replace HB := hB HB hb; clear hb hbox hg) | ((with_reducible refine gate_dst (N := 4) rfl ?_); refine box_event ?hg (N := 4) ?hd (cs := #[.string (⟨#[]⟩ : ByteArray), .slice none 0 0]) (t := 31) ?hr ?_; (case hd => rfl); (case hg => rfl); (case hr => first | (go_simp; done) | (go_simp; rfl)); intro gb112 hg w6 hbox hb; replace HO0 := Aside0.mk (Kd.V_below (Kd.V_elderB (Kd.pl_V HO0.out) gb112 (Nat.le_of_eq hg.symm)) hb); have BK112 := Aside0.mk (hbox); have GW112 := hG HB hg; have GE112 := hG HB hg; replace HB := hB HB hb; have NB111_112 := hN BK111 hg; have NB112_111 := hM BK111 hg; replace BK111 := bb BK111 hb; clear hb hbox hg) | ((with_reducible refine gate_callee (f := 31) rfl ?_); refine goesL_ (some 9) rfl rfl Try.func31 (by kernel_rfl) rfl #[.slice A0 l0.length c0, .func (.func 32) #[] #[.pointer (some ⟨gb111, 0, none⟩)]] rfl (by (try simp only [List.map_toArray, List.map_cons, List.map_nil]); first | done | rfl | (simp only [List.length_drop, List.length_take]; rfl)) ?_; (with_reducible refine (api_Schema__f32.calls k _ _ l0 gb111 a1 t113 _ ?side1 ?side2 ?side3 A3.out).mono ?_); (case side1 => repeat (first | exact (Kd.V_reads' HO0.out).2.2 | (with_reducible refine Kd.C_alloc ?_ _) | (with_reducible refine Kd.C_drewN ?_ _) | (with_reducible refine Kd.C_drew ?_))); (case side2 => exact (Kd.V_reads' HO0.out).2.1); (case side3 => exact ((blk_cell (pl_blk BK111.out) 0).trans rfl)); rintro e w7 ⟨rfl, hb⟩; refine ⟨_, rfl, ?_⟩; replace HO0 := Aside0.mk (Kd.V_below (Kd.pl_V HO0.out) hb); replace BK111 := bb BK111 hb; replace BK112 := bb BK112 hb; replace HB := hB HB hb; (try clear hb); (try clear hb2); (try clear hk); (try clear hi); have hnb8 := NB112_111.out; have hnc8 := NB111_112.out; obtain ⟨hcz9_0, hcz9_1, hfz9_0, hfz9_1⟩ := blk_c2 BK112.out))
   refine bodyPost_ret (results_ct rfl _ _ gb112 31 #[.string (⟨#[]⟩ : ByteArray), .slice none 0 0] (0, 0) _ rfl (pl_blk (blk_put (blk_put BK112.out 0 (.string (⟨#[]⟩ : ByteArray)) rfl) 1 (.slice none 0 0) rfl)) Try.underlying31 rfl (by kernel_rfl)) rfl ?_
   exact ⟨_, by first | rfl | (simp [errW_none, errW_some] <;> rfl) | (simp [*, errW_none, errW_some] <;> rfl), Kd.V_nil _ _ _ _ _, by repeat (first | (with_reducible first | exact HB.out | apply below_alloc | apply pw_below_drewN | apply below_drew1 | refine below_set ?_ GE112.out) | exact HB.out)⟩
  ·rw [if_neg c4] at H
   have c4b0 : decide (t113 < 0) = false := decide_eq_false c4
   clear c4
   by_cases c10 : 0 ≤ t113; rotate_left
   ·rw [if_neg c10] at H; cases H
   rw [if_pos c10] at H
   have c10b0 : decide (0 ≤ t113) = true := decide_eq_true c10
   clear c10
   by_cases c11 : t113 < (l0.length : Int); rotate_left
   ·rw [if_neg c11] at H; cases H
   rw [if_pos c11] at H
   have c11b0 : decide (t113 < (l0.length : Int)) = true := decide_eq_true c11
   clear c11
   simp only [Option.some.injEq, Prod.mk.injEq] at H
   obtain ⟨rfl, rfl, rfl⟩ := H
   go_enter Try.func12, Try.ntmps12
   go_wp2_with (first | ((with_reducible refine gate_dst (N := 3) rfl ?_); refine box_event ?hg (N := 3) ?hd (cs := #[.string a1]) (t := 9) ?hr ?_; (case hd => rfl); (case hg => rfl); (case hr => first | (go_simp; done) | (go_simp; rfl)); intro gb111 hg w12 hbox hb; replace HO0 := Aside0.mk (Kd.V_below (Kd.V_elderB (Kd.pl_V HO0.out) gb111 (Nat.le_of_eq hg.symm)) hb); have BK111 := Aside0.mk (hbox); have GW111 := hG HB hg; have GE111 := hG HB hg; replace HB := hB HB hb; clear hb hbox hg) | ((with_reducible refine gate_dst (N := 4) rfl ?_); refine box_event ?hg (N := 4) ?hd (cs := #[.string (⟨#[]⟩ : ByteArray), .slice none 0 0]) (t := 31) ?hr ?_; (case hd => rfl); (case hg => rfl); (case hr => first | (go_simp; done) | (go_simp; rfl)); intro gb112 hg w13 hbox hb; replace HO0 := Aside0.mk (Kd.V_below (Kd.V_elderB (Kd.pl_V HO0.out) gb112 (Nat.le_of_eq hg.symm)) hb); have BK112 := Aside0.mk (hbox); have GW112 := hG HB hg; have GE112 := hG HB hg; replace HB := hB HB hb; have NB111_112 := hN BK111 hg; have NB112_111 := hM BK111 hg; replace BK111 := bb BK111 hb; clear hb hbox hg) | ((with_reducible refine gate_callee (f := 31) rfl ?_); refine goesL_ (some 9) rfl rfl Try.func31 (by kernel_rfl) rfl #[.slice A0 l0.length c0, .func (.func 32) #[] #[.pointer (some ⟨gb111, 0, none⟩)]] rfl (by (try simp only [List.map_toArray, List.map_cons, List.map_nil]); first | done | rfl | (simp only [List.length_drop, List.length_take]; rfl)) ?_; (with_reducible refine (api_Schema__f32.calls k _ _ l0 gb111 a1 t113 _ ?side1 ?side2 ?side3 A3.out).mono ?_); (case side1 => repeat (first | exact (Kd.V_reads' HO0.out).2.2 | (with_reducible refine Kd.C_alloc ?_ _) | (with_reducible refine Kd.C_drewN ?_ _) | (with_reducible refine Kd.C_drew ?_))); (case side2 => exact (Kd.V_reads' HO0.out).2.1); (case side3 => exact ((blk_cell (pl_blk BK111.out) 0).trans rfl)); rintro e w14 ⟨rfl, hb⟩; refine ⟨_, rfl, ?_⟩; replace HO0 := Aside0.mk (Kd.V_below (Kd.pl_V HO0.out) hb); replace BK111 := bb BK111 hb; replace BK112 := bb BK112 hb; replace HB := hB HB hb; (try clear hb); (try clear hb2); (try clear hk); (try clear hi); have p114 : 0 ≤ (t113 : Int) := of_decide_eq_true (by first | (with_reducible assumption) | assumption); have q114 : t113 < (l0.length : Int) := of_decide_eq_true (by first | (with_reducible assumption) | assumption); obtain ⟨ad114, A114_1, c114_1, e114, hx114_0, hx114_1, hl114_1, hi114_1⟩ := at_T31 (Kd.V_reads' HO0.out).2.2 t113 p114 q114; cases e114; obtain ⟨ce114, hce114, hMe114, hcc114⟩ := Kd.V_get HO0.out z31 t113 p114 (by first | exact q114 | exact of_decide_eq_true (by first | (with_reducible assumption) | assumption) | (have e_ := (Kd.V_reads' HO0.out).1; omega)); obtain ⟨ua114_1, uc114_1, rfl, ul114_1, ge114_1⟩ := k31_openF hMe114; have hv114_1 := hcc114 1 _ rfl; rw [add_field _ _ 1 (by omega)] at hv114_1; replace hv114_1 := Option.some.inj (hv114_1.symm.trans hx114_1); injection hv114_1 with hva_ hvn_ hvc_; rw [hva_] at ge114_1; rw [hvc_] at ul114_1; have HL114_1 := Aside0.mk (show Kd.V k55 55 _ w.heap.size _ _ ((rd_T31 l0 t113).f1) from Kd.V_mk ul114_1 ge114_1); clear hva_ hvn_ hvc_ ge114_1 ul114_1; clear hcc114 hce114; have HR114_1 := Aside0.mk hi114_1; have HC114_1 := Aside0.mk hl114_1; clear hi114_1 hl114_1; replace p114 := eq_true p114; replace q114 := eq_true q114; have hnb15 := NB112_111.out; have hnc15 := NB111_112.out; obtain ⟨hcz16_0, hcz16_1, hfz16_0, hfz16_1⟩ := blk_c2 BK112.out))
   refine bodyPost_ret (results_ct rfl _ _ gb112 31 #[.string ((rd_T31 l0 t113).f0), .slice A114_1 ((rd_T31 l0 t113).f1).length c114_1] (0, 0) _ rfl (pl_blk (blk_put (blk_put BK112.out 0 (.string ((rd_T31 l0 t113).f0)) rfl) 1 (.slice A114_1 ((rd_T31 l0 t113).f1).length c114_1) rfl)) Try.underlying31 rfl (by kernel_rfl)) rfl ?_
   exact ⟨_, by first | rfl | (simp [errW_none, errW_some] <;> rfl) | (simp [*, errW_none, errW_some] <;> rfl), by (with_reducible repeat (first | apply Kd.V_alloc | apply Kd.V_drewN | apply Kd.V_drew)); exact Kd.V_mono (Kd.V_far (p := ⟨gb112, 1, none⟩) (Kd.V_far (p := ⟨gb112, 0, none⟩) (Kd.V_mono HL114_1.out (fun k_ hk => (⟨hk, hk.2⟩ : _ ∧ k_ ≠ gb112))) (fun _ hk => hk.2) (.string ((rd_T31 l0 t113).f0))) (fun _ hk => hk.2) (.slice A114_1 ((rd_T31 l0 t113).f1).length c114_1)) (fun _ hk => hk.1.1.1), by repeat (first | (with_reducible first | exact HB.out | apply below_alloc | apply pw_below_drewN | apply below_drew1 | refine below_set ?_ GE112.out) | exact HB.out)⟩

end Go.Proofs.Ytbnjhmcbkocdjaa.PAll
