/- Written by this session's own program (wip/xprint): functions of the Go program as Lean functions, and proofs that the Go code computes them. -/
import Derived.Test.YtbnjhmcbkocdjaaPAllx0
namespace Go.Proofs.Ytbnjhmcbkocdjaa.PAll
open Go.RowKit Go.Proofs.YtbnjhmcbkocdjaaW.PrintWords Go.Proofs.YtbnjhmcbkocdjaaW.PrintLast Go.Proofs.YtbnjhmcbkocdjaaW.PrintMore
attribute [local go_sem] max2_int min2_int max_two min_two max_three min_three max_four min_four   -- for this text's walks alone
set_option linter.unusedVariables false
set_option linter.unusedSimpArgs false

/-! ### auguryref05_Find: function 13 -/
def auguryref05_Find.l0 : Nat → List (S31) → ByteArray → Int → Option (ByteArray × (List (S55)) × Bool)
  | 0, _, _, _ => none
  | k + 1, x0, x1, x6 => if x6 < (x0.length : Int) then (if 0 ≤ x6 then (if ((rd_T31 x0 x6).f0).toList = x1.toList then (some ((rd_T31 x0 x6).f0, (rd_T31 x0 x6).f1, true)) else (auguryref05_Find.l0 k x0 x1 (wrap64 (x6 + 1)))) else (none)) else (some ((⟨#[]⟩ : ByteArray), ([] : List (S55)), false))
def auguryref05_Find.f (k : Nat) (l0 : List (S31)) (a1 : ByteArray) : Option (ByteArray × (List (S55)) × Bool) := auguryref05_Find.l0 k l0 a1 0
theorem auguryref05_Find.mono_l : ∀ k, (∀ y0 y1 y2, LeO (auguryref05_Find.l0 k y0 y1 y2) (auguryref05_Find.l0 (k + 1) y0 y1 y2))
  | 0 => fun _ _ _ r h => by simp [auguryref05_Find.l0] at h
  | k + 1 => by
    have ih0 := auguryref05_Find.mono_l k
    · intro y0 y1 y2
      unfold auguryref05_Find.l0
      repeat' first
      | (with_reducible exact ih0 _ _ _)
      | (with_reducible exact LeO.refl _)
      | (with_reducible exact LeO.none _)
      | (with_reducible refine LeO.ite ?_ ?_)
      | (with_reducible refine LeO.bind ?_ (fun _ => ?_))
      | exact LeO.none _
      | refine LeO.ite ?_ ?_
      | refine LeO.bind ?_ (fun _ => ?_)
theorem auguryref05_Find.mono : ∀ a0 a1 k, LeO (auguryref05_Find.f k a0 a1) (auguryref05_Find.f (k + 1) a0 a1) := by
  intro a0 a1 k
  have ih0 := auguryref05_Find.mono_l k
  unfold auguryref05_Find.f
  repeat' first
      | (with_reducible exact ih0 _ _ _)
      | (with_reducible exact LeO.refl _)
      | (with_reducible exact LeO.none _)
      | (with_reducible refine LeO.ite ?_ ?_)
      | (with_reducible refine LeO.bind ?_ (fun _ => ?_))
      | exact LeO.none _
      | refine LeO.ite ?_ ?_
      | refine LeO.bind ?_ (fun _ => ?_)
set_option maxHeartbeats 8000000 in
set_option maxRecDepth 100000 in
theorem auguryref05_Find.calls (k : Nat) (P0_ : Nat → Prop) (A0 : Option Addr) (c0 : Nat) (l0 : List (S31)) (a1 : ByteArray) (r1 : ByteArray) (r2 : List (S55)) (r3 : Bool) (w : World) (hs0 : Kd.V k31 31 w w.heap.size (fun k_ => P0_ k_) (.slice A0 l0.length c0) l0) (h : auguryref05_Find.f k l0 a1 = some (r1, r2, r3)) :
    Calls Try.prog 13 #[.slice A0 l0.length c0, .string a1] w fun e w' => ∃ v1_ : Value, e = .returned (.tuple #[.agg #[.string r1, v1_], .bool r3]) ∧ Kd.V k55 55 w' w.heap.size (fun k_ => (P0_ k_ ∨ w.heap.size ≤ k_)) v1_ r2 ∧ Below w.heap.size w w' := by
  have hu31 := Try.underlying31
  have HO0 := Aside0.mk (show Kd.V k31 31 w w.heap.size (fun k_ => (P0_ k_ ∨ w.heap.size ≤ k_)) (.slice A0 l0.length c0) l0 from Kd.V_mono hs0 (fun k_ hk => .inl hk))
  have HB := Aside0.mk (Below.refl w.heap.size w)
  have H : (auguryref05_Find.l0 k l0 a1 0) = some (r1, r2, r3) := h
  clear h
  have H' := Aside0.mk H
  clear H
  go_enter Try.func13, Try.ntmps13
  go_wp2_with (first | ((with_reducible refine gate_dst (N := 4) rfl ?_); refine box_event ?hg (N := 4) ?hd (cs := #[.string (⟨#[]⟩ : ByteArray), .slice none 0 0]) (t := 31) ?hr ?_; (case hd => rfl); (case hg => rfl); (case hr => first | (go_simp; done) | (go_simp; rfl)); intro gb331 hg w3 hbox hb; replace HO0 := Aside0.mk (Kd.V_below (Kd.V_elderB (Kd.pl_V HO0.out) gb331 (Nat.le_of_eq hg.symm)) hb); have BK331 := Aside0.mk (hbox); have GW331 := hG HB hg; have GE331 := hG HB hg; replace HB := hB HB hb; clear hb hbox hg))
  go_loopg [6] k (fun kq v6 w' => ∃ (x6_1 : Int) (x332000_1 : ByteArray), v6 = .int .i64 x6_1 ∧ Aside0 (auguryref05_Find.l0 kq l0 a1 x6_1 = some (r1, r2, r3)) ∧ Aside0 (kq ≤ k) ∧ Aside0 (Kd.V k31 31 w' w.heap.size (fun k_ => (P0_ k_ ∨ w.heap.size ≤ k_) ∧ k_ ≠ gb331) (.slice A0 l0.length c0) l0) ∧ Aside0 (w'.heap[gb331]? = some (.cells #[.string x332000_1, (.slice none 0 0)] 31 (0, 0))) ∧ Aside0 (Below w.heap.size w w'))
  case atStart => exact ⟨(0), ((⟨#[]⟩ : ByteArray)), (by first | rfl | (simp; done) | (simp [*]; done) | grind), H', ⟨Nat.le_refl _⟩, ⟨Kd.pl_V HO0.out⟩, ⟨pl_blk BK331.out⟩, ⟨pl_below HB.out⟩⟩
  case round =>
   clear H'
   (try clear c1); (try clear p2)
   obtain ⟨x6_1, x332000_1, rfl, HA, HK1, HO_0, BK331, HB⟩ := hrel
   cases gk with
   | zero => exact absurd HA.out (by simp [auguryref05_Find.l0])
   | succ k1 =>
    have H := HA.out
    clear HA
    simp only [auguryref05_Find.l0] at H
    by_cases c4 : x6_1 < (l0.length : Int)
    ·rw [if_pos c4] at H
     have c4b0 : decide (x6_1 < (l0.length : Int)) = true := decide_eq_true c4
     clear c4
     by_cases c5 : 0 ≤ x6_1; rotate_left
     ·rw [if_neg c5] at H; cases H
     rw [if_pos c5] at H
     have c5b0 : decide (0 ≤ x6_1) = true := decide_eq_true c5
     clear c5
     by_cases c6 : ((rd_T31 l0 x6_1).f0).toList = a1.toList
     ·rw [if_pos c6] at H
      have c6b0 : (((rd_T31 l0 x6_1).f0).toList == a1.toList) = true := beq_iff_eq.mpr c6
      have c6b1 : (((rd_T31 l0 x6_1).f0).toList != a1.toList) = false := bne_eq_false_iff_eq.mpr c6
      clear c6
      simp only [Option.some.injEq, Prod.mk.injEq] at H
      obtain ⟨rfl, rfl, rfl⟩ := H
      have p332 : 0 ≤ (x6_1 : Int) := of_decide_eq_true (by first | (with_reducible assumption) | assumption)
      have q332 : x6_1 < (l0.length : Int) := of_decide_eq_true (by first | (with_reducible assumption) | assumption)
      obtain ⟨ad332, A332_1, c332_1, e332, hx332_0, hx332_1, hl332_1, hi332_1⟩ := at_T31 (Kd.V_reads' HO_0.out).2.2 x6_1 p332 q332
      cases e332
      obtain ⟨ce332, hce332, hMe332, hcc332⟩ := Kd.V_get HO_0.out z31 x6_1 p332 (by first | exact q332 | exact of_decide_eq_true (by first | (with_reducible assumption) | assumption) | (have e_ := (Kd.V_reads' HO_0.out).1; omega))
      obtain ⟨ua332_1, uc332_1, rfl, ul332_1, ge332_1⟩ := k31_openF hMe332
      have hv332_1 := hcc332 1 _ rfl
      rw [add_field _ _ 1 (by omega)] at hv332_1
      replace hv332_1 := Option.some.inj (hv332_1.symm.trans hx332_1)
      injection hv332_1 with hva_ hvn_ hvc_
      rw [hva_] at ge332_1
      rw [hvc_] at ul332_1
      have HL332_1 := Aside0.mk (show Kd.V k55 55 _ w.heap.size _ _ ((rd_T31 l0 x6_1).f1) from Kd.V_mk ul332_1 ge332_1)
      clear hva_ hvn_ hvc_ ge332_1 ul332_1
      clear hcc332 hce332
      have HR332_1 := Aside0.mk hi332_1
      have HC332_1 := Aside0.mk hl332_1
      clear hi332_1 hl332_1
      replace p332 := eq_true p332
      replace q332 := eq_true q332
      have p333 : 0 ≤ (x6_1 : Int) := of_decide_eq_true (by first | (with_reducible assumption) | assumption)
      have q333 : x6_1 < (l0.length : Int) := of_decide_eq_true (by first | (with_reducible assumption) | assumption)
      obtain ⟨ad333, A333_1, c333_1, e333, hx333_0, hx333_1, hl333_1, hi333_1⟩ := at_T31 (Kd.V_reads' HO_0.out).2.2 x6_1 p333 q333
      obtain rfl : ad332 = ad333 := (by injection e333)
      obtain ⟨ce333, hce333, hMe333, hcc333⟩ := Kd.V_get HO_0.out z31 x6_1 p333 (by first | exact q333 | exact of_decide_eq_true (by first | (with_reducible assumption) | assumption) | (have e_ := (Kd.V_reads' HO_0.out).1; omega))
      obtain ⟨ua333_1, uc333_1, rfl, ul333_1, ge333_1⟩ := k31_openF hMe333
      have hv333_1 := hcc333 1 _ rfl
      rw [add_field _ _ 1 (by omega)] at hv333_1
      replace hv333_1 := Option.some.inj (hv333_1.symm.trans hx333_1)
      injection hv333_1 with hva_ hvn_ hvc_
      rw [hva_] at ge333_1
      rw [hvc_] at ul333_1
      have HL333_1 := Aside0.mk (show Kd.V k55 55 _ w.heap.size _ _ ((rd_T31 l0 x6_1).f1) from Kd.V_mk ul333_1 ge333_1)
      clear hva_ hvn_ hvc_ ge333_1 ul333_1
      clear hcc333 hce333
      have HR333_1 := Aside0.mk hi333_1
      have HC333_1 := Aside0.mk hl333_1
      clear hi333_1 hl333_1
      replace p333 := eq_true p333
      replace q333 := eq_true q333
      have ea_ := Option.some.inj (hx332_1.symm.trans hx333_1)
      injection ea_ with ea_ en_ ec_
      subst ea_
      subst ec_
      clear en_
      obtain ⟨hcz7_0, hcz7_1, hfz7_0, hfz7_1⟩ := blk_c2 BK331.out
      go_wp2
      refine bodyPost_ret (results_ct rfl _ _ gb331 31 #[.string ((rd_T31 l0 x6_1).f0), .slice A332_1 ((rd_T31 l0 x6_1).f1).length c332_1] (0, 0) _ rfl (pl_blk (blk_put (blk_put BK331.out 0 (.string ((rd_T31 l0 x6_1).f0)) rfl) 1 (.slice A332_1 ((rd_T31 l0 x6_1).f1).length c332_1) rfl)) Try.underlying31 rfl (by kernel_rfl)) rfl ?_
      exact ⟨_, by first | rfl | (simp [errW_none, errW_some] <;> rfl) | (simp [*, errW_none, errW_some] <;> rfl), by (with_reducible repeat (first | apply Kd.V_alloc | apply Kd.V_drewN | apply Kd.V_drew)); exact Kd.V_mono (Kd.V_far (p := ⟨gb331, 1, none⟩) (Kd.V_far (p := ⟨gb331, 0, none⟩) (Kd.V_mono HL333_1.out (fun k_ hk => (⟨hk, hk.2⟩ : _ ∧ k_ ≠ gb331))) (fun _ hk => hk.2) (.string ((rd_T31 l0 x6_1).f0))) (fun _ hk => hk.2) (.slice A332_1 ((rd_T31 l0 x6_1).f1).length c332_1)) (fun _ hk => hk.1.1), by repeat (first | (with_reducible first | exact HB.out | apply below_alloc | apply pw_below_drewN | apply below_drew1 | refine below_set ?_ GE331.out) | exact HB.out)⟩
     ·rw [if_neg c6] at H
      have c6b0 : (((rd_T31 l0 x6_1).f0).toList == a1.toList) = false := beq_eq_false_iff_ne.mpr c6
      have c6b1 : (((rd_T31 l0 x6_1).f0).toList != a1.toList) = true := bne_iff_ne.mpr c6
      have H' := Aside0.mk H
      clear H
      have p332 : 0 ≤ (x6_1 : Int) := of_decide_eq_true (by first | (with_reducible assumption) | assumption)
      have q332 : x6_1 < (l0.length : Int) := of_decide_eq_true (by first | (with_reducible assumption) | assumption)
      obtain ⟨ad332, A332_1, c332_1, e332, hx332_0, hx332_1, hl332_1, hi332_1⟩ := at_T31 (Kd.V_reads' HO_0.out).2.2 x6_1 p332 q332
      cases e332
      obtain ⟨ce332, hce332, hMe332, hcc332⟩ := Kd.V_get HO_0.out z31 x6_1 p332 (by first | exact q332 | exact of_decide_eq_true (by first | (with_reducible assumption) | assumption) | (have e_ := (Kd.V_reads' HO_0.out).1; omega))
      obtain ⟨ua332_1, uc332_1, rfl, ul332_1, ge332_1⟩ := k31_openF hMe332
      have hv332_1 := hcc332 1 _ rfl
      rw [add_field _ _ 1 (by omega)] at hv332_1
      replace hv332_1 := Option.some.inj (hv332_1.symm.trans hx332_1)
      injection hv332_1 with hva_ hvn_ hvc_
      rw [hva_] at ge332_1
      rw [hvc_] at ul332_1
      have HL332_1 := Aside0.mk (show Kd.V k55 55 _ w.heap.size _ _ ((rd_T31 l0 x6_1).f1) from Kd.V_mk ul332_1 ge332_1)
      clear hva_ hvn_ hvc_ ge332_1 ul332_1
      clear hcc332 hce332
      have HR332_1 := Aside0.mk hi332_1
      have HC332_1 := Aside0.mk hl332_1
      clear hi332_1 hl332_1
      replace p332 := eq_true p332
      replace q332 := eq_true q332
      go_wp2
      go_roundg k1
      case measure => have := HK1.out; omega
      case rel => exact ⟨(wrap64 (x6_1 + 1)), (x332000_1), (by first | rfl | (simp; done) | (simp [*]; done) | grind), H', ⟨by have := HK1.out; omega⟩, ⟨Kd.pl_V HO_0.out⟩, ⟨pl_blk BK331.out⟩, ⟨pl_below HB.out⟩⟩
    ·rw [if_neg c4] at H
     have c4b0 : decide (x6_1 < (l0.length : Int)) = false := decide_eq_false c4
     clear c4
     simp only [Option.some.injEq, Prod.mk.injEq] at H
     obtain ⟨rfl, rfl, rfl⟩ := H
     obtain ⟨hcz8_0, hcz8_1, hfz8_0, hfz8_1⟩ := blk_c2 BK331.out
     go_wp2
     refine bodyPost_ret (results_ct rfl _ _ gb331 31 #[.string (⟨#[]⟩ : ByteArray), .slice none 0 0] (0, 0) _ rfl (pl_blk (blk_put (blk_put BK331.out 0 (.string (⟨#[]⟩ : ByteArray)) rfl) 1 (.slice none 0 0) rfl)) Try.underlying31 rfl (by kernel_rfl)) rfl ?_
     exact ⟨_, by first | rfl | (simp [errW_none, errW_some] <;> rfl) | (simp [*, errW_none, errW_some] <;> rfl), Kd.V_nil _ _ _ _ _, by repeat (first | (with_reducible first | exact HB.out | apply below_alloc | apply pw_below_drewN | apply below_drew1 | refine below_set ?_ GE331.out) | exact HB.out)⟩

end Go.Proofs.Ytbnjhmcbkocdjaa.PAll
