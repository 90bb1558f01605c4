/- Written by this session's own program (wip/xprint): functions of the Go program as Lean functions, and proofs that the Go code computes them. -/
import Derived.Test.YtbnjhmcbkocdjaaPAllx0
namespace Go.Proofs.Ytbnjhmcbkocdjaa.PAll
open Go.RowKit Go.Proofs.YtbnjhmcbkocdjaaW.PrintWords Go.Proofs.YtbnjhmcbkocdjaaW.PrintLast Go.Proofs.YtbnjhmcbkocdjaaW.PrintMore
attribute [local go_sem] max2_int min2_int max_two min_two max_three min_three max_four min_four   -- for this text's walks alone
set_option linter.unusedVariables false
set_option linter.unusedSimpArgs false

/-! ### event_reader_num: function 44, by a text of our own -/
def event_reader_num.l0 : Nat → List Int → Bool → Int → Int → Int → Int → Option (Int × List Int × Bool)
  | 0, _, _, _, _, _, _ => none
  | k + 1, x0, xb, x1, x5, x13, x14 => if x14 < x13 then (if 0 ≤ x14 then (if x14 < (x0.length : Int) then (if 0 ≤ (wrap64 (7 * x14)) then (if (rd x0 x14) > 127 then (event_reader_num.l0 k x0 xb x1 (Go.bits .or .i64 x5 (shl .i64 (wrap64 (Go.bits .and .u8 (rd x0 x14) 127)) (wrap64 (7 * x14)))) x13 (wrap64 (x14 + 1))) else (if x14 > 0 then (if (rd x0 x14) = 0 then (some (0, [], true)) else (if (Go.bits .or .i64 x5 (shl .i64 (wrap64 (Go.bits .and .u8 (rd x0 x14) 127)) (wrap64 (7 * x14)))) > x1 then (some (0, [], true)) else (if 0 ≤ (wrap64 (x14 + 1)) then (if (wrap64 (x14 + 1)) ≤ (x0.length : Int) then (some (Go.bits .or .i64 x5 (shl .i64 (wrap64 (Go.bits .and .u8 (rd x0 x14) 127)) (wrap64 (7 * x14))), x0.drop (wrap64 (x14 + 1)).toNat, xb)) else none) else none))) else (if (Go.bits .or .i64 x5 (shl .i64 (wrap64 (Go.bits .and .u8 (rd x0 x14) 127)) (wrap64 (7 * x14)))) > x1 then (some (0, [], true)) else (if 0 ≤ (wrap64 (x14 + 1)) then (if (wrap64 (x14 + 1)) ≤ (x0.length : Int) then (some (Go.bits .or .i64 x5 (shl .i64 (wrap64 (Go.bits .and .u8 (rd x0 x14) 127)) (wrap64 (7 * x14))), x0.drop (wrap64 (x14 + 1)).toNat, xb)) else none) else none)))) else (none)) else (none)) else (none)) else (some (0, [], true))
def event_reader_num.f (k : Nat) (l0 : List Int) (b0 : Bool) (a1 : Int) : Option (Int × List Int × Bool) := event_reader_num.l0 k l0 b0 a1 0 (mn (l0.length : Int) 7) 0
theorem event_reader_num.mono_l : ∀ k, (∀ y0 y1 y2 y3 y4 y5, LeO (event_reader_num.l0 k y0 y1 y2 y3 y4 y5) (event_reader_num.l0 (k + 1) y0 y1 y2 y3 y4 y5))
  | 0 => fun _ _ _ _ _ _ r h => by simp [event_reader_num.l0] at h
  | k + 1 => by
    have ih0 := event_reader_num.mono_l k
    · intro y0 y1 y2 y3 y4 y5
      unfold event_reader_num.l0
      repeat' first
      | (with_reducible exact ih0 _ _ _ _ _ _)
      | (with_reducible exact LeO.refl _)
      | (with_reducible exact LeO.none _)
      | (with_reducible refine LeO.ite ?_ ?_)
theorem event_reader_num.mono : ∀ a0 a1 a2 k, LeO (event_reader_num.f k a0 a1 a2) (event_reader_num.f (k + 1) a0 a1 a2) := by
  intro a0 a1 a2 k
  unfold event_reader_num.f
  exact event_reader_num.mono_l k _ _ _ _ _ _
def event_reader_num.Post (te base : Nat) (ok : Nat → Prop) (w : World) (g : Nat) (r1 : Int) (r2 : List Int) (r3 : Bool) (e : Ending) (w' : World) : Prop := ∃ v' : Value, e = .returned (.int .i64 r1) ∧ w' = (w.setCell ⟨g, 0, none⟩ v').setCell ⟨g, 1, none⟩ (.bool r3) ∧ Kd.V (Kd.int .u8) te w base ok v' r2
theorem setCell_self {w : World} {g : Nat} {t : TypeId} {cs : Array Value} (h : w.heap[g]? = some (.cells cs t (0, 0))) (i : Nat) (v : Value) (hv : cs[i]? = some v) : w.setCell ⟨g, i, none⟩ v = w := by
  have hl := (Array.getElem?_eq_some_iff.1 h).1
  have hg := (Array.getElem?_eq_some_iff.1 h).2
  have hi := (Array.getElem?_eq_some_iff.1 hv).1
  have hx := (Array.getElem?_eq_some_iff.1 hv).2
  have e : cs.setIfInBounds i v = cs := by
    apply Array.ext_getElem?
    intro j
    rw [Array.getElem?_setIfInBounds]
    split
    · rename_i hj
      subst hj
      first | exact hv.symm | (rw [if_pos hi]; exact hv.symm)
    · rfl
  unfold World.setCell
  have : w.heap.modify g (fun | .cells c elem frozen => .cells (if (none : Option Nat).isSome then c else c.setIfInBounds i v) elem frozen | o => o) = w.heap := by
    apply Array.ext
    · simp
    · intro j h1 h2
      rw [Array.getElem_modify]
      split
      · rename_i hj
        subst hj
        rw [hg]
        simp [e]
      · rfl
  exact congrArg (fun z => { w with heap := z }) this
set_option maxHeartbeats 8000000 in
set_option maxRecDepth 100000 in
theorem event_reader_num.calls (k : Nat) (g : Nat) (A0 : Option Addr) (c0 : Nat) (l0 : List Int) (b0 : Bool) (a1 : Int) (r1 : Int) (r2 : List Int) (r3 : Bool) (te base : Nat) (ok : Nat → Prop) (w : World) (hbk : w.heap[g]? = some (.cells #[.slice A0 l0.length c0, .bool b0] 70 (0, 0))) (hs : Kd.V (Kd.int .u8) te w base ok (.slice A0 l0.length c0) l0) (h : event_reader_num.f k l0 b0 a1 = some (r1, r2, r3)) :
    Calls Try.prog 44 #[.pointer (some ⟨g, 0, none⟩), .int .i64 a1] w fun e w' => event_reader_num.Post te base ok w g r1 r2 r3 e w' := by
  have HR0 := Aside0.mk (Kd.V_reads' hs).2.2
  have HV0 := Aside0.mk hs
  have HC0 := Aside0.mk (Kd.V_reads' hs).2.1
  have BK := Aside0.mk hbk
  have hcz0 : w.cell? ⟨g, 0, none⟩ = some (.slice A0 l0.length c0) := (blk_cell hbk 0).trans rfl
  have hcz1 : w.cell? ⟨g, 1, none⟩ = some (.bool b0) := (blk_cell hbk 1).trans rfl
  have hfz0 := blk_frozen hbk 0
  have hfz1 := blk_frozen hbk 1
  clear hs hbk
  have hu := Try.underlying70
  have H : (event_reader_num.l0 k l0 b0 a1 0 (mn (l0.length : Int) 7) 0) = some (r1, r2, r3) := h
  clear h
  obtain ⟨ji2, hji2⟩ : ∃ j_ : Int, (mn (l0.length : Int) 7) = j_ := ⟨_, rfl⟩
  rw [hji2] at H
  have hji2h : ji2 ≤ 7 := by (rw [← hji2]; unfold mn; (repeat' split) <;> omega)
  have hji2l : 0 ≤ ji2 := by (rw [← hji2]; unfold mn; (repeat' split) <;> omega)
  have hji2_ : (if 7 < (l0.length : Int) then 7 else (l0.length : Int)) = ji2 := hji2
  have H' := Aside0.mk H
  clear H
  go_enter Try.func44, Try.ntmps44
  go_wp2
  go_loopg [5, 14] k (fun kq v5 v14 w' => ∃ (x5_1 : Int) (x14_1 : Int), v5 = .int .i64 x5_1 ∧ v14 = .int .i64 x14_1 ∧ Aside0 (event_reader_num.l0 kq l0 b0 a1 x5_1 ji2 x14_1 = some (r1, r2, r3)) ∧ Aside0 (kq ≤ k) ∧ w' = w)
  case atStart => exact ⟨0, 0, by first | rfl | (simp; done), by first | rfl | (simp; done), H', ⟨Nat.le_refl _⟩, rfl⟩
  case round =>
    clear H'
    obtain ⟨x5_1, x14_1, rfl, rfl, HA, HK1, rfl⟩ := hrel
    cases gk with
    | zero => exact absurd HA.out (by simp [event_reader_num.l0])
    | succ k1 =>
      have H := HA.out
      clear HA
      simp only [event_reader_num.l0] at H
      by_cases c3 : x14_1 < ji2
      · rw [if_pos c3] at H
        have c3b0 : decide (x14_1 < ji2) = true := decide_eq_true c3
        clear c3
        by_cases c4 : 0 ≤ x14_1
        · rw [if_pos c4] at H
          have c4b0 : decide (0 ≤ x14_1) = true := decide_eq_true c4
          by_cases c5 : x14_1 < (l0.length : Int)
          · rw [if_pos c5] at H
            have c5b0 : decide (x14_1 < (l0.length : Int)) = true := decide_eq_true c5
            obtain ⟨ji6, hji6⟩ : ∃ j_ : Int, (wrap64 (7 * x14_1)) = j_ := ⟨_, rfl⟩
            rw [hji6] at H
            have hji6w : (IntKind.i64.wrap (7 * x14_1)) = ji6 := (i64_w _).trans hji6
            by_cases c7 : 0 ≤ (ji6)
            · rw [if_pos c7] at H
              have c7b0 := eq_true c7
              have c7b1 : decide (0 ≤ (ji6)) = true := decide_eq_true c7
              clear c7
              obtain ⟨ji8, hji8⟩ : ∃ j_ : Int, (shl .i64 (wrap64 (Go.bits .and .u8 (rd l0 x14_1) 127)) (ji6)) = j_ := ⟨_, rfl⟩
              rw [hji8] at H
              have hji8_ : (IntKind.i64.wrap ((wrap64 (Go.bits .and .u8 (rd l0 x14_1) 127)) * 2 ^ min (ji6).toNat 64)) = ji8 := hji8
              have hji8z : (ji6) ≤ 64 → (IntKind.i64.wrap ((wrap64 (Go.bits .and .u8 (rd l0 x14_1) 127)) * 2 ^ (ji6).toNat)) = ji8 := shl_small hji8
              obtain ⟨ad173, e173, hx173_0⟩ := Kd.at_int HR0.out x14_1 c4 c5
              cases e173
              have p173 := eq_true c4
              have q173 := eq_true c5
              have hc4 := Aside0.mk c4
              have hc5 := Aside0.mk c5
              clear c4 c5
              by_cases c9 : (rd l0 x14_1) > 127
              · rw [if_pos c9] at H
                have c9b0 : decide (127 < (rd l0 x14_1)) = true := decide_eq_true c9
                have H' := Aside0.mk H
                clear H
                go_wp2
                go_roundg k1
                case measure => have := HK1.out; omega
                case rel => exact ⟨(Go.bits .or .i64 x5_1 (ji8)), (wrap64 (x14_1 + 1)), rfl, rfl, H', ⟨by have := HK1.out; omega⟩, rfl⟩
              · rw [if_neg c9] at H
                have c9b0 : decide (127 < (rd l0 x14_1)) = false := decide_eq_false c9
                obtain ⟨n', hn'⟩ : ∃ n : Int, (Go.bits .or .i64 x5_1 ji8) = n := ⟨_, rfl⟩
                rw [hn'] at H
                by_cases c10 : x14_1 > 0
                · rw [if_pos c10] at H
                  have c10b0 : decide (0 < x14_1) = true := decide_eq_true c10
                  by_cases c11 : rd l0 x14_1 = 0
                  · rw [if_pos c11] at H
                    have c11b0 : (rd l0 x14_1 == 0) = true := beq_iff_eq.mpr c11
                    simp only [Option.some.injEq, Prod.mk.injEq] at H
                    obtain ⟨rfl, rfl, rfl⟩ := H
                    go_wp2
                    go_ret
                    exact ⟨_, rfl, rfl, Kd.V_nil _ _ _ _ _⟩
                  · rw [if_neg c11] at H
                    have c11b0 : (rd l0 x14_1 == 0) = false := beq_eq_false_iff_ne.mpr c11
                    by_cases c12 : n' > a1
                    · rw [if_pos c12] at H
                      have c12b0 : decide (a1 < n') = true := decide_eq_true c12
                      simp only [Option.some.injEq, Prod.mk.injEq] at H
                      obtain ⟨rfl, rfl, rfl⟩ := H
                      go_wp2
                      go_ret
                      exact ⟨_, rfl, rfl, Kd.V_nil _ _ _ _ _⟩
                    · rw [if_neg c12] at H
                      have c12b0 : decide (a1 < n') = false := decide_eq_false c12
                      have hlo : wrap64 (x14_1 + 1) = x14_1 + 1 := by have := hc4.out; have := hc5.out; have := of_decide_eq_true c3b0; unfold wrap64; omega
                      replace hlo := Aside0.mk hlo
                      obtain ⟨ji9, hji9⟩ : ∃ j_ : Int, (wrap64 (x14_1 + 1)) = j_ := ⟨_, rfl⟩
                      have hj9 := Aside0.mk (hji9.symm.trans hlo.out)
                      rw [hji9, if_pos (by have := hj9.out; have := hc4.out; omega), if_pos (by have := hj9.out; have := hc5.out; omega)] at H
                      have hji9w : (IntKind.i64.wrap (x14_1 + 1)) = ji9 := (i64_w _).trans hji9
                      simp only [Option.some.injEq, Prod.mk.injEq] at H
                      obtain ⟨h1_, h2_, h3_⟩ := H
                      replace h1_ := Aside0.mk h1_
                      replace h2_ := Aside0.mk h2_
                      replace h3_ := Aside0.mk h3_
                      obtain ⟨i06, hi06, _, hsz6, _⟩ := info_parts info5
                      have p9 : (0 ≤ (ji9 : Int)) = True := eq_true (by have := hj9.out; have := hc4.out; omega)
                      have q9 : (ji9 ≤ (l0.length : Int)) = True := eq_true (by have := hj9.out; have := hc5.out; omega)
                      obtain ⟨A6, hA6⟩ : ∃ A1, A1 = (if c0 = ji9.toNat then (some ad173 : Option Addr) else (some ad173 : Option Addr).map (·.add (ji9.toNat * 1))) := ⟨_, rfl⟩
                      have hcut6 := cut_from (P := Try.prog) 40 5 .i64 Try.underlying40 hi06 1 hsz6 (some ad173) l0.length c0 ji9 (of_eq_true p9) (of_eq_true q9)
                      rw [← hA6] at hcut6
                      replace hA6 := Aside0.mk hA6
                      go_wp2
                      go_ret
                      obtain rfl := h1_.out
                      obtain rfl := h2_.out
                      obtain rfl := h3_.out
                      have hlen : (l0.drop ji9.toNat).length = l0.length - ji9.toNat := List.length_drop
                      have hF := Kd.F_cut (m := ji9.toNat) (c := c0) (Kd.V_at HV0.out).2.2 (by have := of_eq_true p9; have := of_eq_true q9; omega) HC0.out
                      refine ⟨.slice A6 (l0.length - ji9.toNat) (c0 - ji9.toNat), rfl, ?_, by rw [← hlen, hA6.out]; exact Kd.V_mk (by have := HC0.out; omega) hF⟩
                      exact (setCell_self (blk_put (cs' := #[.slice A6 (l0.length - ji9.toNat) (c0 - ji9.toNat), .bool b0]) BK.out 0 _ rfl) 1 (.bool b0) rfl).symm
                · rw [if_neg c10] at H
                  have c10b0 : decide (0 < x14_1) = false := decide_eq_false c10
                  by_cases c12 : n' > a1
                  · rw [if_pos c12] at H
                    have c12b0 : decide (a1 < n') = true := decide_eq_true c12
                    simp only [Option.some.injEq, Prod.mk.injEq] at H
                    obtain ⟨rfl, rfl, rfl⟩ := H
                    go_wp2
                    go_ret
                    exact ⟨_, rfl, rfl, Kd.V_nil _ _ _ _ _⟩
                  · rw [if_neg c12] at H
                    have c12b0 : decide (a1 < n') = false := decide_eq_false c12
                    have hlo : wrap64 (x14_1 + 1) = x14_1 + 1 := by have := hc4.out; have := hc5.out; have := of_decide_eq_true c3b0; unfold wrap64; omega
                    replace hlo := Aside0.mk hlo
                    obtain ⟨ji9, hji9⟩ : ∃ j_ : Int, (wrap64 (x14_1 + 1)) = j_ := ⟨_, rfl⟩
                    have hj9 := Aside0.mk (hji9.symm.trans hlo.out)
                    rw [hji9, if_pos (by have := hj9.out; have := hc4.out; omega), if_pos (by have := hj9.out; have := hc5.out; omega)] at H
                    have hji9w : (IntKind.i64.wrap (x14_1 + 1)) = ji9 := (i64_w _).trans hji9
                    simp only [Option.some.injEq, Prod.mk.injEq] at H
                    obtain ⟨h1_, h2_, h3_⟩ := H
                    replace h1_ := Aside0.mk h1_
                    replace h2_ := Aside0.mk h2_
                    replace h3_ := Aside0.mk h3_
                    obtain ⟨i06, hi06, _, hsz6, _⟩ := info_parts info5
                    have p9 : (0 ≤ (ji9 : Int)) = True := eq_true (by have := hj9.out; have := hc4.out; omega)
                    have q9 : (ji9 ≤ (l0.length : Int)) = True := eq_true (by have := hj9.out; have := hc5.out; omega)
                    obtain ⟨A6, hA6⟩ : ∃ A1, A1 = (if c0 = ji9.toNat then (some ad173 : Option Addr) else (some ad173 : Option Addr).map (·.add (ji9.toNat * 1))) := ⟨_, rfl⟩
                    have hcut6 := cut_from (P := Try.prog) 40 5 .i64 Try.underlying40 hi06 1 hsz6 (some ad173) l0.length c0 ji9 (of_eq_true p9) (of_eq_true q9)
                    rw [← hA6] at hcut6
                    replace hA6 := Aside0.mk hA6
                    go_wp2
                    go_ret
                    obtain rfl := h1_.out
                    obtain rfl := h2_.out
                    obtain rfl := h3_.out
                    have hlen : (l0.drop ji9.toNat).length = l0.length - ji9.toNat := List.length_drop
                    have hF := Kd.F_cut (m := ji9.toNat) (c := c0) (Kd.V_at HV0.out).2.2 (by have := of_eq_true p9; have := of_eq_true q9; omega) HC0.out
                    refine ⟨.slice A6 (l0.length - ji9.toNat) (c0 - ji9.toNat), rfl, ?_, by rw [← hlen, hA6.out]; exact Kd.V_mk (by have := HC0.out; omega) hF⟩
                    exact (setCell_self (blk_put (cs' := #[.slice A6 (l0.length - ji9.toNat) (c0 - ji9.toNat), .bool b0]) BK.out 0 _ rfl) 1 (.bool b0) rfl).symm
            · rw [if_neg c7] at H
              exact absurd H (by simp)
          · rw [if_neg c5] at H
            exact absurd H (by simp)
        · rw [if_neg c4] at H
          exact absurd H (by simp)
      · rw [if_neg c3] at H
        have c3b0 : decide (x14_1 < ji2) = false := decide_eq_false c3
        simp only [Option.some.injEq, Prod.mk.injEq] at H
        obtain ⟨rfl, rfl, rfl⟩ := H
        go_wp2
        go_ret
        exact ⟨_, rfl, rfl, Kd.V_nil _ _ _ _ _⟩

end Go.Proofs.Ytbnjhmcbkocdjaa.PAll
