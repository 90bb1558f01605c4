/- The law EventOrder, of values alone: which of two events is ahead is an order of times, depths and numbers. -/
import Derived.Test.YtbnjhmcbkocdjaaPAllx30
import Derived.Test.YtbnjhmcbkocdjaaPAllx31
import Derived.Test.YtbnjhmcbkocdjaaPAllx32
import Derived.Test.YtbnjhmcbkocdjaaPAllx34
import Derived.Test.YtbnjhmcbkocdjaaPAllx53
import Derived.Test.YtbnjhmcbkocdjaaEv1
namespace Go.Proofs.Ytbnjhmcbkocdjaa.Pure
open Go.Proofs.Ytbnjhmcbkocdjaa.PAll
open Go.RowKit Go.Proofs.YtbnjhmcbkocdjaaW.PrintWords Go.Proofs.YtbnjhmcbkocdjaaW.PrintLast Go.Proofs.YtbnjhmcbkocdjaaW.PrintMore
set_option linter.unusedVariables false
set_option linter.unusedSimpArgs false
theorem less_self (a0 a1 a2 : Int) : lessE a0 a1 a2 a0 a1 a2 = false := by simp [lessE]
theorem less_asymm {a0 a1 a2 b0 b1 b2 : Int} (h : lessE a0 a1 a2 b0 b1 b2 = true) : lessE b0 b1 b2 a0 a1 a2 = false := by
  unfold lessE at *
  grind
theorem less_trans {a0 a1 a2 b0 b1 b2 c0 c1 c2 : Int} (h : lessE a0 a1 a2 b0 b1 b2 = true) (g : lessE b0 b1 b2 c0 c1 c2 = true) : lessE a0 a1 a2 c0 c1 c2 = true := by
  unfold lessE at *
  grind
theorem less_other {a0 a1 a2 b0 b1 b2 : Int} (h : lessE a0 a1 a2 b0 b1 b2 = false) (hn : ¬ (a0 = b0 ∧ a1 = b1 ∧ a2 = b2)) : lessE b0 b1 b2 a0 a1 a2 = true := by
  unfold lessE at *
  grind
theorem less_same {a0 a1 a2 b0 b1 b2 : Int} (h : lessE a0 a1 a2 b0 b1 b2 = true) : ¬ (a0 = b0 ∧ a1 = b1 ∧ a2 = b2) := by
  unfold lessE at *
  grind
theorem order_j1 (k : Nat) (al : Bool) (a0 a1 a2 : Int) (a3 : ByteArray) (a4 : List S52) (b0 b1 b2 : Int) (b3 : ByteArray) (b4 : List S52) (c0 c1 c2 : Int) (c3 : ByteArray) (c4 : List S52) (hal : al = decide (a0 = b0 ∧ a1 = b1 ∧ a2 = b2)) :
    augurylaw05_EventOrder.j1 (k + 2) true (lessE a0 a1 a2 b0 b1 b2) (lessE b0 b1 b2 c0 c1 c2) al a0 a1 a2 a3 a4 b0 b1 b2 b3 b4 c0 c1 c2 c3 c4 = some true := by
  unfold augurylaw05_EventOrder.j1
  simp only [less_eq, Option.bind_some, less_self, if_true, Bool.false_eq_true, if_false]
  cases hx : lessE a0 a1 a2 b0 b1 b2 with
  | true =>
    have hn : al = false := by rw [hal]; exact decide_eq_false (less_same hx)
    rw [if_pos rfl, if_neg (by rw [less_asymm hx]; decide)]
    cases hy : lessE b0 b1 b2 c0 c1 c2 with
    | true => simp [less_trans hx hy, hn]
    | false => simp [hn]
  | false =>
    rw [if_neg (by decide)]
    by_cases e : a0 = b0 ∧ a1 = b1 ∧ a2 = b2
    · obtain ⟨rfl, rfl, rfl⟩ := e
      have : al = true := by rw [hal]; simp
      simp [this, less_self]
    · have : al = false := by rw [hal]; exact decide_eq_false e
      simp [this, less_other hx e]
theorem order_j0 (k : Nat) (g : Bool) (a0 a1 a2 : Int) (a3 : ByteArray) (a4 : List S52) (b0 b1 b2 : Int) (b3 : ByteArray) (b4 : List S52) (c0 c1 c2 : Int) (c3 : ByteArray) (c4 : List S52) :
    augurylaw05_EventOrder.j0 (k + 3) true g a0 a1 a2 a3 a4 b0 b1 b2 b3 b4 c0 c1 c2 c3 c4 = some true := by
  unfold augurylaw05_EventOrder.j0
  cases g with
  | true => simp
  | false =>
    simp only [Bool.false_eq_true, if_false, less_eq, Option.bind_some]
    by_cases h0 : a0 = b0
    · rw [if_pos h0]
      by_cases h1 : a1 = b1
      · rw [if_pos h1]
        exact order_j1 k _ _ _ _ _ _ _ _ _ _ _ _ _ _ _ _ (by rw [Bool.eq_iff_iff]; simp [h0, h1])
      · rw [if_neg h1]
        exact order_j1 k _ _ _ _ _ _ _ _ _ _ _ _ _ _ _ _ (by simp [h1])
    · rw [if_neg h0]
      exact order_j1 k _ _ _ _ _ _ _ _ _ _ _ _ _ _ _ _ (by simp [h0])
theorem EventOrder : augurylaw05_EventOrder.Pure := by
  intro x y z hx hy hz
  obtain ⟨bx, gx⟩ := great_ex x.f0 x.f1 x.f2 x.f3 x.f4 (ok_len hx)
  obtain ⟨by_, gy⟩ := great_ex y.f0 y.f1 y.f2 y.f3 y.f4 (ok_len hy)
  obtain ⟨bz, gz⟩ := great_ex z.f0 z.f1 z.f2 z.f3 z.f4 (ok_len hz)
  refine ⟨x.f4.length + y.f4.length + z.f4.length + 40 + 3, ?_⟩
  unfold augurylaw05_EventOrder.f
  rw [leO_ge augurylaw05_head.mono head_ok (by omega), Option.bind_some, gx _ (by omega), Option.bind_some, gy _ (by omega), Option.bind_some, gz _ (by omega), Option.bind_some]
  split
  · exact order_j0 _ _ _ _ _ _ _ _ _ _ _ _ _ _ _ _ _
  · split
    · exact order_j0 _ _ _ _ _ _ _ _ _ _ _ _ _ _ _ _ _
    · exact order_j0 _ _ _ _ _ _ _ _ _ _ _ _ _ _ _ _ _
end Go.Proofs.Ytbnjhmcbkocdjaa.Pure
