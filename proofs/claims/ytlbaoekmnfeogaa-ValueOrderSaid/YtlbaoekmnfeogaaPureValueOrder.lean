/- The law ValueOrder, of values alone: of two right values of one kind they are equal or not, numbers and texts just one of less, equal, greater, and each comparison is another's opposite. -/
import Derived.Test.YtlbaoekmnfeogaaPAllx18
import Derived.Test.YtlbaoekmnfeogaaPAllx32
import Derived.Test.YtlbaoekmnfeogaaVal2
namespace Go.Proofs.Ytlbaoekmnfeogaa.Pure
open Go.RowKit Go.Proofs.Ytlbaoekmnfeogaa.PAll Go.Proofs.YtlbaoekmnfeogaaW.PrintWords Go.Proofs.YtlbaoekmnfeogaaW.PrintLast
theorem head_ok : augurylaw04_head.f 20 = some true := by kernel_rfl
theorem bl_asymm : ∀ x y : List UInt8, Op.bytesLess x y = true → Op.bytesLess y x = false
  | [], [], h => by simp [Op.bytesLess] at h
  | [], _ :: _, _ => rfl
  | _ :: _, [], h => by simp [Op.bytesLess] at h
  | a :: x, b :: y, h => by
    simp only [Op.bytesLess, Bool.or_eq_true, decide_eq_true_eq, Bool.and_eq_true, beq_iff_eq] at h
    rcases h with h | ⟨rfl, h⟩
    · have h1 : ¬ b < a := fun q => absurd (UInt8.lt_trans h q) (UInt8.lt_irrefl _)
      have h2 : ¬ b = a := fun q => by subst q; exact absurd h (UInt8.lt_irrefl _)
      simp [Op.bytesLess, h1, h2]
    · simp [Op.bytesLess, bl_asymm x y h]
theorem bl_total : ∀ x y : List UInt8, Op.bytesLess x y = false → Op.bytesLess y x = false → x = y
  | [], [], _, _ => rfl
  | [], _ :: _, h, _ => by simp [Op.bytesLess] at h
  | _ :: _, [], _, h => by simp [Op.bytesLess] at h
  | a :: x, b :: y, h, g => by
    simp only [Op.bytesLess, Bool.or_eq_false_iff, decide_eq_false_iff_not, Bool.and_eq_false_iff, beq_eq_false_iff_ne, ne_eq] at h g
    have e : a = b := UInt8.le_antisymm (UInt8.not_lt.1 g.1) (UInt8.not_lt.1 h.1)
    subst e
    have h2 := h.2.resolve_left (fun q => q rfl)
    have g2 := g.2.resolve_left (fun q => q rfl)
    rw [bl_total x y h2 g2]
/-- What is less the other way about. -/
theorem less_flip (n1 : Int) (s1 : ByteArray) (n2 : Int) (s2 : ByteArray) : lessS n2 s2 n1 s1 = (!lessS n1 s1 n2 s2 && !sameS n1 s1 n2 s2) := by
  unfold lessS sameS
  rcases Int.lt_trichotomy n1 n2 with h | h | h
  · simp [h, show ¬ n2 < n1 by omega, show ¬ n2 = n1 by omega]
  · subst h
    simp only [Int.lt_irrefl, decide_false, Bool.false_or, decide_true, Bool.true_and]
    cases a : Op.bytesLess s1.toList s2.toList with
    | true => rw [bl_asymm _ _ a]; rfl
    | false =>
      cases b : Op.bytesLess s2.toList s1.toList with
      | true =>
        have : ¬ s1.toList = s2.toList := fun e => by rw [e, bl_irrefl] at b; cases b
        simp [this]
      | false => simp [bl_total _ _ a b]
  · simp [h, show ¬ n1 < n2 by omega, show ¬ n1 = n2 by omega]
theorem w_one : wrap64 (0 + 1) = 1 := by decide +kernel
theorem w_one' : wrap64 1 = 1 := by decide +kernel
theorem w_two : wrap64 2 = 2 := by decide +kernel
theorem w_two' : wrap64 (1 + 1) = 2 := by decide +kernel
theorem order_j0 (k1 n1 : Int) (s1 : ByteArray) (k2 n2 : Int) (s2 : ByteArray) (o1 : okVal k1 n1 s1 = true) (o2 : okVal k2 n2 s2 = true) : augurylaw04_ValueOrder.j0 20 true false k1 n1 s1 k2 n2 s2 = some true := by
  have hc : ∀ op, 1 ≤ op → op ≤ 6 → cmpS op k1 n1 s1 k2 n2 s2 = if k1 = k2 ∧ ¬ (k1 = 3 ∧ op > 2) then (cmpB op (lessS n1 s1 n2 s2) (sameS n1 s1 n2 s2), 0) else (false, 42) := by
    intro op a b
    unfold cmpS
    rw [if_pos ⟨o1, o2, a, b⟩]
  have hc2 : cmpS 5 k2 n2 s2 k1 n1 s1 = if k2 = k1 ∧ ¬ (k2 = 3 ∧ (5 : Int) > 2) then (cmpB 5 (lessS n2 s2 n1 s1) (sameS n2 s2 n1 s1), 0) else (false, 42) := by
    unfold cmpS
    rw [if_pos ⟨o2, o1, by decide, by decide⟩]
  simp only [augurylaw04_ValueOrder.j0, Bool.false_eq_true, if_false, compare_val_eq, Option.bind_some, hc 1 (by decide) (by decide), hc 2 (by decide) (by decide), hc 3 (by decide) (by decide), hc 4 (by decide) (by decide), hc 5 (by decide) (by decide), hc 6 (by decide) (by decide), hc2]
  by_cases e : k1 = k2
  · subst e
    have hs : sameS n2 s2 n1 s1 = sameS n1 s1 n2 s2 := by
      unfold sameS
      rw [show decide (n2 = n1) = decide (n1 = n2) by simp [eq_comm], show (s2.toList == s1.toList) = (s1.toList == s2.toList) from Bool.eq_iff_iff.2 ⟨fun h => beq_iff_eq.2 (beq_iff_eq.1 h).symm, fun h => beq_iff_eq.2 (beq_iff_eq.1 h).symm⟩]
    rw [less_flip n1 s1 n2 s2, hs]
    have hls := less_same n1 s1 n2 s2
    have heq : (k1 == k1 && (n1 == n2 && (s1.toList == s2.toList))) = sameS n1 s1 n2 s2 := by
      unfold sameS
      rw [beq_self_eq_true, Bool.true_and]
      rfl
    rw [heq]
    generalize lessS n1 s1 n2 s2 = L at *
    generalize sameS n1 s1 n2 s2 = M at *
    by_cases b : k1 = 3
    · subst b
      cases L <;> cases M <;> first | exact absurd ⟨rfl, rfl⟩ hls | simp [cmpB, augurylaw04_ValueOrder.j1]
    · cases L <;> cases M <;> first | exact absurd ⟨rfl, rfl⟩ hls | simp [cmpB, augurylaw04_ValueOrder.j1, augurylaw04_ValueOrder.j2, b, w_one']
  · simp [e]
theorem order_j0' (k1 n1 : Int) (s1 : ByteArray) (k2 n2 : Int) (s2 : ByteArray) : augurylaw04_ValueOrder.j0 20 true true k1 n1 s1 k2 n2 s2 = some true := by
  simp only [augurylaw04_ValueOrder.j0, if_true]
theorem ValueOrder : augurylaw04_ValueOrder.Pure := by
  intro x y _ _
  refine ⟨20, ?_⟩
  unfold augurylaw04_ValueOrder.f
  rw [head_ok]
  simp only [Option.bind_some, right_ok]
  split
  · exact order_j0' _ _ _ _ _ _
  split
  · exact order_j0' _ _ _ _ _ _
  cases o1 : okVal x.f0 x.f1 x.f2 with
  | false => simpa using order_j0' _ _ _ _ _ _
  | true =>
    simp only [if_true]
    cases o2 : okVal y.f0 y.f1 y.f2 with
    | false => exact order_j0' _ _ _ _ _ _
    | true => exact order_j0 _ _ _ _ _ _ o1 o2
end Go.Proofs.Ytlbaoekmnfeogaa.Pure
