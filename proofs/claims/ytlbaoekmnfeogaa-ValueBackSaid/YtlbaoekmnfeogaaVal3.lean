/- Values, third part: the document's comparison. -/
import Derived.Test.YtlbaoekmnfeogaaPAllx24
import Derived.Test.YtlbaoekmnfeogaaVal2
namespace Go.Proofs.Ytlbaoekmnfeogaa.PAll
open Go.RowKit Go.Proofs.YtlbaoekmnfeogaaW.PrintWords Go.Proofs.YtlbaoekmnfeogaaW.PrintLast Go.Proofs.YtlbaoekmnfeogaaW.PrintMore
set_option linter.unusedVariables false
set_option linter.unusedSimpArgs false
theorem ref_j3 (k : Nat) (op : Int) (h1 : 1 ≤ op) (h2 : op ≤ 6) (less same : Bool) : auguryref04_Compare.j3 (k + 1) op less same = some (cmpB op less same, 0) := by
  have : op = 1 ∨ op = 2 ∨ op = 3 ∨ op = 4 ∨ op = 5 ∨ op = 6 := by omega
  rcases this with rfl | rfl | rfl | rfl | rfl | rfl <;> cases less <;> cases same <;> rfl
theorem ref_j2 (k : Nat) (op : Int) (h1 : 1 ≤ op) (h2 : op ≤ 6) (less : Bool) (k1 n1 : Int) (s1 : ByteArray) (k2 n2 : Int) (s2 : ByteArray) : auguryref04_Compare.j2 (k + 2) op less k1 n1 s1 k2 n2 s2 = some (cmpB op less (sameS n1 s1 n2 s2), 0) := by
  simp only [auguryref04_Compare.j2]
  unfold sameS
  by_cases h : n1 = n2
  · rw [if_pos h, ref_j3 k op h1 h2, decide_eq_true h, Bool.true_and]
  · rw [if_neg h, ref_j3 k op h1 h2, decide_eq_false h, Bool.false_and]
theorem ref_j1 (k : Nat) (op : Int) (h1 : 1 ≤ op) (h2 : op ≤ 6) (k1 n1 : Int) (s1 : ByteArray) (k2 n2 : Int) (s2 : ByteArray) : auguryref04_Compare.j1 (k + 3) op false k1 n1 s1 k2 n2 s2 = some (cmpB op (lessS n1 s1 n2 s2) (sameS n1 s1 n2 s2), 0) := by
  simp only [auguryref04_Compare.j1, Bool.false_eq_true, if_false]
  unfold lessS
  by_cases h : n1 < n2
  · rw [if_pos h, ref_j2 k op h1 h2, decide_eq_true h, Bool.true_or]
  · rw [if_neg h, decide_eq_false h, Bool.false_or]
    by_cases g : n1 = n2
    · rw [if_pos g, ref_j2 k op h1 h2, decide_eq_true g, Bool.true_and]
    · rw [if_neg g, ref_j2 k op h1 h2, decide_eq_false g, Bool.false_and]
theorem ref_compare_eq (k : Nat) (hk : 4 < k) (op k1 n1 : Int) (s1 : ByteArray) (k2 n2 : Int) (s2 : ByteArray) : auguryref04_Compare.f k op k1 n1 s1 k2 n2 s2 = some (cmpS op k1 n1 s1 k2 n2 s2) := by
  obtain ⟨k, rfl⟩ : ∃ m, k = m + 4 := ⟨k - 4, by omega⟩
  unfold auguryref04_Compare.f cmpS
  rw [ref_right_ok, ref_right_ok]
  simp only [Option.bind_some]
  cases c1 : okVal k1 n1 s1 with
  | false => simp [auguryref04_Compare.j0]
  | true =>
    cases c2 : okVal k2 n2 s2 with
    | false => simp [auguryref04_Compare.j0]
    | true =>
      simp only [if_true, true_and]
      by_cases o1 : op < 1
      · rw [if_pos o1, if_neg (by omega)]; simp [auguryref04_Compare.j0]
      rw [if_neg o1]
      by_cases o2 : op > 6
      · rw [decide_eq_true o2, if_neg (by omega)]; simp [auguryref04_Compare.j0]
      rw [decide_eq_false o2, if_pos (show 1 ≤ op ∧ op ≤ 6 by omega)]
      simp only [auguryref04_Compare.j0, Bool.false_eq_true, if_false]
      by_cases e : k1 = k2
      · rw [if_pos e]
        by_cases b : k1 = 3
        · rw [if_pos b]
          by_cases q : op = 1
          · rw [if_pos q, ref_j1 k op (by omega) (by omega), if_pos ⟨e, by omega⟩]
          · rw [if_neg q]
            by_cases q2 : op = 2
            · rw [show (op != 2) = false by simp [q2], ref_j1 k op (by omega) (by omega), if_pos ⟨e, by omega⟩]
            · rw [show (op != 2) = true by simp [q2], if_neg (by omega)]; simp [auguryref04_Compare.j1]
        · rw [if_neg b, ref_j1 k op (by omega) (by omega), if_pos ⟨e, by omega⟩]
      · rw [if_neg e, if_neg (by omega)]; simp [auguryref04_Compare.j1]
end Go.Proofs.Ytlbaoekmnfeogaa.PAll
