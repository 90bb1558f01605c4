/- The law ValueSums, of numbers alone: of two numbers the sum less either is the other, in either order it is one, and what is less itself is 0; for every two int64. -/
import Derived.Test.YtlbaoekmnfeogaaPAllx18
import Derived.Test.YtlbaoekmnfeogaaPAllx33
import Derived.Test.YtlbaoekmnfeogaaVal2
namespace Go.Proofs.Ytlbaoekmnfeogaa.Pure
open Go.RowKit Go.Proofs.Ytlbaoekmnfeogaa.PAll Go.Proofs.YtlbaoekmnfeogaaW.PrintWords Go.Proofs.YtlbaoekmnfeogaaW.PrintLast
theorem head_ok : augurylaw04_head.f 20 = some true := by kernel_rfl
theorem rec_ok {a b m : Int} (ha : -1099511627776 ≤ a ∧ a ≤ 1099511627776) (hb : -1099511627776 ≤ b ∧ b ≤ 1099511627776) (hm : -1099511627776 ≤ m ∧ m ≤ 1099511627776) : recS 1 a ⟨#[]⟩ 1 b ⟨#[]⟩ m = (1, m, ⟨#[]⟩, 0) := by
  have h : bothS 1 a ⟨#[]⟩ 1 b ⟨#[]⟩ = 0 := by unfold bothS; rw [if_pos ⟨ok_of_int ha, ok_of_int hb⟩]; rfl
  unfold recS
  rw [if_pos h, if_pos hm]
theorem rec_big {a b m : Int} (ha : -1099511627776 ≤ a ∧ a ≤ 1099511627776) (hb : -1099511627776 ≤ b ∧ b ≤ 1099511627776) (hm : ¬ (-1099511627776 ≤ m ∧ m ≤ 1099511627776)) : recS 1 a ⟨#[]⟩ 1 b ⟨#[]⟩ m = (0, 0, ⟨#[]⟩, 41) := by
  have h : bothS 1 a ⟨#[]⟩ 1 b ⟨#[]⟩ = 0 := by unfold bothS; rw [if_pos ⟨ok_of_int ha, ok_of_int hb⟩]; rfl
  unfold recS
  rw [if_pos h, if_neg hm]
theorem rec_bad {a b : Int} (h : ¬ ((-1099511627776 ≤ a ∧ a ≤ 1099511627776) ∧ (-1099511627776 ≤ b ∧ b ≤ 1099511627776))) (m : Int) : recS 1 a ⟨#[]⟩ 1 b ⟨#[]⟩ m = (0, 0, ⟨#[]⟩, 1) := by
  have h1 : bothS 1 a ⟨#[]⟩ 1 b ⟨#[]⟩ = 1 := by
    unfold bothS
    rw [if_neg]
    rintro ⟨x, y⟩
    have x1 := ok_int x
    have y1 := ok_int y
    exact h ⟨⟨x1.1, x1.2.1⟩, ⟨y1.1, y1.2.1⟩⟩
  unfold recS
  rw [h1]
  rfl
theorem ValueSums : augurylaw04_ValueSums.Pure := by
  intro a b ha hb
  refine ⟨20, ?_⟩
  unfold augurylaw04_ValueSums.f
  rw [head_ok]
  simp only [Option.bind_some, augurylaw04_num.f, add_eq 20 (by decide)]
  by_cases h : (-1099511627776 ≤ a ∧ a ≤ 1099511627776) ∧ (-1099511627776 ≤ b ∧ b ≤ 1099511627776)
  · obtain ⟨h1, h2⟩ := h
    by_cases g : -1099511627776 ≤ a + b ∧ a + b ≤ 1099511627776
    · rw [rec_ok h1 h2 g, rec_ok h2 h1 (by omega), Int.add_comm b a]
      simp only [beq_self_eq_true, Bool.not_true, Bool.or_false, Bool.false_eq_true, if_false, bne_self_eq_false, augurylaw04_ValueSums.j0, sub_eq 19 (by decide), Option.bind_some, augurylaw04_num.f, if_true]
      rw [rec_ok g h2 (by omega), rec_ok g h1 (by omega), rec_ok g g (by omega), show a + b - b = a by omega, show a + b - a = b by omega, show a + b - (a + b) = 0 by omega, wrap_in (n := a + b) (by omega) (by omega)]
      simp
    · rw [rec_big h1 h2 g, rec_big h2 h1 (by omega)]
      simp [augurylaw04_ValueSums.j0]
  · rw [rec_bad h, rec_bad (fun q => h q.symm)]
    simp [augurylaw04_ValueSums.j0]
end Go.Proofs.Ytlbaoekmnfeogaa.Pure
