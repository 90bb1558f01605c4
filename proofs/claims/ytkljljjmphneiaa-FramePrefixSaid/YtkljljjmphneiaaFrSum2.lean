/- frame.Sum and the document's sum give one number. -/
import Derived.Test.YtkljljjmphneiaaFrSum
import Derived.Laws.BitsLemmas
namespace Go.Proofs.Ytkljljjmphneiaa.Pure
open Go.RowKit Go.Proofs.Ytkljljjmphneiaa.PAll Go.Proofs.YtkljljjmphneiaaW.PrintWords Go.Proofs.YtkljljjmphneiaaW.PrintLast
theorem i64_in {n : Int} (h0 : 0 ≤ n) (h1 : n < 2 ^ 63) : IntKind.i64.wrap n = n := by
  have : (2 : Int) ^ 63 = 9223372036854775808 := by decide
  rw [i64_w]
  exact wrapN (by omega) (by omega)
theorem or_sum (a b : Nat) (ha : a < 251) (hb : b < 241) : Go.bits .or .i64 (a : Int) (wrap64 ((b : Int) * 256)) = (a : Int) + 256 * (b : Int) := by
  have h63 : (2 : Nat) ^ 63 = 9223372036854775808 := by decide
  rw [wrapN (by omega) (by omega), show (b : Int) * 256 = ((b * 256 : Nat) : Int) by omega]
  rw [(bits_nat .i64 63 (by decide) (fun n h0 h1 => i64_in h0 h1) a (b * 256) (by omega) (by omega)).2]
  have h8 : a < 2 ^ 8 := by omega
  rw [Nat.or_comm, Nat.mul_comm, show (256 : Nat) = 2 ^ 8 by decide, ← Nat.two_pow_add_eq_or_of_lt h8 b]
  omega
theorem ref_sum (s : ByteArray) (hs : s.size < 2 ^ 40) {k : Nat} (hk : s.size < k) : auguryref02_Sum.f k s = some (sumS s) := by
  have := ref_l0 s hs s.size 0 1 1 k rfl hk (by omega) (by omega)
  exact this
theorem frame_sum (s : ByteArray) (hs : s.size < 2 ^ 40) {k : Nat} (hk : s.size + 21 < k) : frame_Sum.f k s = some (sumS s) := by
  have := sum_l0 s hs s.size 0 1 1 k rfl hk (by omega) (by omega)
  unfold frame_Sum.f
  rw [← FN_one]
  refine Eq.trans this ?_
  have h := sumR_lt s s.size 0 1 1 (by omega) (by omega)
  rw [or_sum _ _ h.1 h.2]
  rfl
theorem sumS_range (s : ByteArray) : ∃ a b : Nat, a < 251 ∧ b < 241 ∧ sumS s = (a : Int) + 256 * (b : Int) :=
  ⟨_, _, (sumR_lt s s.size 0 1 1 (by omega) (by omega)).1, (sumR_lt s s.size 0 1 1 (by omega) (by omega)).2, rfl⟩
end Go.Proofs.Ytkljljjmphneiaa.Pure
