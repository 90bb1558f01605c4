/- The document's Cut is one walk over the frames: cutS. -/
import Derived.Test.YtkljljjmphneiaaPAllx25
import Derived.Test.YtkljljjmphneiaaFrCut
namespace Go.Proofs.Ytkljljjmphneiaa.Pure
open Go.RowKit Go.Proofs.Ytkljljjmphneiaa.PAll Go.Proofs.YtkljljjmphneiaaW.PrintWords Go.Proofs.YtkljljjmphneiaaW.PrintLast
theorem strOfNums_size (l : List Int) : (strOfNums l).size = l.length := by
  simp [strOfNums, ByteArray.size]
theorem recAt_size (b : List Int) (p m : Nat) (h : p + 5 + m ≤ b.length) : (recAt b p m).size = m := by
  unfold recAt
  rw [strOfNums_size, List.length_drop, List.length_take]
  omega
theorem mul_two (a c : Nat) (ha : a < 256) (hc : c < 256) : wrap64 (wrap64 (wrap64 (a : Int) * 256) + wrap64 (c : Int)) = ((256 * a + c : Nat) : Int) := by
  rw [wrapN (n := (a : Int)) (by omega) (by omega), wrapN (n := (c : Int)) (by omega) (by omega), wrapN (n := (a : Int) * 256) (by omega) (by omega), wrapN (by omega) (by omega)]
  omega
theorem ref_j2_yes (k : Nat) (b : List Int) (acc : List ByteArray) (p n : Int) : auguryref02_Cut.j2 (k + 1) b acc p n true = some (acc, p) := by
  simp [auguryref02_Cut.j2]
theorem ref_j1_no (k : Nat) (b : List Int) (acc : List ByteArray) (p : Int) : auguryref02_Cut.j1 (k + 1) b acc p false = some (acc, p) := by
  simp [auguryref02_Cut.j1]
theorem ref_j2 (b : List Int) (hb : Bytes b) (hl : b.length < 1000000) (k p m : Nat) (acc : List ByteArray) (ha : acc.length ≤ p) (hm : m ≤ 4096) (hp : p + 5 + m ≤ b.length) (hk : 5000 < k) :
    auguryref02_Cut.j2 (k + 1) b acc (p : Int) (m : Int) false = if sumS (recAt b p m) = (two b (p + 3) : Int) then auguryref02_Cut.l0 k b (acc ++ [recAt b p m]) ((p + 5 + m : Nat) : Int) else some (acc, (p : Int)) := by
  obtain ⟨v3, hv3, e3⟩ := rd_byte hb ((p : Int) + 3)
  obtain ⟨v4, hv4, e4⟩ := rd_byte hb ((p : Int) + 4)
  have t3 : two b (p + 3) = 256 * v3 + v4 := by
    unfold two
    rw [show ((p + 3 : Nat) : Int) = (p : Int) + 3 by omega, show (p : Int) + 3 + 1 = (p : Int) + 4 by omega, e3, e4]
    omega
  unfold auguryref02_Cut.j2
  rw [if_neg (by simp), wrapN (n := (p : Int) + 5) (by omega) (by omega), wrapN (n := (p : Int) + 5 + (m : Int)) (by omega) (by omega), wrapN (n := (p : Int) + 3) (by omega) (by omega), wrapN (n := (p : Int) + 4) (by omega) (by omega), e3, e4, mul_two v3 v4 hv3 hv4, t3]
  rw [if_pos (by omega), if_pos (by omega), if_pos (by omega), show ((p : Int) + 5 + (m : Int)).toNat = p + 5 + m by omega, show ((p : Int) + 5).toNat = p + 5 by omega]
  have hz := recAt_size b p m hp
  have h2 : (2 : Nat) ^ 40 = 1099511627776 := by decide
  rw [show strOfNums ((b.take (p + 5 + m)).drop (p + 5)) = recAt b p m from rfl, ref_sum (recAt b p m) (by omega) (by omega), Option.bind_some]
  rw [if_pos (by omega), if_pos (by omega), if_pos (by omega), if_pos (by omega), if_pos (show acc.length < 8796093022208 by omega), show (p : Int) + 5 + (m : Int) = ((p + 5 + m : Nat) : Int) by omega]
theorem ref_cut (b : List Int) (hb : Bytes b) (hl : b.length < 1000000) : ∀ (n p : Nat) (acc : List ByteArray) (k : Nat), b.length < p + n → p ≤ b.length → acc.length ≤ p → 3 * n + 5000 < k →
    auguryref02_Cut.l0 k b acc (p : Int) = some (cutS b n p acc) := by
  intro n
  induction n with
  | zero => intro p acc k h1 h3; omega
  | succ n ih =>
    intro p acc k h1 hp ha hk
    obtain ⟨k, rfl⟩ : ∃ m, k = m + 3 := ⟨k - 3, by omega⟩
    unfold auguryref02_Cut.l0 cutS
    rw [wrapN (n := (b.length : Int) - (p : Int)) (by omega) (by omega)]
    by_cases c1 : b.length < p + 5
    · rw [if_neg (by omega), if_pos (Or.inl c1)]
      exact ref_j1_no (k + 1) b acc p
    rw [if_pos (by omega), if_pos (by omega), if_pos (by omega)]
    by_cases c2 : rd b (p : Int) = 82
    case neg =>
      rw [if_pos (Or.inr c2), show (rd b (p : Int) == 82) = false by simpa using c2]
      exact ref_j1_no (k + 1) b acc p
    rw [if_neg (fun h => h.elim c1 (fun h => h c2)), show (rd b (p : Int) == 82) = true by simpa using c2]
    obtain ⟨v1, hv1, e1⟩ := rd_byte hb ((p : Int) + 1)
    obtain ⟨v2, hv2, e2⟩ := rd_byte hb ((p : Int) + 2)
    have t1 : two b (p + 1) = 256 * v1 + v2 := by
      unfold two
      rw [show ((p + 1 : Nat) : Int) = (p : Int) + 1 by omega, show (p : Int) + 1 + 1 = (p : Int) + 2 by omega, e1, e2]
      omega
    unfold auguryref02_Cut.j1
    rw [if_pos rfl, wrapN (n := (p : Int) + 1) (by omega) (by omega), wrapN (n := (p : Int) + 2) (by omega) (by omega), e1, e2, mul_two v1 v2 hv1 hv2, ← t1]
    rw [if_pos (by omega), if_pos (by omega), if_pos (by omega), if_pos (by omega)]
    by_cases c3 : 4096 < two b (p + 1)
    · rw [if_pos (by omega), if_pos (Or.inl c3)]
      exact ref_j2_yes k b acc p _
    rw [if_neg (by omega), wrapN (n := (b.length : Int) - (p : Int)) (by omega) (by omega), wrapN (n := (b.length : Int) - (p : Int) - 5) (by omega) (by omega)]
    by_cases c4 : b.length < p + 5 + two b (p + 1)
    · rw [if_pos (Or.inr c4), decide_eq_true (by omega)]
      exact ref_j2_yes k b acc p _
    rw [if_neg (fun h => h.elim c3 c4), decide_eq_false (by omega), ref_j2 b hb hl k p _ acc ha (by omega) (by omega) (by omega)]
    by_cases c5 : sumS (recAt b p (two b (p + 1))) = (two b (p + 3) : Int)
    · rw [if_pos c5, if_pos c5]
      exact ih _ _ k (by omega) (by omega) (by rw [List.length_append, List.length_singleton]; omega) (by omega)
    · rw [if_neg c5, if_neg c5]
end Go.Proofs.Ytkljljjmphneiaa.Pure
