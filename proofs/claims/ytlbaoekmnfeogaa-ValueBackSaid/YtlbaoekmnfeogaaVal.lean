/- Values: the program's functions and the document's come to the same. -/
import Derived.Test.YtlbaoekmnfeogaaPAllx15
import Derived.Test.YtlbaoekmnfeogaaPAllx19
import Derived.Test.YtlbaoekmnfeogaaPAllx2
import Derived.Test.YtlbaoekmnfeogaaPAllx29
import Derived.Test.YtlbaoekmnfeogaaNum
namespace Go.Proofs.Ytlbaoekmnfeogaa.PAll
open Go.RowKit Go.Proofs.YtlbaoekmnfeogaaW.PrintWords Go.Proofs.YtlbaoekmnfeogaaW.PrintLast Go.Proofs.YtlbaoekmnfeogaaW.PrintMore
set_option linter.unusedVariables false
set_option linter.unusedSimpArgs false

theorem right_eq (k n : Int) (s : ByteArray) : value_Right.f k n s = auguryref04_Right.f k n s := by
  unfold value_Right.f auguryref04_Right.f
  by_cases h1 : k = 1
  · simp [h1]
  · by_cases h2 : k = 2
    · simp [h2]
    · by_cases h3 : k = 3 <;> simp [h1, h2, h3]
/-- May that be a value? -/
def okVal (k n : Int) (s : ByteArray) : Bool :=
  if k = 1 then decide (-1099511627776 ≤ n) && (decide (n ≤ 1099511627776) && (s.toList == ([] : List UInt8)))
  else if k = 2 then decide (n = 0) && decide ((s.size : Int) ≤ 64)
  else if k = 3 then decide (0 ≤ n) && (decide (n ≤ 1) && (s.toList == ([] : List UInt8))) else false
theorem right_ok (k n : Int) (s : ByteArray) : value_Right.f k n s = some (okVal k n s) := by
  unfold value_Right.f okVal
  by_cases h1 : k = 1
  · rw [if_pos h1, if_pos h1]
    by_cases a : n ≥ -1099511627776
    · rw [if_pos a, decide_eq_true (show -1099511627776 ≤ n from a), Bool.true_and]
      by_cases b : n ≤ 1099511627776
      · rw [if_pos b, decide_eq_true b, Bool.true_and]
      · rw [if_neg b, decide_eq_false b, Bool.false_and]
    · rw [if_neg a, decide_eq_false (show ¬ -1099511627776 ≤ n from a), Bool.false_and]
  · rw [if_neg h1, if_neg h1]
    by_cases h3 : k = 3
    · have h2 : ¬ k = 2 := by omega
      rw [if_pos h3, if_neg h2, if_pos h3]
      by_cases a : n ≥ 0
      · rw [if_pos a, decide_eq_true (show 0 ≤ n from a), Bool.true_and]
        by_cases b : n ≤ 1
        · rw [if_pos b, decide_eq_true b, Bool.true_and]
        · rw [if_neg b, decide_eq_false b, Bool.false_and]
      · rw [if_neg a, decide_eq_false (show ¬ 0 ≤ n from a), Bool.false_and]
    · rw [if_neg h3]
      by_cases h2 : k = 2
      · rw [if_pos h2, if_pos h2]
        by_cases a : n = 0
        · rw [if_pos a, decide_eq_true a, Bool.true_and]
        · rw [if_neg a, decide_eq_false a, Bool.false_and]
      · rw [if_neg h2, if_neg h2, if_neg h3]
theorem ref_right_ok (k n : Int) (s : ByteArray) : auguryref04_Right.f k n s = some (okVal k n s) := (right_eq k n s).symm.trans (right_ok k n s)

theorem i64_toNat (x : Int) : (BitVec.ofInt 64 x).toNat = (x % 18446744073709551616).toNat := by
  rw [BitVec.toNat_ofInt]
  rfl
theorem xor_zero (x : Int) (h0 : 0 ≤ x) (h1 : x < 4611686018427387904) : bits .xor .i64 x 0 = x := by
  have e : bits .xor .i64 x 0 = IntKind.i64.wrap ((BitVec.ofInt 64 x ^^^ BitVec.ofInt 64 0).toNat : Int) := rfl
  rw [e, show BitVec.ofInt 64 0 = 0#64 from rfl, BitVec.xor_zero, i64_toNat, IntKind.wrap_i64]
  omega
theorem xor_ones (x : Int) (h0 : 0 ≤ x) (h1 : x < 4611686018427387904) : bits .xor .i64 x (-1) = -x - 1 := by
  have e : bits .xor .i64 x (-1) = IntKind.i64.wrap ((BitVec.ofInt 64 x ^^^ BitVec.ofInt 64 (-1)).toNat : Int) := rfl
  rw [e, show BitVec.ofInt 64 (-1) = BitVec.allOnes 64 from rfl, BitVec.xor_allOnes, BitVec.toNat_not, i64_toNat, IntKind.wrap_i64]
  omega
theorem and_one (m : Int) (h0 : 0 ≤ m) (h1 : m < 2 ^ 63) : bits .and .u64 m 1 = m % 2 :=
  bits_mask .u64 63 (by decide) (fun n a b => u64_in a b) 1 (by decide) m h0 h1
/-- A number out of its digits' sum. -/
def zz (m : Int) : Int := if m % 2 = 1 then -(m / 2) - 1 else m / 2
theorem zz_eq (m : Int) (h0 : 0 ≤ m) (h1 : m < 562949953421312) : bits .xor .i64 (wrap64 (m / 2)) (wrap64 (-(wrap64 (bits .and .u64 m 1)))) = zz m := by
  rw [and_one m h0 (by omega), wrap_in (n := m / 2) (by omega) (by omega), wrap_in (n := m % 2) (by omega) (by omega)]
  unfold zz
  by_cases h : m % 2 = 1
  · rw [if_pos h, h, wrap_in (n := -1) (by omega) (by omega), xor_ones _ (by omega) (by omega)]
  · rw [if_neg h, show m % 2 = 0 by omega, show wrap64 (-0) = 0 from by unfold wrap64; omega]
    exact xor_zero _ (by omega) (by omega)

theorem get_eq (l : List Int) (hb : Bytes l) (hl : l.length ≤ 1000000) (k : Nat) (hk : 15 < k) : ∃ r, value_Get.f k l = some r ∧ auguryref04_Get.f k l = some r := by
  have h0 := rd_byte hb 0
  have h1 := rd_byte hb 1
  have w0 : wrap64 (rd l 0) = rd l 0 := wrap_in (by omega) (by omega)
  have w1 : wrap64 (rd l 1) = rd l 1 := wrap_in (by omega) (by omega)
  have w2 : wrap64 (2 + rd l 1) = 2 + rd l 1 := wrap_in (by omega) (by omega)
  have w3 : wrap64 ((l.length : Int) - 2) = (l.length : Int) - 2 := wrap_in (by omega) (by omega)
  have hd := bytes_drop hb 1
  have hld : (l.drop 1).length ≤ 140737488355328 := by rw [List.length_drop]; omega
  unfold value_Get.f auguryref04_Get.f
  simp only [w0, w1, w2, w3, right_ok, ref_right_ok, Option.bind_some]
  by_cases c1 : (l.length : Int) < 2
  · simp only [if_pos c1]; exact ⟨_, rfl, rfl⟩
  simp only [if_neg c1]
  rw [if_pos (show 0 < (l.length : Int) by omega), if_pos (show 0 < (l.length : Int) by omega)]
  by_cases c2 : rd l 0 = 1
  · simp only [if_pos c2]
    rw [if_pos (show 1 ≤ (l.length : Int) by omega), if_pos (show 1 ≤ (l.length : Int) by omega)]
    rw [value_number_eq _ hd hld k (by omega), ref_number_eq _ hd hld _ k hk]
    simp only [Option.bind_some]
    cases hg : numG (l.drop 1) 7 0 0 with
    | none => simp [numR]
    | some t =>
      obtain ⟨m, j, fl⟩ := t
      obtain ⟨b0, b1, b2, b3, _⟩ := numG_bound (l.drop 1) 7 0 0 (by omega) (by omega) (by omega) (by decide) m j fl hg
      simp only [Option.getD_some, numR]
      rw [zz_eq m b0 b1, wrap_in (n := 1 + j) (by omega) (by omega)]
      cases fl with
      | false =>
        simp only [Bool.false_eq_true, if_false]
        by_cases c3 : m > 2199023255552
        · simp [if_pos c3]
        · simp [if_neg c3]
      | true =>
        simp only [if_true]
        by_cases c3 : m > 2199023255552
        · simp only [if_pos c3, Bool.false_eq_true, if_false]
          have : okVal (rd l 0) (zz m) ⟨#[]⟩ = false := by
            rw [c2]
            unfold okVal zz
            rw [if_pos rfl]
            by_cases c4 : m % 2 = 1
            · rw [if_pos c4]; simp; omega
            · rw [if_neg c4]; simp; omega
          rw [this]
          exact ⟨_, rfl, rfl⟩
        · simp only [if_neg c3, if_true]
          have t2 : Int.tmod m 2 = m % 2 := Int.tmod_eq_emod_of_nonneg b0
          have t3 : Int.tdiv m 2 = m / 2 := Int.tdiv_eq_ediv_of_nonneg b0
          rw [t2, t3, wrap_in (n := m / 2) (by omega) (by omega), wrap_in (n := -(m / 2)) (by omega) (by omega), wrap_in (n := -(m / 2) - 1) (by omega) (by omega), wrap_in (n := 1 + j) (by omega) (by omega)]
          by_cases c4 : m % 2 = 1
          · rw [if_pos c4, show zz m = -(m / 2) - 1 from if_pos c4]
            cases okVal (rd l 0) (-(m / 2) - 1) ⟨#[]⟩ <;> exact ⟨_, rfl, rfl⟩
          · rw [if_neg c4, show zz m = m / 2 from if_neg c4]
            cases okVal (rd l 0) (m / 2) ⟨#[]⟩ <;> exact ⟨_, rfl, rfl⟩
  simp only [if_neg c2]
  by_cases c5 : rd l 0 = 2
  · simp only [if_pos c5]
    rw [if_pos (show 1 < (l.length : Int) by omega), if_pos (show 1 < (l.length : Int) by omega)]
    by_cases c6 : 2 + rd l 1 ≤ (l.length : Int)
    · rw [if_pos c6, if_pos (show 2 ≤ 2 + rd l 1 by omega), if_neg (show ¬ rd l 1 > (l.length : Int) - 2 by omega), if_pos (show 2 ≤ 2 + rd l 1 by omega), if_pos c6]
      cases okVal (rd l 0) 0 (strOfNums (List.drop 2 (List.take (2 + rd l 1).toNat l))) <;> exact ⟨_, rfl, rfl⟩
    · rw [if_neg c6, if_pos (show rd l 1 > (l.length : Int) - 2 by omega)]
      exact ⟨_, rfl, rfl⟩
  simp only [if_neg c5]
  by_cases c7 : rd l 0 = 3
  · simp only [if_pos c7]
    rw [if_pos (show 1 < (l.length : Int) by omega)]
    cases okVal (rd l 0) (rd l 1) ⟨#[]⟩ <;> exact ⟨_, rfl, rfl⟩
  · simp only [if_neg c7]
    cases okVal (rd l 0) 0 ⟨#[]⟩ <;> exact ⟨_, rfl, rfl⟩
end Go.Proofs.Ytlbaoekmnfeogaa.PAll
