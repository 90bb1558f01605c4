/- frame.Cut and the document's Cut are one walk over the frames: cutS. (Builds; ref_cut and frame_cut are still to be written.) -/
import Derived.Test.YtkljljjmphneiaaPAllx24
import Derived.Test.YtkljljjmphneiaaFrSum2
namespace Go.Proofs.Ytkljljjmphneiaa.Pure
open Go.RowKit Go.Proofs.Ytkljljjmphneiaa.PAll Go.Proofs.YtkljljjmphneiaaW.PrintWords Go.Proofs.YtkljljjmphneiaaW.PrintLast
def Bytes (l : List Int) : Prop := ∀ x ∈ l, 0 ≤ x ∧ x < 256
theorem rd_byte {l : List Int} (h : Bytes l) (i : Int) : ∃ v : Nat, v < 256 ∧ rd l i = (v : Int) := by
  have : 0 ≤ rd l i ∧ rd l i < 256 := by
    unfold rd
    by_cases hi : i.toNat < l.length
    · rw [List.getD_eq_getElem?_getD, List.getElem?_eq_getElem hi]
      exact h _ (List.getElem_mem hi)
    · rw [List.getD_eq_getElem?_getD, List.getElem?_eq_none (by omega)]
      decide
  exact ⟨(rd l i).toNat, by omega, by omega⟩
def recAt (b : List Int) (p m : Nat) : ByteArray := strOfNums ((b.take (p + 5 + m)).drop (p + 5))
def two (b : List Int) (p : Nat) : Nat := 256 * (rd b (p : Int)).toNat + (rd b ((p : Int) + 1)).toNat
/-- What is cut, from place p on. -/
def cutS (b : List Int) : Nat → Nat → List ByteArray → List ByteArray × Int
  | 0, p, acc => (acc, (p : Int))
  | n + 1, p, acc =>
    if b.length < p + 5 ∨ rd b (p : Int) ≠ 82 then (acc, (p : Int)) else
    if 4096 < two b (p + 1) ∨ b.length < p + 5 + two b (p + 1) then (acc, (p : Int)) else
    if sumS (recAt b p (two b (p + 1))) = (two b (p + 3) : Int) then cutS b n (p + 5 + two b (p + 1)) (acc ++ [recAt b p (two b (p + 1))]) else (acc, (p : Int))
theorem or_two (a c : Nat) (ha : a < 256) (hc : c < 256) : Go.bits .or .i64 (wrap64 (wrap64 (a : Int) * 256)) (wrap64 (c : Int)) = ((256 * a + c : Nat) : Int) := by
  have h63 : (2 : Nat) ^ 63 = 9223372036854775808 := by decide
  rw [wrapN (n := (a : Int)) (by omega) (by omega), wrapN (by omega) (by omega), wrapN (by omega) (by omega), show (a : Int) * 256 = ((a * 256 : Nat) : Int) by omega]
  rw [(bits_nat .i64 63 (by decide) (fun n h0 h1 => i64_in h0 h1) (a * 256) c (by omega) (by omega)).2]
  have h8 : c < 2 ^ 8 := by omega
  rw [Nat.mul_comm, show (256 : Nat) = 2 ^ 8 by decide, ← Nat.two_pow_add_eq_or_of_lt h8 a]
end Go.Proofs.Ytkljljjmphneiaa.Pure
