/- Sums of small whole numbers as floats: each is read as a whole number at a place; what is written is the nearest. -/
import Derived.Test.YtkljljjmphneiaaPAllx18
namespace Go.Proofs.Ytkljljjmphneiaa.Pure
open Go.RowKit Go.Proofs.Ytkljljjmphneiaa.PAll Go.Proofs.YtkljljjmphneiaaW.PrintWords Go.Proofs.YtkljljjmphneiaaW.PrintLast
def FN (n : Nat) : Nat := floatOfInt .f64 (n : Int)
def pl (n : Nat) : Nat := if n = 0 then 1074 else 52 - n.log2
def isRead (d : Ieee.Datum) (m : Nat) (p : Int) : Bool := match d with | .number false a q => a == m && q == p | _ => false
theorem isRead_eq {d : Ieee.Datum} {m : Nat} {p : Int} (h : isRead d m p = true) : d = .number false m p := by
  unfold isRead at h
  split at h
  · simp only [Bool.and_eq_true, beq_iff_eq] at h
    rw [h.1, h.2]
  · cases h
def places : List Nat := [44, 45, 46, 47, 48, 49, 50, 51, 52, 1074]
set_option maxRecDepth 100000 in
theorem read_all : ((List.range 508).all fun n => isRead (FloatKind.f64.format.read (FN n)) (n * 2 ^ pl n) (-(pl n : Int)) && places.contains (pl n)) = true := by decide +kernel
set_option maxRecDepth 100000 in
theorem write_all : ((List.range 514).all fun s => places.all fun P => FloatKind.f64.format.nearest false (s * 2 ^ P) (-(P : Int)) == FN s) = true := by decide +kernel
theorem read_FN {n : Nat} (h : n ≤ 507) : FloatKind.f64.format.read (FN n) = .number false (n * 2 ^ pl n) (-(pl n : Int)) ∧ pl n ∈ places := by
  have h1 := List.all_eq_true.1 read_all n (List.mem_range.2 (by omega))
  rw [Bool.and_eq_true] at h1
  exact ⟨isRead_eq h1.1, List.contains_iff_mem.1 h1.2⟩
theorem write_FN {s P : Nat} (h : s ≤ 513) (hP : P ∈ places) : FloatKind.f64.format.nearest false (s * 2 ^ P) (-(P : Int)) = FN s := by
  have h1 := List.all_eq_true.1 (List.all_eq_true.1 write_all s (List.mem_range.2 (by omega))) P hP
  exact beq_iff_eq.1 h1
theorem sum_at (a b : Nat) (i j base : Int) (h : min i j = base) : Ieee.Datum.sum (.number false a i) (.number false b j) = some (.number false (a * 2 ^ (i - base).toNat + b * 2 ^ (j - base).toNat) base) := by
  subst h
  simp only [Ieee.Datum.sum, Ieee.signed, Bool.false_eq_true, if_false, Nat.shiftLeft_eq, Bool.and_self]
  generalize a * 2 ^ (i - min i j).toNat = u
  generalize b * 2 ^ (j - min i j).toNat = v
  have h3 : ((u : Int) + (v : Int)).natAbs = u + v := by omega
  have h4 : ¬ ((u : Int) + (v : Int) < 0) := by omega
  rw [h3]
  simp [h4]
theorem add_FN {x y : Nat} (hx : x ≤ 507) (hy : y ≤ 507) (hxy : x + y ≤ 513) : floatBits .add .f64 (FN x) (FN y) = some (FN (x + y)) := by
  obtain ⟨rx, px⟩ := read_FN hx
  obtain ⟨ry, py⟩ := read_FN hy
  show FloatKind.f64.format.add (FN x) (FN y) = _
  unfold Ieee.Format.add
  rw [rx, ry]
  have key : ∃ P ∈ places, Ieee.Datum.sum (.number false (x * 2 ^ pl x) (-(pl x : Int))) (.number false (y * 2 ^ pl y) (-(pl y : Int))) = some (.number false ((x + y) * 2 ^ P) (-(P : Int))) := by
    rcases Nat.le_total (pl x) (pl y) with h | h
    · refine ⟨pl y, py, ?_⟩
      rw [sum_at _ _ _ _ (-(pl y : Int)) (by omega), show (-(pl x : Int) - -(pl y : Int)).toNat = pl y - pl x by omega, show (-(pl y : Int) - -(pl y : Int)).toNat = 0 by omega, Nat.mul_assoc, ← Nat.pow_add, Nat.add_sub_cancel' h, Nat.pow_zero, Nat.mul_one, ← Nat.add_mul]
    · refine ⟨pl x, px, ?_⟩
      rw [sum_at _ _ _ _ (-(pl x : Int)) (by omega), show (-(pl y : Int) - -(pl x : Int)).toNat = pl x - pl y by omega, show (-(pl x : Int) - -(pl x : Int)).toNat = 0 by omega, Nat.mul_assoc y, ← Nat.pow_add, Nat.add_sub_cancel' h, Nat.pow_zero, Nat.mul_one, ← Nat.add_mul]
  obtain ⟨P, hP, e⟩ := key
  rw [e]
  exact congrArg some (write_FN (by omega) hP)
end Go.Proofs.Ytkljljjmphneiaa.Pure
