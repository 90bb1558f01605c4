/- Values and their bytes: what is put is got, what is got is put. -/
import Derived.Test.YtlbaoekmnfeogaaVal3
namespace Go.Proofs.Ytlbaoekmnfeogaa.PAll
open Go.RowKit Go.Proofs.YtlbaoekmnfeogaaW.PrintWords Go.Proofs.YtlbaoekmnfeogaaW.PrintLast Go.Proofs.YtlbaoekmnfeogaaW.PrintMore
set_option linter.unusedVariables false
set_option linter.unusedSimpArgs false
def numL : Nat → Bool → List Int → Option (Int × Nat × Bool)
  | 0, _, _ => none
  | _ + 1, _, [] => none
  | d + 1, first, b :: t => if b < 128 then some (b % 128, 1, first || decide (b > 0)) else
    match numL d false t with
    | none => none
    | some (m, j, fl) => some (b % 128 + 128 * m, j + 1, fl)
theorem numG_L (l : List Int) : ∀ (d i : Nat) (n : Int), numG l d (i : Int) n = (numL d (decide (i = 0)) (l.drop i)).map fun r => (n + r.1 * 2 ^ (7 * i), ((i + r.2.1 : Nat) : Int), r.2.2)
  | 0, i, n => rfl
  | d + 1, i, n => by
    unfold numG
    by_cases c : i < l.length
    · rw [if_pos (by omega), List.drop_eq_getElem_cons c, numL]
      have e : rd l (i : Int) = l[i] := by
        unfold rd
        rw [Int.toNat_natCast, List.getD_eq_getElem?_getD, List.getElem?_eq_getElem c]
        rfl
      rw [e, show (7 * (i : Int)).toNat = 7 * i by omega]
      by_cases h : l[i] < 128
      · rw [if_pos h, if_pos h]
        simp only [Option.map_some]
        congr 3
        · simp
      · rw [if_neg h, if_neg h, show (i : Int) + 1 = ((i + 1 : Nat) : Int) by omega, numG_L l d (i + 1)]
        rw [show decide (i + 1 = 0) = false by simp]
        cases numL d false (l.drop (i + 1)) with
        | none => rfl
        | some r =>
          obtain ⟨m, j, fl⟩ := r
          simp only [Option.map_some]
          have e2 : (2 : Int) ^ (7 * (i + 1)) = 128 * 2 ^ (7 * i) := pow7 i
          have e3 : n + l[i] % 128 * 2 ^ (7 * i) + m * 2 ^ (7 * (i + 1)) = n + (l[i] % 128 + 128 * m) * 2 ^ (7 * i) := by
            rw [e2, Int.add_mul, Int.add_assoc, Int.mul_comm 128 (2 ^ (7 * i)), ← Int.mul_assoc m, Int.mul_comm (m * 2 ^ (7 * i)) 128, ← Int.mul_assoc]
          rw [e3, show i + 1 + j = i + (j + 1) by omega]
    · rw [if_neg (by omega), List.drop_eq_nil_of_le (by omega)]
      rfl
theorem digS_nil (d : Nat) (n : Int) : digS d n ≠ [] := by
  cases d <;> unfold digS <;> (try split) <;> simp
theorem num_dig (d : Nat) : ∀ (D : Nat) (n : Int) (first : Bool) (rest : List Int), d < D → 0 ≤ n → n < 2 ^ (7 * (d + 1)) → numL D first (digS d n ++ rest) = some (n, (digS d n).length, first || decide (n > 0)) := by
  induction d with
  | zero =>
    intro D n first rest hd h0 h1
    obtain ⟨D, rfl⟩ : ∃ m, D = m + 1 := ⟨D - 1, by omega⟩
    have h1 : n < 128 := h1
    rw [digS, List.singleton_append, numL, if_pos h1, show n % 128 = n by omega]
    rfl
  | succ d ih =>
    intro D n first rest hd h0 h1
    obtain ⟨D, rfl⟩ : ∃ m, D = m + 1 := ⟨D - 1, by omega⟩
    rw [digS]
    by_cases c : n > 127
    · have hx : n / 128 < 2 ^ (7 * (d + 1)) := by rw [pow7] at h1; omega
      rw [if_pos c, List.cons_append, numL, if_neg (by omega), ih D (n / 128) false rest (by omega) (by omega) hx]
      have d1 : decide (n / 128 > 0) = true := decide_eq_true (by omega)
      have d2 : decide (n > 0) = true := decide_eq_true (by omega)
      rw [d1, d2]
      simp only [List.length_cons, Bool.or_true]
      congr 2
      omega
    · rw [if_neg c, List.singleton_append, numL, if_pos (by omega), show n % 128 = n by omega]
      rfl
theorem num_cut : ∀ (d D j : Nat) (n : Int) (first : Bool), j < (digS d n).length → 0 ≤ n → numL D first ((digS d n).take j) = none
  | 0, D, j, n, first, hj, h0 => by
    have : j = 0 := by simp [digS] at hj; omega
    subst this
    cases D <;> rfl
  | d + 1, D, j, n, first, hj, h0 => by
    cases D with
    | zero => rfl
    | succ D =>
      rw [digS] at hj ⊢
      by_cases c : n > 127
      · rw [if_pos c] at hj ⊢
        cases j with
        | zero => rfl
        | succ j =>
          rw [List.take_succ_cons, numL, if_neg (by omega), num_cut d D j (n / 128) false (by simpa using hj) (by omega)]
      · rw [if_neg c] at hj ⊢
        have : j = 0 := by simp at hj; omega
        subst this
        rfl
theorem num_inv : ∀ (d : Nat) (first : Bool) (l : List Int), Bytes l → ∀ m j, numL (d + 1) first l = some (m, j, true) → 0 ≤ m ∧ m < 2 ^ (7 * (d + 1)) ∧ (first = false → 0 < m) ∧ 1 ≤ j ∧ j ≤ l.length ∧ digS d m = l.take j
  | d, first, [], hb, m, j, h => by cases h
  | d, first, b :: t, hb, m, j, h => by
    have b0 := hb b (by simp)
    rw [numL] at h
    by_cases c : b < 128
    · rw [if_pos c] at h
      injection h with h
      injection h with h1 h
      injection h with h2 h3
      subst h1 h2
      have e : b % 128 = b := by omega
      rw [e]
      have hp : (128 : Int) ≤ 2 ^ (7 * (d + 1)) := by
        rw [pow7]
        have : (0 : Int) < 2 ^ (7 * d) := Int.pow_pos (by decide)
        omega
      refine ⟨by omega, by omega, fun hf => ?_, by omega, by simp, ?_⟩
      · subst hf
        simpa using h3
      · cases d with
        | zero => rfl
        | succ d => rw [digS, if_neg (by omega)]; rfl
    · rw [if_neg c] at h
      cases d with
      | zero => cases h
      | succ d =>
        cases e : numL (d + 1) false t with
        | none => rw [e] at h; cases h
        | some r =>
          obtain ⟨m', j', fl⟩ := r
          rw [e] at h
          injection h with h
          injection h with h1 h
          injection h with h2 h3
          subst h1 h2 h3
          obtain ⟨i1, i2, i3, i4, i5, i6⟩ := num_inv d false t (fun x hx => hb x (by simp [hx])) m' j' e
          have i3 := i3 rfl
          rw [pow7]
          refine ⟨by omega, by omega, fun _ => by omega, by omega, by simp; omega, ?_⟩
          rw [digS, if_pos (by omega), List.take_succ_cons, show (b % 128 + 128 * m') / 128 = m' by omega, i6, show (b % 128 + 128 * m') % 128 + 128 = b by omega]
theorem dig_more (d : Nat) : ∀ (n : Int), 0 ≤ n → n < 2 ^ (7 * (d + 1)) → digS (d + 1) n = digS d n := by
  induction d with
  | zero =>
    intro n h0 h1
    have h1 : n < 128 := h1
    have e : digS (0 + 1) n = if n > 127 then (n % 128 + 128) :: digS 0 (n / 128) else [n] := rfl
    rw [e, if_neg (by omega), digS]
  | succ d ih =>
    intro n h0 h1
    rw [digS]
    conv => rhs; rw [digS]
    by_cases c : n > 127
    · have hx : n / 128 < 2 ^ (7 * (d + 1)) := by rw [pow7] at h1; omega
      rw [if_pos c, if_pos c, ih (n / 128) (by omega) hx]
    · rw [if_neg c, if_neg c]
theorem zz_zzE (n : Int) : zz (zzE n) = n := by
  unfold zz zzE
  split <;> split <;> omega
theorem zzE_zz (m : Int) (h : 0 ≤ m) : zzE (zz m) = m := by
  unfold zz zzE
  split <;> split <;> omega
end Go.Proofs.Ytlbaoekmnfeogaa.PAll
