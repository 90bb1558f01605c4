/- frame.Sum is the document's sum: its floats are small whole numbers; their rests are checked one by one by the kernel. -/
import Derived.Test.YtkljljjmphneiaaPAllx18
import Derived.Test.YtkljljjmphneiaaPAllx19
import Derived.Test.YtkljljjmphneiaaPAllx24
import Derived.Test.YtkljljjmphneiaaFrAdd
namespace Go.Proofs.Ytkljljjmphneiaa.Pure
open Go.RowKit Go.Proofs.Ytkljljjmphneiaa.PAll Go.Proofs.YtkljljjmphneiaaW.PrintWords Go.Proofs.YtkljljjmphneiaaW.PrintLast
set_option maxRecDepth 100000 in
theorem mod_all : ((List.range 508).all fun x => math_Mod.f 20 (FN x) 4643035293958537216 == some (FN (x % 251)) && math_Mod.f 20 (FN x) 4642683450237648896 == some (FN (x % 241)) && (fti (FN x) == (x : Int) && ftiOk (FN x))) = true := by decide +kernel
theorem FN_one : FN 1 = 4607182418800017408 := by decide +kernel
theorem mod_le {k k' : Nat} (h : k ≤ k') {x y r : Nat} (e : math_Mod.f k x y = some r) : math_Mod.f k' x y = some r := by
  induction h with
  | refl => exact e
  | step _ ih => exact math_Mod.mono _ _ _ _ ih
theorem mod_251 {k x : Nat} (hk : 20 ≤ k) (hx : x < 508) : math_Mod.f k (FN x) 4643035293958537216 = some (FN (x % 251)) := by
  have h1 := List.all_eq_true.1 mod_all x (List.mem_range.2 hx)
  simp only [Bool.and_eq_true, beq_iff_eq] at h1
  exact mod_le hk h1.1.1
theorem mod_241 {k x : Nat} (hk : 20 ≤ k) (hx : x < 508) : math_Mod.f k (FN x) 4642683450237648896 = some (FN (x % 241)) := by
  have h1 := List.all_eq_true.1 mod_all x (List.mem_range.2 hx)
  simp only [Bool.and_eq_true, beq_iff_eq] at h1
  exact mod_le hk h1.1.2
theorem fti_FN {x : Nat} (hx : x < 508) : fti (FN x) = (x : Int) ∧ ftiOk (FN x) = true := by
  have h1 := List.all_eq_true.1 mod_all x (List.mem_range.2 hx)
  simp only [Bool.and_eq_true, beq_iff_eq] at h1
  exact h1.2
theorem flo_FN {x y : Nat} (hx : x ≤ 507) (hy : y ≤ 507) (hxy : x + y ≤ 513) : floOk .add (FN x) (FN y) = true ∧ flo .add (FN x) (FN y) = FN (x + y) := by
  unfold floOk flo
  rw [add_FN hx hy hxy]
  exact ⟨rfl, rfl⟩
theorem wrapN {n : Int} (h0 : -9223372036854775808 ≤ n) (h1 : n ≤ 9223372036854775807) : wrap64 n = n := by unfold wrap64; omega
theorem bt_nat (s : ByteArray) (i : Nat) : ∃ v : Nat, v < 256 ∧ bt s (i : Int) = (v : Int) := by
  unfold bt
  split
  · exact ⟨_, UInt8.toNat_lt _, rfl⟩
  · exact ⟨0, by omega, rfl⟩
/-- The sum, of what is left. -/
def sumR (s : ByteArray) : Nat → Nat → Nat → Nat → Nat × Nat
  | 0, _, a, b => (a, b)
  | n + 1, i, a, b => sumR s n (i + 1) ((a + (bt s (i : Int)).toNat + 1) % 251) ((b + (a + (bt s (i : Int)).toNat + 1) % 251) % 241)
theorem sumR_lt (s : ByteArray) : ∀ n i a b, a < 251 → b < 241 → (sumR s n i a b).1 < 251 ∧ (sumR s n i a b).2 < 241
  | 0, _, _, _, ha, hb => ⟨ha, hb⟩
  | n + 1, i, a, b, _, _ => sumR_lt s n (i + 1) _ _ (Nat.mod_lt _ (by omega)) (Nat.mod_lt _ (by omega))
def sumS (s : ByteArray) : Int := ((sumR s s.size 0 1 1).1 : Int) + 256 * ((sumR s s.size 0 1 1).2 : Int)
set_option maxRecDepth 100000 in
theorem or_all : ((List.range 251).all fun a => Go.bits .or .i64 (a : Int) 0 == (a : Int)) = true := by decide +kernel
theorem ref_l0 (s : ByteArray) (hs : s.size < 2 ^ 40) : ∀ n i a b k : Nat, n + i = s.size → n < k → a < 251 → b < 241 →
    auguryref02_Sum.l0 k s (a : Int) (b : Int) (i : Int) = some (((sumR s n i a b).1 : Int) + 256 * ((sumR s n i a b).2 : Int)) := by
  intro n
  induction n with
  | zero =>
    intro i a b k hi hk ha hb
    obtain ⟨k, rfl⟩ : ∃ m, k = m + 1 := ⟨k - 1, by omega⟩
    unfold auguryref02_Sum.l0
    rw [if_neg (by omega), wrapN (n := 256 * (b : Int)) (by omega) (by omega), wrapN (by omega) (by omega)]
    rfl
  | succ n ih =>
    intro i a b k hi hk ha hb
    obtain ⟨k, rfl⟩ : ∃ m, k = m + 1 := ⟨k - 1, by omega⟩
    obtain ⟨v, hv, e⟩ := bt_nat s i
    unfold auguryref02_Sum.l0
    have h2 : (2 : Nat) ^ 40 = 1099511627776 := by decide
    rw [if_pos (by omega), if_pos (by omega), e, wrapN (n := (v : Int)) (by omega) (by omega), wrapN (n := (a : Int) + v) (by omega) (by omega), wrapN (n := (a : Int) + v + 1) (by omega) (by omega)]
    have e1 : Int.tmod ((a : Int) + v + 1) 251 = (((a + v + 1) % 251 : Nat) : Int) := by rw [Int.tmod_eq_emod_of_nonneg (by omega)]; omega
    have hb2 : (a + v + 1) % 251 < 251 := Nat.mod_lt _ (by omega)
    rw [e1, wrapN (n := (b : Int) + _) (by omega) (by omega)]
    have e2 : Int.tmod ((b : Int) + (((a + v + 1) % 251 : Nat) : Int)) 241 = (((b + (a + v + 1) % 251) % 241 : Nat) : Int) := by rw [Int.tmod_eq_emod_of_nonneg (by omega)]; omega
    rw [e2, wrapN (n := (i : Int) + 1) (by omega) (by omega)]
    have := ih (i + 1) ((a + v + 1) % 251) ((b + (a + v + 1) % 251) % 241) k (by omega) (by omega) hb2 (Nat.mod_lt _ (by omega))
    rw [Int.natCast_add i 1] at this
    simp only [sumR, e, Int.toNat_natCast]
    exact this
theorem sum_l0 (s : ByteArray) (hs : s.size < 2 ^ 40) : ∀ n i a b k : Nat, n + i = s.size → n + 21 < k → a < 251 → b < 241 →
    frame_Sum.l0 k s (FN a, FN b) (s.size : Int) (i : Int) = some (Go.bits .or .i64 ((sumR s n i a b).1 : Int) (wrap64 (((sumR s n i a b).2 : Int) * 256))) := by
  intro n
  induction n with
  | zero =>
    intro i a b k hi hk ha hb
    obtain ⟨k, rfl⟩ : ∃ m, k = m + 1 := ⟨k - 1, by omega⟩
    unfold frame_Sum.l0
    rw [if_neg (by omega)]
    simp only [fti_FN (x := a) (by omega), fti_FN (x := b) (by omega), if_true]
    rfl
  | succ n ih =>
    intro i a b k hi hk ha hb
    obtain ⟨k, rfl⟩ : ∃ m, k = m + 1 := ⟨k - 1, by omega⟩
    obtain ⟨v, hv, e⟩ := bt_nat s i
    unfold frame_Sum.l0
    have h2 : (2 : Nat) ^ 40 = 1099511627776 := by decide
    rw [if_pos (by omega), if_pos (by omega), if_pos (by omega), e]
    have hF : floatOfInt .f64 (v : Int) = FN v := rfl
    have hb2 : (a + v + 1) % 251 < 251 := Nat.mod_lt _ (by omega)
    rw [← FN_one]
    simp only [hF, flo_FN (x := a) (y := v) (by omega) (by omega) (by omega), flo_FN (x := a + v) (y := 1) (by omega) (by omega) (by omega), if_true, mod_251 (k := k) (x := a + v + 1) (by omega) (by omega), Option.bind_some]
    simp only [flo_FN (x := b) (y := (a + v + 1) % 251) (by omega) (by omega) (by omega), if_true, mod_241 (k := k) (x := b + (a + v + 1) % 251) (by omega) (by omega), Option.bind_some]
    rw [wrapN (n := (i : Int) + 1) (by omega) (by omega)]
    have := ih (i + 1) ((a + v + 1) % 251) ((b + (a + v + 1) % 251) % 241) k (by omega) (by omega) hb2 (Nat.mod_lt _ (by omega))
    rw [Int.natCast_add i 1] at this
    simp only [sumR, e, Int.toNat_natCast]
    exact this
end Go.Proofs.Ytkljljjmphneiaa.Pure
