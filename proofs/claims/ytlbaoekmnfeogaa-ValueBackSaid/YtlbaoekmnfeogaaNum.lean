/- The digits of a number: what the program's loop, and the document's, come to. -/
import Derived.Test.YtlbaoekmnfeogaaPAllx14
import Derived.Test.YtlbaoekmnfeogaaPAllx28
import Derived.Laws.BitsLemmas
namespace Go.Proofs.Ytlbaoekmnfeogaa.PAll
open Go.RowKit Go.Proofs.YtlbaoekmnfeogaaW.PrintWords Go.Proofs.YtlbaoekmnfeogaaW.PrintLast Go.Proofs.YtlbaoekmnfeogaaW.PrintMore
set_option linter.unusedVariables false
set_option linter.unusedSimpArgs false

def Bytes (l : List Int) : Prop := ∀ x ∈ l, 0 ≤ x ∧ x < 256
theorem bytes_of_wf {l : List Int} (h : ∀ x ∈ l, (Lit.int .u8 x).wf = true) : Bytes l := by
  intro x hx
  have := h x hx
  simp [Lit.wf, IntKind.min, IntKind.max, IntKind.bits, IntKind.signed] at this
  omega
theorem rd_byte {l : List Int} (h : Bytes l) (i : Int) : 0 ≤ rd l i ∧ rd l i < 256 := by
  unfold rd
  by_cases hi : i.toNat < l.length
  · rw [List.getD_eq_getElem?_getD, List.getElem?_eq_getElem hi]
    exact h _ (List.getElem_mem hi)
  · rw [List.getD_eq_getElem?_getD, List.getElem?_eq_none (by omega)]
    decide
theorem bytes_drop {l : List Int} (h : Bytes l) (n : Nat) : Bytes (l.drop n) := fun x hx => h x (List.mem_of_mem_drop hx)
theorem wrap_in {n : Int} (h0 : -9223372036854775808 ≤ n) (h1 : n ≤ 9223372036854775807) : wrap64 n = n := by unfold wrap64; omega
theorem wrap_u64 (n : Int) : IntKind.u64.wrap n = n % 18446744073709551616 := by simp [IntKind.wrap, IntKind.bits, IntKind.signed]
theorem u64_in {n : Int} (h0 : 0 ≤ n) (h1 : n < 2 ^ 63) : IntKind.u64.wrap n = n := by
  rw [wrap_u64]
  omega
theorem or_low (n m s : Nat) (hn : n < 2 ^ s) (hm : m < 128) (hs : s ≤ 49) : bits .or .u64 (n : Int) (((m * 2 ^ s : Nat)) : Int) = ((n + m * 2 ^ s : Nat) : Int) := by
  have h2 : 2 ^ s ≤ 2 ^ 49 := Nat.pow_le_pow_right (by decide) hs
  have h3 : m * 2 ^ s < 2 ^ 63 := by
    have : m * 2 ^ s ≤ 127 * 2 ^ 49 := Nat.mul_le_mul (by omega) h2
    omega
  rw [(bits_nat .u64 63 (by decide) (fun n h0 h1 => u64_in h0 h1) n (m * 2 ^ s) (by omega) h3).2]
  rw [Nat.or_comm, Nat.mul_comm, ← Nat.two_pow_add_eq_or_of_lt hn m, Nat.add_comm]
theorem bitsE (i n b : Int) (hi0 : 0 ≤ i) (hi : i ≤ 6) (hn0 : 0 ≤ n) (hn : n < 2 ^ (7 * i).toNat) (hb0 : 0 ≤ b) (hb : b < 256) :
    bits .or .u64 n (shl .u64 (IntKind.u64.wrap (bits .and .u8 b 127)) (wrap64 (7 * i))) = n + b % 128 * 2 ^ (7 * i).toNat := by
  have e1 : bits .and .u8 b 127 = b % 128 := bits_mask .u8 8 (by decide) wraps_u8 7 (by decide) b hb0 hb
  rw [e1, u64_in (by omega) (by omega), wrap_in (by omega) (by omega)]
  obtain ⟨m, hm⟩ := Int.eq_ofNat_of_zero_le (show 0 ≤ b % 128 by omega)
  obtain ⟨a, ha⟩ := Int.eq_ofNat_of_zero_le hn0
  obtain ⟨s, hs⟩ : ∃ s : Nat, (7 * i).toNat = s := ⟨_, rfl⟩
  rw [hs] at hn ⊢
  have hs6 : s ≤ 42 := by omega
  have hsm : min s 64 = s := by omega
  have h2 : 2 ^ s ≤ 2 ^ 42 := Nat.pow_le_pow_right (by decide) hs6
  have hlt : m * 2 ^ s < 2 ^ 63 := by
    have : m * 2 ^ s ≤ 127 * 2 ^ 42 := Nat.mul_le_mul (by omega) h2
    omega
  rw [hm, ha]
  unfold shl
  rw [hs]
  simp only [IntKind.bits, hsm]
  have ec : ((m : Int) * 2 ^ s) = ((m * 2 ^ s : Nat) : Int) := by push_cast; rfl
  rw [ec, u64_in (by omega) (by exact_mod_cast hlt)]
  have hn' : a < 2 ^ s := by
    rw [ha] at hn
    exact_mod_cast hn
  have := or_low a m s hn' (by omega) (by omega)
  rw [this]
  push_cast
  rfl

/-- The number of the digits from i on, up to the seventh. -/
def numG (l : List Int) : Nat → Int → Int → Option (Int × Int × Bool)
  | 0, _, _ => none
  | d + 1, i, n => if i < (l.length : Int) then (if rd l i < 128 then some (n + rd l i % 128 * 2 ^ (7 * i).toNat, i + 1, decide (i = 0) || decide (rd l i > 0)) else numG l d (i + 1) (n + rd l i % 128 * 2 ^ (7 * i).toNat)) else none

theorem step_lt (i n b : Int) (hi0 : 0 ≤ i) (hi : i ≤ 6) (hn0 : 0 ≤ n) (hn : n < 2 ^ (7 * i).toNat) :
    0 ≤ n + b % 128 * 2 ^ (7 * i).toNat ∧ n + b % 128 * 2 ^ (7 * i).toNat < 2 ^ (7 * (i + 1)).toNat := by
  have e : (7 * (i + 1)).toNat = (7 * i).toNat + 7 := by omega
  rw [e, Int.pow_add]
  obtain ⟨p, hp⟩ : ∃ p : Int, (2 : Int) ^ (7 * i).toNat = p := ⟨_, rfl⟩
  rw [hp] at hn ⊢
  have h1 : 0 ≤ b % 128 := by omega
  have h2 : b % 128 ≤ 127 := by omega
  have h3 : 0 ≤ b % 128 * p := Int.mul_nonneg h1 (by omega)
  have h4 : b % 128 * p ≤ 127 * p := Int.mul_le_mul_of_nonneg_right h2 (by omega)
  omega
theorem pow_small (i : Int) (hi : i ≤ 7) : (2 : Int) ^ (7 * i).toNat ≤ 562949953421312 := by
  have h : 2 ^ (7 * i).toNat ≤ 562949953421312 := Nat.le_trans (show 2 ^ (7 * i).toNat ≤ 2 ^ 49 from Nat.pow_le_pow_right (by decide) (by omega)) (by decide)
  rw [show ((2 : Int) ^ (7 * i).toNat) = ((2 ^ (7 * i).toNat : Nat) : Int) from (Int.natCast_pow 2 _).symm]
  exact Int.ofNat_le.2 h

theorem numG_bound (l : List Int) : ∀ (d : Nat) (i n : Int), 0 ≤ i → i + d = 7 → 0 ≤ n → n < 2 ^ (7 * i).toNat → ∀ m j fl, numG l d i n = some (m, j, fl) → 0 ≤ m ∧ m < 562949953421312 ∧ 1 ≤ j ∧ j ≤ 7 ∧ j ≤ l.length := by
  intro d
  induction d with
  | zero => intro i n _ _ _ _ m j fl h; simp [numG] at h
  | succ d ih =>
    intro i n hi0 hid hn0 hn m j fl h
    have hs := step_lt i n (rd l i) hi0 (by omega) hn0 hn
    have hp := pow_small (i + 1) (by omega)
    rw [numG] at h
    by_cases c : i < (l.length : Int)
    · rw [if_pos c] at h
      by_cases c2 : rd l i < 128
      · rw [if_pos c2] at h
        simp only [Option.some.injEq, Prod.mk.injEq] at h
        obtain ⟨rfl, rfl, rfl⟩ := h
        exact ⟨hs.1, by omega, by omega, by omega, by omega⟩
      · rw [if_neg c2] at h
        exact ih (i + 1) _ (by omega) (by omega) hs.1 hs.2 m j fl h
    · rw [if_neg c] at h; cases h

theorem number_l0 (l : List Int) (hb : Bytes l) (hl : l.length ≤ 140737488355328) : ∀ (d k : Nat) (i n : Int), 0 ≤ i → i + d = 7 → 0 ≤ n → n < 2 ^ (7 * i).toNat → d < k →
    value_number.l0 k l n (mn (l.length : Int) 7) i = some ((numG l d i n).getD (0, 0, false)) := by
  intro d
  induction d with
  | zero =>
    intro k i n hi0 hid hn0 hn hk
    obtain ⟨k, rfl⟩ : ∃ m, k = m + 1 := ⟨k - 1, by omega⟩
    simp only [value_number.l0]
    rw [if_neg (by unfold mn; split <;> omega)]
    rfl
  | succ d ih =>
    intro k i n hi0 hid hn0 hn hk
    obtain ⟨k, rfl⟩ : ∃ m, k = m + 1 := ⟨k - 1, by omega⟩
    have hby := rd_byte hb i
    have hs := step_lt i n (rd l i) hi0 (by omega) hn0 hn
    simp only [value_number.l0]
    by_cases c : i < (l.length : Int)
    · rw [if_pos (by unfold mn; split <;> omega), if_pos hi0, if_pos c, wrap_in (n := 7 * i) (by omega) (by omega), if_pos (by omega)]
      have hE := bitsE i n (rd l i) hi0 (by omega) hn0 hn hby.1 hby.2
      rw [wrap_in (n := 7 * i) (by omega) (by omega)] at hE
      rw [hE, wrap_in (n := i + 1) (by omega) (by omega), numG, if_pos c]
      by_cases c2 : rd l i < 128
      · rw [if_pos c2, if_pos c2]
        by_cases c3 : i = 0
        · rw [if_pos c3]; simp [c3]
        · rw [if_neg c3]; simp [c3]
      · rw [if_neg c2, if_neg c2]
        exact ih k (i + 1) _ (by omega) (by omega) hs.1 hs.2 (by omega)
    · rw [if_neg (by unfold mn; split <;> omega), numG, if_neg c]
      rfl

/-- What the document's loop tells of it. -/
def numR (most : Int) : Option (Int × Int × Bool) → Int × Int × Bool
  | none => (0, 0, false)
  | some (m, j, fl) => if m > most then (0, 0, false) else if fl = true then (m, j, true) else (0, 0, false)

theorem number_ref (l : List Int) (hb : Bytes l) (most : Int) (hl : l.length ≤ 140737488355328) : ∀ (d k : Nat) (i n : Int), 0 ≤ i → i + d = 7 → 0 ≤ n → n < 2 ^ (7 * i).toNat → 2 * d + 1 < k →
    auguryref04_Number.l0 k l most n (2 ^ (7 * i).toNat) i = some (numR most (numG l d i n)) := by
  intro d
  induction d with
  | zero =>
    intro k i n hi0 hid hn0 hn hk
    obtain ⟨k, rfl⟩ : ∃ m, k = m + 2 := ⟨k - 2, by omega⟩
    simp only [auguryref04_Number.l0]
    have e7 : decide (i < 7) = false := decide_eq_false (by omega)
    rw [e7]
    by_cases c : i < (l.length : Int)
    · rw [if_pos c]; simp [auguryref04_Number.j1, numG, numR]
    · rw [if_neg c]; simp [auguryref04_Number.j1, numG, numR]
  | succ d ih =>
    intro k i n hi0 hid hn0 hn hk
    obtain ⟨k, rfl⟩ : ∃ m, k = m + 2 := ⟨k - 2, by omega⟩
    have hby := rd_byte hb i
    have hs := step_lt i n (rd l i) hi0 (by omega) hn0 hn
    have hp := pow_small (i + 1) (by omega)
    simp only [auguryref04_Number.l0]
    have e7 : decide (i < 7) = true := decide_eq_true (by omega)
    rw [e7]
    by_cases c : i < (l.length : Int)
    · rw [if_pos c]
      have ht : Int.tmod (rd l i) 128 = rd l i % 128 := Int.tmod_eq_emod_of_nonneg hby.1
      have hm0 : 0 ≤ rd l i % 128 * 2 ^ (7 * i).toNat := by have := hs.1; have h1 : 0 ≤ rd l i % 128 := by omega
                                                            exact Int.mul_nonneg h1 (by omega)
      have w1 : wrap64 (rd l i % 128) = rd l i % 128 := wrap_in (by omega) (by omega)
      have w2 : wrap64 (rd l i % 128 * 2 ^ (7 * i).toNat) = rd l i % 128 * 2 ^ (7 * i).toNat := wrap_in (by omega) (by omega)
      have w3 : wrap64 (n + rd l i % 128 * 2 ^ (7 * i).toNat) = n + rd l i % 128 * 2 ^ (7 * i).toNat := wrap_in (by omega) (by omega)
      have w4 : wrap64 (i + 1) = i + 1 := wrap_in (by omega) (by omega)
      have e8 : (2 : Int) ^ (7 * (i + 1)).toNat = 2 ^ (7 * i).toNat * 128 := by
        rw [show (7 * (i + 1)).toNat = (7 * i).toNat + 7 by omega, Int.pow_add]; rfl
      have w5 : wrap64 ((2 : Int) ^ (7 * i).toNat * 128) = 2 ^ (7 * (i + 1)).toNat := by rw [← e8]; exact wrap_in (by omega) (by omega)
      simp only [auguryref04_Number.j1, if_true, ht, w1, w2, w3, w4, w5]
      rw [if_pos hi0, if_pos c, numG, if_pos c]
      by_cases c2 : rd l i < 128
      · rw [if_pos c2, if_pos c2]
        simp only [numR]
        by_cases c4 : n + rd l i % 128 * 2 ^ (7 * i).toNat > most
        · rw [if_pos c4, if_pos c4]
        · rw [if_neg c4, if_neg c4]
          by_cases c5 : i > 0
          · rw [if_pos c5]
            by_cases c6 : rd l i = 0
            · rw [if_pos c6]
              have : (decide (i = 0) || decide (rd l i > 0)) = false := by simp [c6]; omega
              rw [this]; simp
            · rw [if_neg c6]
              have : (decide (i = 0) || decide (rd l i > 0)) = true := by simp; omega
              rw [this]; simp
          · rw [if_neg c5]
            have : (decide (i = 0) || decide (rd l i > 0)) = true := by simp; omega
            rw [this]; simp
      · rw [if_neg c2, if_neg c2]
        exact ih k (i + 1) _ (by omega) (by omega) hs.1 hs.2 (by omega)
    · rw [if_neg c, numG, if_neg c]
      simp [auguryref04_Number.j1, numR]

theorem value_number_eq (l : List Int) (hb : Bytes l) (hl : l.length ≤ 140737488355328) (k : Nat) (hk : 7 < k) : value_number.f k l = some ((numG l 7 0 0).getD (0, 0, false)) := by
  unfold value_number.f
  exact number_l0 l hb hl 7 k 0 0 (by omega) (by omega) (by omega) (by decide) hk
theorem ref_number_eq (l : List Int) (hb : Bytes l) (hl : l.length ≤ 140737488355328) (most : Int) (k : Nat) (hk : 15 < k) : auguryref04_Number.f k l most = some (numR most (numG l 7 0 0)) := by
  unfold auguryref04_Number.f
  exact number_ref l hb most hl 7 k 0 0 (by omega) (by omega) (by omega) (by decide) hk
end Go.Proofs.Ytlbaoekmnfeogaa.PAll
