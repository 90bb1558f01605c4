/- The law EventFits, of values alone: an event that fits a schema has as many values as fields, each of its field's kind; with one more, or less, or of another kind, it does not fit. -/
import Derived.Test.YtbnjhmcbkocdjaaPAllx10
import Derived.Test.YtbnjhmcbkocdjaaPAllx11
import Derived.Test.YtbnjhmcbkocdjaaPAllx12
import Derived.Test.YtbnjhmcbkocdjaaPAllx13
import Derived.Test.YtbnjhmcbkocdjaaPAllx14
import Derived.Test.YtbnjhmcbkocdjaaPAllx15
import Derived.Test.YtbnjhmcbkocdjaaPAllx16
import Derived.Test.YtbnjhmcbkocdjaaPAllx17
import Derived.Test.YtbnjhmcbkocdjaaPAllx18
import Derived.Test.YtbnjhmcbkocdjaaPAllx19
import Derived.Test.YtbnjhmcbkocdjaaPAllx25
import Derived.Test.YtbnjhmcbkocdjaaPAllx26
import Derived.Test.YtbnjhmcbkocdjaaPAllx3
import Derived.Test.YtbnjhmcbkocdjaaPAllx30
import Derived.Test.YtbnjhmcbkocdjaaPAllx31
import Derived.Test.YtbnjhmcbkocdjaaPAllx32
import Derived.Test.YtbnjhmcbkocdjaaPAllx33
import Derived.Test.YtbnjhmcbkocdjaaPAllx34
import Derived.Test.YtbnjhmcbkocdjaaPAllx35
import Derived.Test.YtbnjhmcbkocdjaaPAllx36
import Derived.Test.YtbnjhmcbkocdjaaPAllx37
import Derived.Test.YtbnjhmcbkocdjaaPAllx4
import Derived.Test.YtbnjhmcbkocdjaaPAllx40
import Derived.Test.YtbnjhmcbkocdjaaPAllx41
import Derived.Test.YtbnjhmcbkocdjaaPAllx42
import Derived.Test.YtbnjhmcbkocdjaaPAllx47
import Derived.Test.YtbnjhmcbkocdjaaPAllx48
import Derived.Test.YtbnjhmcbkocdjaaPAllx5
import Derived.Test.YtbnjhmcbkocdjaaPAllx54
import Derived.Test.YtbnjhmcbkocdjaaPAllx6
import Derived.Test.YtbnjhmcbkocdjaaPAllx8
import Derived.Test.YtbnjhmcbkocdjaaPAllx9
import Derived.Laws.BitsLemmas
namespace Go.Proofs.Ytbnjhmcbkocdjaa.Pure
open Go.Proofs.Ytbnjhmcbkocdjaa.PAll
open Go.RowKit Go.Proofs.YtbnjhmcbkocdjaaW.PrintWords Go.Proofs.YtbnjhmcbkocdjaaW.PrintLast Go.Proofs.YtbnjhmcbkocdjaaW.PrintMore
set_option linter.unusedVariables false
set_option linter.unusedSimpArgs false
theorem leO_le {α : Type} {f : Nat → Option α} (hm : ∀ k, LeO (f k) (f (k + 1))) {x : α} {k : Nat} (h : f k = some x) : ∀ d, f (k + d) = some x
  | 0 => h
  | d + 1 => hm _ _ (leO_le hm h d)
theorem leO_ge {α : Type} {f : Nat → Option α} (hm : ∀ k, LeO (f k) (f (k + 1))) {x : α} {k j : Nat} (h : f k = some x) (hj : k ≤ j) : f j = some x := by
  obtain ⟨d, rfl⟩ := Nat.exists_eq_add_of_le hj
  exact leO_le hm h d
theorem wrap_id {n : Int} (h0 : -9223372036854775808 ≤ n) (h1 : n ≤ 9223372036854775807) : wrap64 n = n := by unfold wrap64; omega
theorem head_ok : augurylaw05_head.f 40 = some true := by kernel_rfl
theorem read_word (f : Ieee.Format) (neg : Bool) (r : Nat) (h : r ≤ f.infRung) : (f.read (f.word neg r)).order (f.read (f.word neg r)) = some .eq := by
  have hb := f.infRung_lt
  have hw : f.word neg r % f.signWeight = r := by
    unfold Ieee.Format.word
    cases neg
    · simp only [Bool.false_eq_true, if_false]
      first | exact Nat.mod_eq_of_lt (by omega) | (rw [Nat.zero_add]; exact Nat.mod_eq_of_lt (by omega))
    · simp only [if_true]
      first | (rw [Nat.add_mod_left]; exact Nat.mod_eq_of_lt (by omega)) | (rw [Nat.add_mod_right]; exact Nat.mod_eq_of_lt (by omega))
  unfold Ieee.Format.read
  simp only [hw]
  by_cases h1 : r < f.binade
  · rw [if_pos h1]
    simp [Ieee.Datum.order]
  · rw [if_neg h1]
    by_cases h2 : r < f.infRung
    · rw [if_pos h2]
      simp [Ieee.Datum.order]
    · rw [if_neg h2, if_pos (by omega)]
      simp [Ieee.Datum.order]
theorem order_nearest (f : Ieee.Format) (neg : Bool) (mag : Nat) (place : Int) : f.order (f.nearest neg mag place) (f.nearest neg mag place) = some .eq := by
  unfold Ieee.Format.order Ieee.Format.nearest
  split
  · exact read_word f neg 0 (Nat.zero_le _)
  · exact read_word f neg _ (Nat.min_le_right _ _)
theorem flEq_ofInt (n : Int) : flEq (floatOfInt .f64 n) (floatOfInt .f64 n) = true := by
  unfold flEq floatOfInt
  have h : (FloatKind.f64.format.order (FloatKind.f64.nearest n) (FloatKind.f64.nearest n)) = some .eq := order_nearest _ _ _ _
  rw [h]; rfl
/-- Is one ahead of another one. -/
def lessE (a0 a1 a2 b0 b1 b2 : Int) : Bool := if a0 = b0 then (if a1 = b1 then decide (a2 < b2) else decide (a1 < b1)) else decide (a0 < b0)
theorem less_eq (k : Nat) (a0 a1 a2 : Int) (a3 : ByteArray) (a4 : List S52) (b0 b1 b2 : Int) (b3 : ByteArray) (b4 : List S52) :
    event_Less.f (k + 1) a0 a1 a2 a3 a4 b0 b1 b2 b3 b4 = some (lessE a0 a1 a2 b0 b1 b2) := by
  unfold event_Less.f event_when.f lessE
  simp only [Option.bind_some, event_Less.j0]
  by_cases h0 : a0 = b0
  · subst h0
    by_cases h1 : a1 = b1
    · subst h1
      simp [flEq_ofInt]
    · have : (a1 == b1) = false := by simp [h1]
      simp [h1]
  · simp [h0]
theorem great_l0 (a0 a1 a2 : Int) (a3 : ByteArray) (l : List S52) (hl : l.length ≤ 9223372036854775807) : ∀ (d : Nat) (n i : Int), 0 ≤ i → i + d = l.length → ∃ b, augurylaw05_GreatEvent.l0 (d + 1) n i a0 a1 a2 a3 l = some b
  | 0, n, i, h0, h1 => by
    unfold augurylaw05_GreatEvent.l0
    rw [if_neg (by omega)]
    exact ⟨_, rfl⟩
  | d + 1, n, i, h0, h1 => by
    unfold augurylaw05_GreatEvent.l0
    rw [if_pos (by omega), if_pos h0, wrap_id (n := i + 1) (by omega) (by omega)]
    split
    · exact great_l0 a0 a1 a2 a3 l hl d _ (i + 1) (by omega) (by omega)
    · exact ⟨_, rfl⟩
theorem great_ex (a0 a1 a2 : Int) (a3 : ByteArray) (l : List S52) (hl : l.length ≤ 9223372036854775807) : ∃ b, ∀ k, l.length + 1 ≤ k → augurylaw05_GreatEvent.f k a0 a1 a2 a3 l = some b := by
  obtain ⟨b, hb⟩ := great_l0 a0 a1 a2 a3 l hl l.length (wrap64 ((a3.size : Int) + (l.length : Int))) 0 (Int.le_refl _) (by omega)
  exact ⟨b, fun k hk => leO_ge (f := fun k => augurylaw05_GreatEvent.f k a0 a1 a2 a3 l) (fun k => augurylaw05_GreatEvent.mono _ _ _ _ _ k) hb hk⟩
theorem ok_len {x : S25} (h : ok25 x) : x.f4.length ≤ 9223372036854775807 := by
  have := h.2.2.2.2.1
  omega
end Go.Proofs.Ytbnjhmcbkocdjaa.Pure
namespace Go.Proofs.Ytbnjhmcbkocdjaa.Pure
open Go.Proofs.Ytbnjhmcbkocdjaa.PAll
open Go.RowKit Go.Proofs.YtbnjhmcbkocdjaaW.PrintWords Go.Proofs.YtbnjhmcbkocdjaaW.PrintLast Go.Proofs.YtbnjhmcbkocdjaaW.PrintMore
set_option linter.unusedVariables false
set_option linter.unusedSimpArgs false
def okc (c : Int) (i : Nat) : Prop := (97 ≤ c ∧ c ≤ 122) ∨ (0 < i ∧ (c = 95 ∨ (48 ≤ c ∧ c ≤ 57)))
instance (c : Int) (i : Nat) : Decidable (okc c i) := by unfold okc; exact inferInstance
def WordP (s : ByteArray) : Prop := (∀ j, j < s.size → okc (bt s j) j) ∧ 1 ≤ s.size ∧ s.size ≤ 16
instance (s : ByteArray) : Decidable (WordP s) := by unfold WordP; exact inferInstance
def wordB (s : ByteArray) : Bool := decide (WordP s)
theorem toList_nil (s : ByteArray) : s.toList = ([] : List UInt8) ↔ s.size = 0 := by
  rw [ByteArray.toList_eq]
  rw [show s.size = s.data.toList.length from (by rw [Array.length_toList]; rfl)]
  exact List.length_eq_zero_iff.symm
theorem word_bad {s : ByteArray} {i : Nat} (hi : i < s.size) (h : ¬ okc (bt s i) i) : wordB s = false := by
  unfold wordB
  exact decide_eq_false fun q => h (q.1 i hi)
theorem word_l0 (s : ByteArray) (hs : s.size ≤ 9223372036854775807) : ∀ (d i : Nat), i + d = s.size → (∀ j, j < i → okc (bt s j) j) → ∀ k, 2 * d + 1 ≤ k → event_Word.l0 k s (s.size : Int) (i : Int) = some (wordB s)
  | 0, i, hi, hp, k, hk => by
    obtain ⟨k, rfl⟩ : ∃ m, k = m + 1 := ⟨k - 1, by omega⟩
    unfold event_Word.l0
    rw [if_neg (by omega)]
    by_cases h0 : s.toList = ([] : List UInt8)
    · rw [if_pos h0]
      have h1 := (toList_nil s).1 h0
      congr 1
      unfold wordB
      exact (decide_eq_false fun q => by have := q.2.1; omega).symm
    · rw [if_neg h0]
      have h1 : ¬ s.size = 0 := fun q => h0 ((toList_nil s).2 q)
      congr 1
      unfold wordB
      rw [decide_eq_decide]
      constructor
      · intro h
        exact ⟨fun j hj => hp j (by omega), by omega, by omega⟩
      · intro h
        have := h.2.2
        omega
  | d + 1, i, hi, hp, k, hk => by
    obtain ⟨k, rfl⟩ : ∃ m, k = m + 2 := ⟨k - 2, by omega⟩
    have ih : okc (bt s i) i → event_Word.l0 k s (s.size : Int) (wrap64 ((i : Int) + 1)) = some (wordB s) := by
      intro h
      rw [wrap_id (n := (i : Int) + 1) (by omega) (by omega)]
      refine word_l0 s hs d (i + 1) (by omega) (fun j hj => ?_) k (by omega)
      by_cases e : j = i
      · subst e; exact h
      · exact hp j (by omega)
    unfold event_Word.l0
    rw [if_pos (by omega), if_pos (by omega), if_pos (by omega)]
    have key : ∀ b : Bool, (b = true → 97 ≤ bt s i ∧ bt s i ≤ 122) → (b = false → ¬ (97 ≤ bt s i ∧ bt s i ≤ 122)) → event_Word.j1 (k + 1) s (i : Int) (bt s (i : Int)) (s.size : Int) (i : Int) b = some (wordB s) := by
      intro b h1 h2
      unfold event_Word.j1
      cases b with
      | true =>
        rw [if_pos rfl]
        exact ih (.inl (h1 rfl))
      | false =>
        rw [if_neg (by decide)]
        have h2 := h2 rfl
        by_cases h3 : (i : Int) > 0
        · rw [if_pos h3]
          by_cases h4 : bt s i = 95
          · rw [if_pos h4]
            exact ih (.inr ⟨by omega, .inl h4⟩)
          · rw [if_neg h4]
            by_cases h5 : bt s i ≥ 48
            · rw [if_pos h5]
              by_cases h6 : bt s i ≤ 57
              · rw [if_pos h6]
                exact ih (.inr ⟨by omega, .inr ⟨h5, h6⟩⟩)
              · rw [if_neg h6, word_bad (i := i) (by omega) (by unfold okc; omega)]
            · rw [if_neg h5, word_bad (i := i) (by omega) (by unfold okc; omega)]
        · rw [if_neg h3, word_bad (i := i) (by omega) (by unfold okc; omega)]
    by_cases h7 : bt s i ≥ 97
    · rw [if_pos h7]
      exact key _ (fun h => ⟨h7, of_decide_eq_true h⟩) (fun h q => by have := of_decide_eq_false h; omega)
    · rw [if_neg h7]
      exact key _ (fun h => by cases h) (fun _ q => by omega)
theorem word_eq (s : ByteArray) (hs : s.size ≤ 9223372036854775807) (k : Nat) (hk : 2 * s.size + 1 ≤ k) : event_Word.f k s = some (wordB s) :=
  word_l0 s hs s.size 0 (by omega) (fun j hj => by omega) k hk
theorem wordr_l0 (s : ByteArray) (hs : s.size ≤ 9223372036854775807) : ∀ (d i : Nat), i + d = s.size → (∀ j, j < i → okc (bt s j) j) → ∀ k, d + 1 ≤ k → auguryref05_Word.l0 k s (i : Int) = some (wordB s)
  | 0, i, hi, hp, k, hk => by
    obtain ⟨k, rfl⟩ : ∃ m, k = m + 1 := ⟨k - 1, by omega⟩
    unfold auguryref05_Word.l0
    rw [if_neg (by omega)]
    by_cases h0 : (s.size : Int) ≥ 1
    · rw [if_pos h0]
      congr 1
      unfold wordB
      rw [decide_eq_decide]
      constructor
      · intro h
        exact ⟨fun j hj => hp j (by omega), by omega, by omega⟩
      · intro h
        have := h.2.2
        omega
    · rw [if_neg h0]
      congr 1
      unfold wordB
      exact (decide_eq_false fun q => by have := q.2.1; omega).symm
  | d + 1, i, hi, hp, k, hk => by
    obtain ⟨k, rfl⟩ : ∃ m, k = m + 1 := ⟨k - 1, by omega⟩
    have ih : okc (bt s i) i → auguryref05_Word.l0 k s (wrap64 ((i : Int) + 1)) = some (wordB s) := by
      intro h
      rw [wrap_id (n := (i : Int) + 1) (by omega) (by omega)]
      refine wordr_l0 s hs d (i + 1) (by omega) (fun j hj => ?_) k (by omega)
      by_cases e : j = i
      · subst e; exact h
      · exact hp j (by omega)
    have bad : ¬ okc (bt s i) i → some false = some (wordB s) := fun h => by rw [word_bad (i := i) (by omega) h]
    unfold auguryref05_Word.l0
    rw [if_pos (by omega), if_pos (by omega)]
    split
    · split
      · exact ih (.inl ⟨by omega, by omega⟩)
      · split
        · exact bad (by unfold okc; omega)
        · split
          · exact ih (.inr ⟨by omega, .inl (by omega)⟩)
          · split
            · exact bad (by unfold okc; omega)
            · split
              · exact bad (by unfold okc; omega)
              · exact ih (.inr ⟨by omega, .inr ⟨by omega, by omega⟩⟩)
    · split
      · exact bad (by unfold okc; omega)
      · split
        · exact ih (.inr ⟨by omega, .inl (by omega)⟩)
        · split
          · exact bad (by unfold okc; omega)
          · split
            · exact bad (by unfold okc; omega)
            · exact ih (.inr ⟨by omega, .inr ⟨by omega, by omega⟩⟩)
theorem wordr_eq (s : ByteArray) (hs : s.size ≤ 9223372036854775807) (k : Nat) (hk : s.size + 1 ≤ k) : auguryref05_Word.f k s = some (wordB s) :=
  wordr_l0 s hs s.size 0 (by omega) (fun j hj => by omega) k hk
end Go.Proofs.Ytbnjhmcbkocdjaa.Pure
namespace Go.Proofs.Ytbnjhmcbkocdjaa.PAll
open Go.RowKit Go.Proofs.YtbnjhmcbkocdjaaW.PrintWords Go.Proofs.YtbnjhmcbkocdjaaW.PrintLast Go.Proofs.YtbnjhmcbkocdjaaW.PrintMore
set_option linter.unusedVariables false
set_option linter.unusedSimpArgs false

def Bytes (l : List Int) : Prop := ∀ x ∈ l, 0 ≤ x ∧ x < 256
theorem bytes_of_wf {l : List Int} (h : ∀ x ∈ l, (Lit.int .u8 x).wf = true) : Bytes l := by
  intro x hx
  have := h x hx
  simp [Lit.wf, IntKind.min, IntKind.max, IntKind.bits, IntKind.signed] at this
  omega
theorem rd_byte {l : List Int} (h : Bytes l) (i : Int) : 0 ≤ rd l i ∧ rd l i < 256 := by
  unfold rd
  by_cases hi : i.toNat < l.length
  · rw [List.getD_eq_getElem?_getD, List.getElem?_eq_getElem hi]
    exact h _ (List.getElem_mem hi)
  · rw [List.getD_eq_getElem?_getD, List.getElem?_eq_none (by omega)]
    decide
theorem bytes_drop {l : List Int} (h : Bytes l) (n : Nat) : Bytes (l.drop n) := fun x hx => h x (List.mem_of_mem_drop hx)
theorem wrap_in {n : Int} (h0 : -9223372036854775808 ≤ n) (h1 : n ≤ 9223372036854775807) : wrap64 n = n := by unfold wrap64; omega
theorem wrap_u64 (n : Int) : IntKind.u64.wrap n = n % 18446744073709551616 := by simp [IntKind.wrap, IntKind.bits, IntKind.signed]
theorem u64_in {n : Int} (h0 : 0 ≤ n) (h1 : n < 2 ^ 63) : IntKind.u64.wrap n = n := by
  rw [wrap_u64]
  omega
theorem or_low (n m s : Nat) (hn : n < 2 ^ s) (hm : m < 128) (hs : s ≤ 49) : bits .or .u64 (n : Int) (((m * 2 ^ s : Nat)) : Int) = ((n + m * 2 ^ s : Nat) : Int) := by
  have h2 : 2 ^ s ≤ 2 ^ 49 := Nat.pow_le_pow_right (by decide) hs
  have h3 : m * 2 ^ s < 2 ^ 63 := by
    have : m * 2 ^ s ≤ 127 * 2 ^ 49 := Nat.mul_le_mul (by omega) h2
    omega
  rw [(bits_nat .u64 63 (by decide) (fun n h0 h1 => u64_in h0 h1) n (m * 2 ^ s) (by omega) h3).2]
  rw [Nat.or_comm, Nat.mul_comm, ← Nat.two_pow_add_eq_or_of_lt hn m, Nat.add_comm]
theorem bitsE (i n b : Int) (hi0 : 0 ≤ i) (hi : i ≤ 6) (hn0 : 0 ≤ n) (hn : n < 2 ^ (7 * i).toNat) (hb0 : 0 ≤ b) (hb : b < 256) :
    bits .or .u64 n (shl .u64 (IntKind.u64.wrap (bits .and .u8 b 127)) (wrap64 (7 * i))) = n + b % 128 * 2 ^ (7 * i).toNat := by
  have e1 : bits .and .u8 b 127 = b % 128 := bits_mask .u8 8 (by decide) wraps_u8 7 (by decide) b hb0 hb
  rw [e1, u64_in (by omega) (by omega), wrap_in (by omega) (by omega)]
  obtain ⟨m, hm⟩ := Int.eq_ofNat_of_zero_le (show 0 ≤ b % 128 by omega)
  obtain ⟨a, ha⟩ := Int.eq_ofNat_of_zero_le hn0
  obtain ⟨s, hs⟩ : ∃ s : Nat, (7 * i).toNat = s := ⟨_, rfl⟩
  rw [hs] at hn ⊢
  have hs6 : s ≤ 42 := by omega
  have hsm : min s 64 = s := by omega
  have h2 : 2 ^ s ≤ 2 ^ 42 := Nat.pow_le_pow_right (by decide) hs6
  have hlt : m * 2 ^ s < 2 ^ 63 := by
    have : m * 2 ^ s ≤ 127 * 2 ^ 42 := Nat.mul_le_mul (by omega) h2
    omega
  rw [hm, ha]
  unfold shl
  rw [hs]
  simp only [IntKind.bits, hsm]
  have ec : ((m : Int) * 2 ^ s) = ((m * 2 ^ s : Nat) : Int) := by push_cast; rfl
  rw [ec, u64_in (by omega) (by exact_mod_cast hlt)]
  have hn' : a < 2 ^ s := by
    rw [ha] at hn
    exact_mod_cast hn
  have := or_low a m s hn' (by omega) (by omega)
  rw [this]
  push_cast
  rfl

/-- The number of the digits from i on, up to the seventh. -/
def numG (l : List Int) : Nat → Int → Int → Option (Int × Int × Bool)
  | 0, _, _ => none
  | d + 1, i, n => if i < (l.length : Int) then (if rd l i < 128 then some (n + rd l i % 128 * 2 ^ (7 * i).toNat, i + 1, decide (i = 0) || decide (rd l i > 0)) else numG l d (i + 1) (n + rd l i % 128 * 2 ^ (7 * i).toNat)) else none

theorem step_lt (i n b : Int) (hi0 : 0 ≤ i) (hi : i ≤ 6) (hn0 : 0 ≤ n) (hn : n < 2 ^ (7 * i).toNat) :
    0 ≤ n + b % 128 * 2 ^ (7 * i).toNat ∧ n + b % 128 * 2 ^ (7 * i).toNat < 2 ^ (7 * (i + 1)).toNat := by
  have e : (7 * (i + 1)).toNat = (7 * i).toNat + 7 := by omega
  rw [e, Int.pow_add]
  obtain ⟨p, hp⟩ : ∃ p : Int, (2 : Int) ^ (7 * i).toNat = p := ⟨_, rfl⟩
  rw [hp] at hn ⊢
  have h1 : 0 ≤ b % 128 := by omega
  have h2 : b % 128 ≤ 127 := by omega
  have h3 : 0 ≤ b % 128 * p := Int.mul_nonneg h1 (by omega)
  have h4 : b % 128 * p ≤ 127 * p := Int.mul_le_mul_of_nonneg_right h2 (by omega)
  omega
theorem pow_small (i : Int) (hi : i ≤ 7) : (2 : Int) ^ (7 * i).toNat ≤ 562949953421312 := by
  have h : 2 ^ (7 * i).toNat ≤ 562949953421312 := Nat.le_trans (show 2 ^ (7 * i).toNat ≤ 2 ^ 49 from Nat.pow_le_pow_right (by decide) (by omega)) (by decide)
  rw [show ((2 : Int) ^ (7 * i).toNat) = ((2 ^ (7 * i).toNat : Nat) : Int) from (Int.natCast_pow 2 _).symm]
  exact Int.ofNat_le.2 h

theorem numG_bound (l : List Int) : ∀ (d : Nat) (i n : Int), 0 ≤ i → i + d = 7 → 0 ≤ n → n < 2 ^ (7 * i).toNat → ∀ m j fl, numG l d i n = some (m, j, fl) → 0 ≤ m ∧ m < 562949953421312 ∧ 1 ≤ j ∧ j ≤ 7 ∧ j ≤ l.length := by
  intro d
  induction d with
  | zero => intro i n _ _ _ _ m j fl h; simp [numG] at h
  | succ d ih =>
    intro i n hi0 hid hn0 hn m j fl h
    have hs := step_lt i n (rd l i) hi0 (by omega) hn0 hn
    have hp := pow_small (i + 1) (by omega)
    rw [numG] at h
    by_cases c : i < (l.length : Int)
    · rw [if_pos c] at h
      by_cases c2 : rd l i < 128
      · rw [if_pos c2] at h
        simp only [Option.some.injEq, Prod.mk.injEq] at h
        obtain ⟨rfl, rfl, rfl⟩ := h
        exact ⟨hs.1, by omega, by omega, by omega, by omega⟩
      · rw [if_neg c2] at h
        exact ih (i + 1) _ (by omega) (by omega) hs.1 hs.2 m j fl h
    · rw [if_neg c] at h; cases h

theorem number_l0 (l : List Int) (hb : Bytes l) (hl : l.length ≤ 140737488355328) : ∀ (d k : Nat) (i n : Int), 0 ≤ i → i + d = 7 → 0 ≤ n → n < 2 ^ (7 * i).toNat → d < k →
    value_number.l0 k l n (mn (l.length : Int) 7) i = some ((numG l d i n).getD (0, 0, false)) := by
  intro d
  induction d with
  | zero =>
    intro k i n hi0 hid hn0 hn hk
    obtain ⟨k, rfl⟩ : ∃ m, k = m + 1 := ⟨k - 1, by omega⟩
    simp only [value_number.l0]
    rw [if_neg (by unfold mn; split <;> omega)]
    rfl
  | succ d ih =>
    intro k i n hi0 hid hn0 hn hk
    obtain ⟨k, rfl⟩ : ∃ m, k = m + 1 := ⟨k - 1, by omega⟩
    have hby := rd_byte hb i
    have hs := step_lt i n (rd l i) hi0 (by omega) hn0 hn
    simp only [value_number.l0]
    by_cases c : i < (l.length : Int)
    · rw [if_pos (by unfold mn; split <;> omega), if_pos hi0, if_pos c, wrap_in (n := 7 * i) (by omega) (by omega), if_pos (by omega)]
      have hE := bitsE i n (rd l i) hi0 (by omega) hn0 hn hby.1 hby.2
      rw [wrap_in (n := 7 * i) (by omega) (by omega)] at hE
      rw [hE, wrap_in (n := i + 1) (by omega) (by omega), numG, if_pos c]
      by_cases c2 : rd l i < 128
      · rw [if_pos c2, if_pos c2]
        by_cases c3 : i = 0
        · rw [if_pos c3]; simp [c3]
        · rw [if_neg c3]; simp [c3]
      · rw [if_neg c2, if_neg c2]
        exact ih k (i + 1) _ (by omega) (by omega) hs.1 hs.2 (by omega)
    · rw [if_neg (by unfold mn; split <;> omega), numG, if_neg c]
      rfl

/-- What the document's loop tells of it. -/
def numR (most : Int) : Option (Int × Int × Bool) → Int × Int × Bool
  | none => (0, 0, false)
  | some (m, j, fl) => if m > most then (0, 0, false) else if fl = true then (m, j, true) else (0, 0, false)

theorem number_ref (l : List Int) (hb : Bytes l) (most : Int) (hl : l.length ≤ 140737488355328) : ∀ (d k : Nat) (i n : Int), 0 ≤ i → i + d = 7 → 0 ≤ n → n < 2 ^ (7 * i).toNat → 2 * d + 1 < k →
    auguryref04_Number.l0 k l most n (2 ^ (7 * i).toNat) i = some (numR most (numG l d i n)) := by
  intro d
  induction d with
  | zero =>
    intro k i n hi0 hid hn0 hn hk
    obtain ⟨k, rfl⟩ : ∃ m, k = m + 2 := ⟨k - 2, by omega⟩
    simp only [auguryref04_Number.l0]
    have e7 : decide (i < 7) = false := decide_eq_false (by omega)
    rw [e7]
    by_cases c : i < (l.length : Int)
    · rw [if_pos c]; simp [auguryref04_Number.j1, numG, numR]
    · rw [if_neg c]; simp [auguryref04_Number.j1, numG, numR]
  | succ d ih =>
    intro k i n hi0 hid hn0 hn hk
    obtain ⟨k, rfl⟩ : ∃ m, k = m + 2 := ⟨k - 2, by omega⟩
    have hby := rd_byte hb i
    have hs := step_lt i n (rd l i) hi0 (by omega) hn0 hn
    have hp := pow_small (i + 1) (by omega)
    simp only [auguryref04_Number.l0]
    have e7 : decide (i < 7) = true := decide_eq_true (by omega)
    rw [e7]
    by_cases c : i < (l.length : Int)
    · rw [if_pos c]
      have ht : Int.tmod (rd l i) 128 = rd l i % 128 := Int.tmod_eq_emod_of_nonneg hby.1
      have hm0 : 0 ≤ rd l i % 128 * 2 ^ (7 * i).toNat := by have := hs.1; have h1 : 0 ≤ rd l i % 128 := by omega
                                                            exact Int.mul_nonneg h1 (by omega)
      have w1 : wrap64 (rd l i % 128) = rd l i % 128 := wrap_in (by omega) (by omega)
      have w2 : wrap64 (rd l i % 128 * 2 ^ (7 * i).toNat) = rd l i % 128 * 2 ^ (7 * i).toNat := wrap_in (by omega) (by omega)
      have w3 : wrap64 (n + rd l i % 128 * 2 ^ (7 * i).toNat) = n + rd l i % 128 * 2 ^ (7 * i).toNat := wrap_in (by omega) (by omega)
      have w4 : wrap64 (i + 1) = i + 1 := wrap_in (by omega) (by omega)
      have e8 : (2 : Int) ^ (7 * (i + 1)).toNat = 2 ^ (7 * i).toNat * 128 := by
        rw [show (7 * (i + 1)).toNat = (7 * i).toNat + 7 by omega, Int.pow_add]; rfl
      have w5 : wrap64 ((2 : Int) ^ (7 * i).toNat * 128) = 2 ^ (7 * (i + 1)).toNat := by rw [← e8]; exact wrap_in (by omega) (by omega)
      simp only [auguryref04_Number.j1, if_true, ht, w1, w2, w3, w4, w5]
      rw [if_pos hi0, if_pos c, numG, if_pos c]
      by_cases c2 : rd l i < 128
      · rw [if_pos c2, if_pos c2]
        simp only [numR]
        by_cases c4 : n + rd l i % 128 * 2 ^ (7 * i).toNat > most
        · rw [if_pos c4, if_pos c4]
        · rw [if_neg c4, if_neg c4]
          by_cases c5 : i > 0
          · rw [if_pos c5]
            by_cases c6 : rd l i = 0
            · rw [if_pos c6]
              have : (decide (i = 0) || decide (rd l i > 0)) = false := by simp [c6]; omega
              rw [this]; simp
            · rw [if_neg c6]
              have : (decide (i = 0) || decide (rd l i > 0)) = true := by simp; omega
              rw [this]; simp
          · rw [if_neg c5]
            have : (decide (i = 0) || decide (rd l i > 0)) = true := by simp; omega
            rw [this]; simp
      · rw [if_neg c2, if_neg c2]
        exact ih k (i + 1) _ (by omega) (by omega) hs.1 hs.2 (by omega)
    · rw [if_neg c, numG, if_neg c]
      simp [auguryref04_Number.j1, numR]

theorem value_number_eq (l : List Int) (hb : Bytes l) (hl : l.length ≤ 140737488355328) (k : Nat) (hk : 7 < k) : value_number.f k l = some ((numG l 7 0 0).getD (0, 0, false)) := by
  unfold value_number.f
  exact number_l0 l hb hl 7 k 0 0 (by omega) (by omega) (by omega) (by decide) hk
theorem ref_number_eq (l : List Int) (hb : Bytes l) (hl : l.length ≤ 140737488355328) (most : Int) (k : Nat) (hk : 15 < k) : auguryref04_Number.f k l most = some (numR most (numG l 7 0 0)) := by
  unfold auguryref04_Number.f
  exact number_ref l hb most hl 7 k 0 0 (by omega) (by omega) (by omega) (by decide) hk
end Go.Proofs.Ytbnjhmcbkocdjaa.PAll
namespace Go.Proofs.Ytbnjhmcbkocdjaa.PAll
open Go.RowKit Go.Proofs.YtbnjhmcbkocdjaaW.PrintWords Go.Proofs.YtbnjhmcbkocdjaaW.PrintLast Go.Proofs.YtbnjhmcbkocdjaaW.PrintMore
set_option linter.unusedVariables false
set_option linter.unusedSimpArgs false

theorem right_eq (k n : Int) (s : ByteArray) : value_Right.f k n s = auguryref04_Right.f k n s := by
  unfold value_Right.f auguryref04_Right.f
  by_cases h1 : k = 1
  · simp [h1]
  · by_cases h2 : k = 2
    · simp [h2]
    · by_cases h3 : k = 3 <;> simp [h1, h2, h3]
/-- May that be a value? -/
def okVal (k n : Int) (s : ByteArray) : Bool :=
  if k = 1 then decide (-1099511627776 ≤ n) && (decide (n ≤ 1099511627776) && (s.toList == ([] : List UInt8)))
  else if k = 2 then decide (n = 0) && decide ((s.size : Int) ≤ 64)
  else if k = 3 then decide (0 ≤ n) && (decide (n ≤ 1) && (s.toList == ([] : List UInt8))) else false
theorem right_ok (k n : Int) (s : ByteArray) : value_Right.f k n s = some (okVal k n s) := by
  unfold value_Right.f okVal
  by_cases h1 : k = 1
  · rw [if_pos h1, if_pos h1]
    by_cases a : n ≥ -1099511627776
    · rw [if_pos a, decide_eq_true (show -1099511627776 ≤ n from a), Bool.true_and]
      by_cases b : n ≤ 1099511627776
      · rw [if_pos b, decide_eq_true b, Bool.true_and]
      · rw [if_neg b, decide_eq_false b, Bool.false_and]
    · rw [if_neg a, decide_eq_false (show ¬ -1099511627776 ≤ n from a), Bool.false_and]
  · rw [if_neg h1, if_neg h1]
    by_cases h3 : k = 3
    · have h2 : ¬ k = 2 := by omega
      rw [if_pos h3, if_neg h2, if_pos h3]
      by_cases a : n ≥ 0
      · rw [if_pos a, decide_eq_true (show 0 ≤ n from a), Bool.true_and]
        by_cases b : n ≤ 1
        · rw [if_pos b, decide_eq_true b, Bool.true_and]
        · rw [if_neg b, decide_eq_false b, Bool.false_and]
      · rw [if_neg a, decide_eq_false (show ¬ 0 ≤ n from a), Bool.false_and]
    · rw [if_neg h3]
      by_cases h2 : k = 2
      · rw [if_pos h2, if_pos h2]
        by_cases a : n = 0
        · rw [if_pos a, decide_eq_true a, Bool.true_and]
        · rw [if_neg a, decide_eq_false a, Bool.false_and]
      · rw [if_neg h2, if_neg h2, if_neg h3]
theorem ref_right_ok (k n : Int) (s : ByteArray) : auguryref04_Right.f k n s = some (okVal k n s) := (right_eq k n s).symm.trans (right_ok k n s)

theorem i64_toNat (x : Int) : (BitVec.ofInt 64 x).toNat = (x % 18446744073709551616).toNat := by
  rw [BitVec.toNat_ofInt]
  rfl
theorem xor_zero (x : Int) (h0 : 0 ≤ x) (h1 : x < 4611686018427387904) : bits .xor .i64 x 0 = x := by
  have e : bits .xor .i64 x 0 = IntKind.i64.wrap ((BitVec.ofInt 64 x ^^^ BitVec.ofInt 64 0).toNat : Int) := rfl
  rw [e, show BitVec.ofInt 64 0 = 0#64 from rfl, BitVec.xor_zero, i64_toNat, IntKind.wrap_i64]
  omega
theorem xor_ones (x : Int) (h0 : 0 ≤ x) (h1 : x < 4611686018427387904) : bits .xor .i64 x (-1) = -x - 1 := by
  have e : bits .xor .i64 x (-1) = IntKind.i64.wrap ((BitVec.ofInt 64 x ^^^ BitVec.ofInt 64 (-1)).toNat : Int) := rfl
  rw [e, show BitVec.ofInt 64 (-1) = BitVec.allOnes 64 from rfl, BitVec.xor_allOnes, BitVec.toNat_not, i64_toNat, IntKind.wrap_i64]
  omega
theorem and_one (m : Int) (h0 : 0 ≤ m) (h1 : m < 2 ^ 63) : bits .and .u64 m 1 = m % 2 :=
  bits_mask .u64 63 (by decide) (fun n a b => u64_in a b) 1 (by decide) m h0 h1
/-- A number out of its digits' sum. -/
def zz (m : Int) : Int := if m % 2 = 1 then -(m / 2) - 1 else m / 2
theorem zz_eq (m : Int) (h0 : 0 ≤ m) (h1 : m < 562949953421312) : bits .xor .i64 (wrap64 (m / 2)) (wrap64 (-(wrap64 (bits .and .u64 m 1)))) = zz m := by
  rw [and_one m h0 (by omega), wrap_in (n := m / 2) (by omega) (by omega), wrap_in (n := m % 2) (by omega) (by omega)]
  unfold zz
  by_cases h : m % 2 = 1
  · rw [if_pos h, h, wrap_in (n := -1) (by omega) (by omega), xor_ones _ (by omega) (by omega)]
  · rw [if_neg h, show m % 2 = 0 by omega, show wrap64 (-0) = 0 from by unfold wrap64; omega]
    exact xor_zero _ (by omega) (by omega)

theorem get_eq (l : List Int) (hb : Bytes l) (hl : l.length ≤ 1000000) (k : Nat) (hk : 15 < k) : ∃ r, value_Get.f k l = some r ∧ auguryref04_Get.f k l = some r := by
  have h0 := rd_byte hb 0
  have h1 := rd_byte hb 1
  have w0 : wrap64 (rd l 0) = rd l 0 := wrap_in (by omega) (by omega)
  have w1 : wrap64 (rd l 1) = rd l 1 := wrap_in (by omega) (by omega)
  have w2 : wrap64 (2 + rd l 1) = 2 + rd l 1 := wrap_in (by omega) (by omega)
  have w3 : wrap64 ((l.length : Int) - 2) = (l.length : Int) - 2 := wrap_in (by omega) (by omega)
  have hd := bytes_drop hb 1
  have hld : (l.drop 1).length ≤ 140737488355328 := by rw [List.length_drop]; omega
  unfold value_Get.f auguryref04_Get.f
  simp only [w0, w1, w2, w3, right_ok, ref_right_ok, Option.bind_some]
  by_cases c1 : (l.length : Int) < 2
  · simp only [if_pos c1]; exact ⟨_, rfl, rfl⟩
  simp only [if_neg c1]
  rw [if_pos (show 0 < (l.length : Int) by omega), if_pos (show 0 < (l.length : Int) by omega)]
  by_cases c2 : rd l 0 = 1
  · simp only [if_pos c2]
    rw [if_pos (show 1 ≤ (l.length : Int) by omega), if_pos (show 1 ≤ (l.length : Int) by omega)]
    rw [value_number_eq _ hd hld k (by omega), ref_number_eq _ hd hld _ k hk]
    simp only [Option.bind_some]
    cases hg : numG (l.drop 1) 7 0 0 with
    | none => simp [numR]
    | some t =>
      obtain ⟨m, j, fl⟩ := t
      obtain ⟨b0, b1, b2, b3, _⟩ := numG_bound (l.drop 1) 7 0 0 (by omega) (by omega) (by omega) (by decide) m j fl hg
      simp only [Option.getD_some, numR]
      rw [zz_eq m b0 b1, wrap_in (n := 1 + j) (by omega) (by omega)]
      cases fl with
      | false =>
        simp only [Bool.false_eq_true, if_false]
        by_cases c3 : m > 2199023255552
        · simp [if_pos c3]
        · simp [if_neg c3]
      | true =>
        simp only [if_true]
        by_cases c3 : m > 2199023255552
        · simp only [if_pos c3, Bool.false_eq_true, if_false]
          have : okVal (rd l 0) (zz m) ⟨#[]⟩ = false := by
            rw [c2]
            unfold okVal zz
            rw [if_pos rfl]
            by_cases c4 : m % 2 = 1
            · rw [if_pos c4]; simp; omega
            · rw [if_neg c4]; simp; omega
          rw [this]
          exact ⟨_, rfl, rfl⟩
        · simp only [if_neg c3, if_true]
          have t2 : Int.tmod m 2 = m % 2 := Int.tmod_eq_emod_of_nonneg b0
          have t3 : Int.tdiv m 2 = m / 2 := Int.tdiv_eq_ediv_of_nonneg b0
          rw [t2, t3, wrap_in (n := m / 2) (by omega) (by omega), wrap_in (n := -(m / 2)) (by omega) (by omega), wrap_in (n := -(m / 2) - 1) (by omega) (by omega), wrap_in (n := 1 + j) (by omega) (by omega)]
          by_cases c4 : m % 2 = 1
          · rw [if_pos c4, show zz m = -(m / 2) - 1 from if_pos c4]
            cases okVal (rd l 0) (-(m / 2) - 1) ⟨#[]⟩ <;> exact ⟨_, rfl, rfl⟩
          · rw [if_neg c4, show zz m = m / 2 from if_neg c4]
            cases okVal (rd l 0) (m / 2) ⟨#[]⟩ <;> exact ⟨_, rfl, rfl⟩
  simp only [if_neg c2]
  by_cases c5 : rd l 0 = 2
  · simp only [if_pos c5]
    rw [if_pos (show 1 < (l.length : Int) by omega), if_pos (show 1 < (l.length : Int) by omega)]
    by_cases c6 : 2 + rd l 1 ≤ (l.length : Int)
    · rw [if_pos c6, if_pos (show 2 ≤ 2 + rd l 1 by omega), if_neg (show ¬ rd l 1 > (l.length : Int) - 2 by omega), if_pos (show 2 ≤ 2 + rd l 1 by omega), if_pos c6]
      cases okVal (rd l 0) 0 (strOfNums (List.drop 2 (List.take (2 + rd l 1).toNat l))) <;> exact ⟨_, rfl, rfl⟩
    · rw [if_neg c6, if_pos (show rd l 1 > (l.length : Int) - 2 by omega)]
      exact ⟨_, rfl, rfl⟩
  simp only [if_neg c5]
  by_cases c7 : rd l 0 = 3
  · simp only [if_pos c7]
    rw [if_pos (show 1 < (l.length : Int) by omega)]
    cases okVal (rd l 0) (rd l 1) ⟨#[]⟩ <;> exact ⟨_, rfl, rfl⟩
  · simp only [if_neg c7]
    cases okVal (rd l 0) 0 ⟨#[]⟩ <;> exact ⟨_, rfl, rfl⟩
end Go.Proofs.Ytbnjhmcbkocdjaa.PAll
namespace Go.Proofs.Ytbnjhmcbkocdjaa.Pure
open Go.Proofs.Ytbnjhmcbkocdjaa.PAll
open Go.RowKit Go.Proofs.YtbnjhmcbkocdjaaW.PrintWords Go.Proofs.YtbnjhmcbkocdjaaW.PrintLast Go.Proofs.YtbnjhmcbkocdjaaW.PrintMore
set_option linter.unusedVariables false
set_option linter.unusedSimpArgs false
theorem wrap_nat {i : Nat} (h : i < 9223372036854775807) : wrap64 ((i : Int) + 1) = ((i + 1 : Nat) : Int) := by rw [wrap_id (by omega) (by omega)]; omega
/-- The first value that is none. -/
def badI (l : List S52) : Nat → Nat → Int
  | 0, _ => -1
  | d + 1, i => if okVal (rd_T52 l i).f0 (rd_T52 l i).f1 (rd_T52 l i).f2 = true then badI l d (i + 1) else i
theorem bad_l0 (l : List S52) (hl : l.length ≤ 140737488351232) : ∀ (d i k : Nat), i + d = l.length → d < k → api_Val__f52_55.l0 k l (l.length : Int) (i : Int) = some (badI l d i)
  | 0, i, k, hi, hk => by
    obtain ⟨k, rfl⟩ : ∃ m, k = m + 1 := ⟨k - 1, by omega⟩
    unfold api_Val__f52_55.l0 badI
    rw [if_neg (by omega)]
  | d + 1, i, k, hi, hk => by
    obtain ⟨k, rfl⟩ : ∃ m, k = m + 1 := ⟨k - 1, by omega⟩
    unfold api_Val__f52_55.l0 badI
    rw [if_pos (by omega), if_pos (by omega), if_pos (by omega)]
    unfold event_right_1.f
    simp only [right_ok, Option.bind_some]
    cases h : okVal (rd_T52 l i).f0 (rd_T52 l i).f1 (rd_T52 l i).f2 with
    | true =>
      simp only [Bool.not_true, Bool.false_eq_true, if_false, if_true]
      rw [wrap_nat (by omega)]
      exact bad_l0 l hl d (i + 1) k (by omega) (by omega)
    | false => simp
theorem badr_l0 (l : List S52) (hl : l.length ≤ 140737488351232) (a0 a1 a2 : Int) (a3 : ByteArray) : ∀ (d i k : Nat), i + d = l.length → d < k → auguryref05_Right.l0 k (i : Int) a0 a1 a2 a3 l = some (decide (badI l d i < 0) && decide (l.length ≤ 8))
  | 0, i, k, hi, hk => by
    obtain ⟨k, rfl⟩ : ∃ m, k = m + 1 := ⟨k - 1, by omega⟩
    unfold auguryref05_Right.l0 badI
    rw [if_neg (by omega)]
    simp
    omega
  | d + 1, i, k, hi, hk => by
    obtain ⟨k, rfl⟩ : ∃ m, k = m + 1 := ⟨k - 1, by omega⟩
    unfold auguryref05_Right.l0 badI
    rw [if_pos (by omega), if_pos (by omega)]
    simp only [ref_right_ok, Option.bind_some]
    cases h : okVal (rd_T52 l i).f0 (rd_T52 l i).f1 (rd_T52 l i).f2 with
    | true =>
      simp only [if_true]
      rw [wrap_nat (by omega)]
      exact badr_l0 l hl a0 a1 a2 a3 d (i + 1) k (by omega) (by omega)
    | false =>
      have : ¬ ((i : Int) < 0) := by omega
      simp [this]
def rightB (a0 a1 a2 : Int) (a3 : ByteArray) (l : List S52) : Bool :=
  decide (0 ≤ a0 ∧ a0 ≤ 1099511627776 ∧ 0 ≤ a2 ∧ a2 ≤ 1099511627776 ∧ 0 ≤ a1 ∧ a1 ≤ 3) && (wordB a3 && (decide (l.length ≤ 8) && decide (badI l l.length 0 < 0)))
theorem within_eq (a b : Int) : event_within.f a b = some (decide (0 ≤ a ∧ a ≤ b)) := by
  unfold event_within.f
  by_cases h : a ≥ 0
  · rw [if_pos h]
    congr 1
    rw [decide_eq_decide]
    exact ⟨fun q => ⟨h, q⟩, fun q => q.2⟩
  · rw [if_neg h]
    congr 1
    exact (decide_eq_false fun q => h q.1).symm
theorem right_eq' (a0 a1 a2 : Int) (a3 : ByteArray) (l : List S52) (h3 : a3.size ≤ 140737488351232) (hl : l.length ≤ 140737488351232) (k : Nat) (hk : 300000000000000 ≤ k) :
    event_right.f k a0 a1 a2 a3 l = some (rightB a0 a1 a2 a3 l) := by
  have hb : api_Val__f52_55.l0 k l (l.length : Int) 0 = some (badI l l.length 0) := bad_l0 l hl l.length 0 k (by omega) (by omega)
  unfold event_right.f rightB api_Val__f52_51.f api_Val__f52_55.f
  rw [within_eq, within_eq, within_eq, word_eq a3 (by omega) k (by omega), hb]
  simp only [Option.bind_some]
  by_cases h0 : 0 ≤ a0 ∧ a0 ≤ 1099511627776
  · by_cases h2 : 0 ≤ a2 ∧ a2 ≤ 1099511627776
    · by_cases h1 : 0 ≤ a1 ∧ a1 ≤ 3
      · rw [decide_eq_true h0, decide_eq_true h2, decide_eq_true h1, if_pos rfl, if_pos rfl, if_pos rfl, decide_eq_true (p := 0 ≤ a0 ∧ a0 ≤ 1099511627776 ∧ 0 ≤ a2 ∧ a2 ≤ 1099511627776 ∧ 0 ≤ a1 ∧ a1 ≤ 3) ⟨h0.1, h0.2, h2.1, h2.2, h1.1, h1.2⟩, Bool.true_and]
        cases wordB a3 with
        | false => rfl
        | true =>
          rw [if_pos rfl, Bool.true_and]
          by_cases h4 : (l.length : Int) ≤ 8
          · rw [if_pos h4, decide_eq_true (show l.length ≤ 8 by omega), Bool.true_and]
            congr 1
            rw [Bool.eq_iff_iff]
            simp
          · rw [if_neg h4, decide_eq_false (show ¬ l.length ≤ 8 by omega), Bool.false_and]
      · rw [decide_eq_true h0, decide_eq_true h2, decide_eq_false h1, if_pos rfl, if_pos rfl, if_neg (by decide), decide_eq_false (p := 0 ≤ a0 ∧ a0 ≤ 1099511627776 ∧ 0 ≤ a2 ∧ a2 ≤ 1099511627776 ∧ 0 ≤ a1 ∧ a1 ≤ 3) (fun q => h1 q.2.2.2.2), Bool.false_and]
    · rw [decide_eq_true h0, decide_eq_false h2, if_pos rfl, if_neg (by decide), decide_eq_false (p := 0 ≤ a0 ∧ a0 ≤ 1099511627776 ∧ 0 ≤ a2 ∧ a2 ≤ 1099511627776 ∧ 0 ≤ a1 ∧ a1 ≤ 3) (fun q => h2 ⟨q.2.2.1, q.2.2.2.1⟩), Bool.false_and]
  · rw [decide_eq_false h0, if_neg (by decide), decide_eq_false (p := 0 ≤ a0 ∧ a0 ≤ 1099511627776 ∧ 0 ≤ a2 ∧ a2 ≤ 1099511627776 ∧ 0 ≤ a1 ∧ a1 ≤ 3) (fun q => h0 ⟨q.1, q.2.1⟩), Bool.false_and]
theorem rightr_j0 (b : Bool) (a0 a1 a2 : Int) (a3 : ByteArray) (l : List S52) (hl : l.length ≤ 140737488351232) (k : Nat) (hk : 200000000000000 ≤ k) :
    auguryref05_Right.j0 k b a0 a1 a2 a3 l = some (!b && (decide (l.length ≤ 8) && decide (badI l l.length 0 < 0))) := by
  obtain ⟨k, rfl⟩ : ∃ m, k = m + 1 := ⟨k - 1, by omega⟩
  unfold auguryref05_Right.j0
  dsimp only
  cases b with
  | true => simp
  | false =>
    have hb : auguryref05_Right.l0 k 0 a0 a1 a2 a3 l = some (decide (badI l l.length 0 < 0) && decide (l.length ≤ 8)) := badr_l0 l hl a0 a1 a2 a3 l.length 0 k (by omega) (by omega)
    rw [if_neg (by decide), hb, Bool.and_comm]
    rfl
theorem rightr_eq (a0 a1 a2 : Int) (a3 : ByteArray) (l : List S52) (h3 : a3.size ≤ 140737488351232) (hl : l.length ≤ 140737488351232) (k : Nat) (hk : 300000000000000 ≤ k) :
    auguryref05_Right.f k a0 a1 a2 a3 l = some (rightB a0 a1 a2 a3 l) := by
  have hj : ∀ b, auguryref05_Right.j0 k b a0 a1 a2 a3 l = some (!b && (decide (l.length ≤ 8) && decide (badI l l.length 0 < 0))) := fun b => rightr_j0 b a0 a1 a2 a3 l hl k (by omega)
  unfold auguryref05_Right.f rightB
  simp only [hj, wordr_eq a3 (by omega) k (by omega), Option.bind_some, Bool.not_true, Bool.false_and, Bool.not_not]
  by_cases h : 0 ≤ a0 ∧ a0 ≤ 1099511627776 ∧ 0 ≤ a2 ∧ a2 ≤ 1099511627776 ∧ 0 ≤ a1 ∧ a1 ≤ 3
  · rw [if_neg (by omega), if_neg (by omega), if_neg (by omega), if_neg (by omega), if_neg (by omega), if_neg (by omega), decide_eq_true h, Bool.true_and]
  · rw [decide_eq_false h, Bool.false_and]
    repeat' split
    all_goals first | rfl | (exfalso; omega)
/-- The place of a name among schemas, and among fields. -/
def idx31 (l : List S31) (a : ByteArray) : Nat → Nat → Int
  | 0, _ => -1
  | d + 1, i => if (rd_T31 l i).f0.toList = a.toList then i else idx31 l a d (i + 1)
def idx55 (l : List S55) (a : ByteArray) : Nat → Nat → Int
  | 0, _ => -1
  | d + 1, i => if (rd_T55 l i).f0.toList = a.toList then i else idx55 l a d (i + 1)
theorem idx31_range (l : List S31) (a : ByteArray) : ∀ d i : Nat, idx31 l a d i = -1 ∨ (0 ≤ idx31 l a d i ∧ idx31 l a d i < i + d)
  | 0, _ => .inl rfl
  | d + 1, i => by
    unfold idx31
    split
    · exact .inr ⟨by omega, by omega⟩
    · rcases idx31_range l a d (i + 1) with h | h
      · exact .inl h
      · exact .inr ⟨h.1, by omega⟩
theorem idx55_range (l : List S55) (a : ByteArray) : ∀ d i : Nat, idx55 l a d i = -1 ∨ (0 ≤ idx55 l a d i ∧ idx55 l a d i < i + d)
  | 0, _ => .inl rfl
  | d + 1, i => by
    unfold idx55
    split
    · exact .inr ⟨by omega, by omega⟩
    · rcases idx55_range l a d (i + 1) with h | h
      · exact .inl h
      · exact .inr ⟨h.1, by omega⟩
theorem idx31_l0 (l : List S31) (a : ByteArray) (hl : l.length ≤ 140737488351232) : ∀ (d i k : Nat), i + d = l.length → d < k → api_Schema__f32.l0 k l a (l.length : Int) (i : Int) = some (idx31 l a d i)
  | 0, i, k, hi, hk => by
    obtain ⟨k, rfl⟩ : ∃ m, k = m + 1 := ⟨k - 1, by omega⟩
    unfold api_Schema__f32.l0 idx31
    rw [if_neg (by omega)]
  | d + 1, i, k, hi, hk => by
    obtain ⟨k, rfl⟩ : ∃ m, k = m + 1 := ⟨k - 1, by omega⟩
    unfold api_Schema__f32.l0 idx31
    rw [if_pos (by omega), if_pos (by omega), if_pos (by omega)]
    unfold event_Find_1.f
    simp only [Option.bind_some]
    by_cases h : (rd_T31 l i).f0.toList = a.toList
    · rw [if_pos (by rw [h]; exact beq_self_eq_true _), if_pos h]
    · rw [if_neg (fun q => h (beq_iff_eq.1 q)), if_neg h, wrap_nat (by omega)]
      exact idx31_l0 l a hl d (i + 1) k (by omega) (by omega)
theorem idx55_l0 (l : List S55) (a : ByteArray) (hl : l.length ≤ 140737488351232) : ∀ (d i k : Nat), i + d = l.length → d < k → api_Field__f34.l0 k l a (l.length : Int) (i : Int) = some (idx55 l a d i)
  | 0, i, k, hi, hk => by
    obtain ⟨k, rfl⟩ : ∃ m, k = m + 1 := ⟨k - 1, by omega⟩
    unfold api_Field__f34.l0 idx55
    rw [if_neg (by omega)]
  | d + 1, i, k, hi, hk => by
    obtain ⟨k, rfl⟩ : ∃ m, k = m + 1 := ⟨k - 1, by omega⟩
    unfold api_Field__f34.l0 idx55
    rw [if_pos (by omega), if_pos (by omega), if_pos (by omega)]
    unfold event_Field_1.f
    simp only [Option.bind_some]
    by_cases h : (rd_T55 l i).f0.toList = a.toList
    · rw [if_pos (by rw [h]; exact beq_self_eq_true _), if_pos h]
    · rw [if_neg (fun q => h (beq_iff_eq.1 q)), if_neg h, wrap_nat (by omega)]
      exact idx55_l0 l a hl d (i + 1) k (by omega) (by omega)
def findS (l : List S31) (a : ByteArray) : ByteArray × List S55 × Bool :=
  if idx31 l a l.length 0 < 0 then (⟨#[]⟩, [], false) else ((rd_T31 l (idx31 l a l.length 0)).f0, (rd_T31 l (idx31 l a l.length 0)).f1, true)
def fieldS (l : List S55) (a : ByteArray) : Int × Int :=
  if idx55 l a l.length 0 < 0 then (-1, 0) else (idx55 l a l.length 0, (rd_T55 l (idx55 l a l.length 0)).f1)
theorem find_eq (l : List S31) (a : ByteArray) (hl : l.length ≤ 140737488351232) (k : Nat) (hk : 200000000000000 ≤ k) : event_Find.f k l a = some (findS l a) := by
  unfold event_Find.f findS api_Schema__f32.f
  have hb : api_Schema__f32.l0 k l a (l.length : Int) 0 = some (idx31 l a l.length 0) := idx31_l0 l a hl l.length 0 k (by omega) (by omega)
  rw [hb, Option.bind_some]
  have := idx31_range l a l.length 0
  by_cases h : idx31 l a l.length 0 < 0
  · rw [if_pos h, if_pos h]
  · rw [if_neg h, if_pos (by omega), if_pos (by omega), if_neg h]
theorem findr_l0 (l : List S31) (a : ByteArray) (hl : l.length ≤ 140737488351232) : ∀ (d i k : Nat), i + d = l.length → d < k → auguryref05_Find.l0 k l a (i : Int) = some (if idx31 l a d i < 0 then (⟨#[]⟩, [], false) else ((rd_T31 l (idx31 l a d i)).f0, (rd_T31 l (idx31 l a d i)).f1, true))
  | 0, i, k, hi, hk => by
    obtain ⟨k, rfl⟩ : ∃ m, k = m + 1 := ⟨k - 1, by omega⟩
    unfold auguryref05_Find.l0 idx31
    rw [if_neg (by omega)]
    rfl
  | d + 1, i, k, hi, hk => by
    obtain ⟨k, rfl⟩ : ∃ m, k = m + 1 := ⟨k - 1, by omega⟩
    unfold auguryref05_Find.l0 idx31
    rw [if_pos (by omega), if_pos (by omega)]
    by_cases h : (rd_T31 l i).f0.toList = a.toList
    · rw [if_pos h, if_pos h, if_neg (by omega)]
    · rw [if_neg h, if_neg h, wrap_nat (by omega)]
      exact findr_l0 l a hl d (i + 1) k (by omega) (by omega)
theorem findr_eq (l : List S31) (a : ByteArray) (hl : l.length ≤ 140737488351232) (k : Nat) (hk : 200000000000000 ≤ k) : auguryref05_Find.f k l a = some (findS l a) :=
  findr_l0 l a hl l.length 0 k (by omega) (by omega)
theorem field_eq (n : ByteArray) (l : List S55) (a : ByteArray) (hl : l.length ≤ 140737488351232) (k : Nat) (hk : 200000000000000 ≤ k) : event_Field.f k n l a = some (fieldS l a) := by
  unfold event_Field.f fieldS api_Field__f34.f
  have hb : api_Field__f34.l0 k l a (l.length : Int) 0 = some (idx55 l a l.length 0) := idx55_l0 l a hl l.length 0 k (by omega) (by omega)
  rw [hb, Option.bind_some]
  have := idx55_range l a l.length 0
  by_cases h : idx55 l a l.length 0 < 0
  · rw [if_pos h, if_pos h]
  · rw [if_neg h, if_pos (by omega), if_pos (by omega), if_neg h]
theorem fieldr_l0 (n : ByteArray) (l : List S55) (a : ByteArray) (hl : l.length ≤ 140737488351232) : ∀ (d i k : Nat), i + d = l.length → d < k → auguryref05_Field.l0 k a (i : Int) n l = some (if idx55 l a d i < 0 then (-1, 0) else (idx55 l a d i, (rd_T55 l (idx55 l a d i)).f1))
  | 0, i, k, hi, hk => by
    obtain ⟨k, rfl⟩ : ∃ m, k = m + 1 := ⟨k - 1, by omega⟩
    unfold auguryref05_Field.l0 idx55
    rw [if_neg (by omega)]
    rfl
  | d + 1, i, k, hi, hk => by
    obtain ⟨k, rfl⟩ : ∃ m, k = m + 1 := ⟨k - 1, by omega⟩
    unfold auguryref05_Field.l0 idx55
    rw [if_pos (by omega), if_pos (by omega)]
    by_cases h : (rd_T55 l i).f0.toList = a.toList
    · rw [if_pos h, if_pos h, if_neg (by omega)]
    · rw [if_neg h, if_neg h, wrap_nat (by omega)]
      exact fieldr_l0 n l a hl d (i + 1) k (by omega) (by omega)
theorem fieldr_eq (n : ByteArray) (l : List S55) (a : ByteArray) (hl : l.length ≤ 140737488351232) (k : Nat) (hk : 200000000000000 ≤ k) : auguryref05_Field.f k n l a = some (fieldS l a) :=
  fieldr_l0 n l a hl l.length 0 k (by omega) (by omega)
/-- Are the kinds alike, from a place on. -/
def kindsB (v : List S52) (f : List S55) : Nat → Nat → Bool
  | 0, _ => true
  | d + 1, i => decide ((rd_T52 v i).f0 = (rd_T55 f i).f1) && kindsB v f d (i + 1)
theorem kinds_l0 (v : List S52) (f : List S55) (hl : v.length ≤ 140737488351232) (he : v.length = f.length) : ∀ (d i k : Nat), i + d = v.length → d < k → api_Field__f37.l0 k f v (v.length : Int) (i : Int) = some (kindsB v f d i)
  | 0, i, k, hi, hk => by
    obtain ⟨k, rfl⟩ : ∃ m, k = m + 1 := ⟨k - 1, by omega⟩
    unfold api_Field__f37.l0 kindsB
    rw [if_neg (by omega)]
  | d + 1, i, k, hi, hk => by
    obtain ⟨k, rfl⟩ : ∃ m, k = m + 1 := ⟨k - 1, by omega⟩
    unfold api_Field__f37.l0 kindsB
    rw [if_pos (by omega), if_pos (by omega), if_pos (by omega), if_pos (by omega)]
    unfold event_Fits_1.f
    simp only [Option.bind_some]
    by_cases h : (rd_T52 v i).f0 = (rd_T55 f i).f1
    · rw [if_pos (by rw [h]; exact beq_self_eq_true _), decide_eq_true h, Bool.true_and, wrap_nat (by omega)]
      exact kinds_l0 v f hl he d (i + 1) k (by omega) (by omega)
    · rw [if_neg (fun q => h (beq_iff_eq.1 q)), decide_eq_false h, Bool.false_and]
theorem kindsr_l0 (a0 a1 a2 : Int) (a3 n : ByteArray) (v : List S52) (f : List S55) (hl : v.length ≤ 140737488351232) (he : v.length = f.length) : ∀ (d i k : Nat), i + d = v.length → d < k → auguryref05_Fits.l0 k (i : Int) a0 a1 a2 a3 v n f = some (if kindsB v f d i = true then 0 else 42)
  | 0, i, k, hi, hk => by
    obtain ⟨k, rfl⟩ : ∃ m, k = m + 1 := ⟨k - 1, by omega⟩
    unfold auguryref05_Fits.l0 kindsB
    rw [if_neg (by omega)]
    rfl
  | d + 1, i, k, hi, hk => by
    obtain ⟨k, rfl⟩ : ∃ m, k = m + 1 := ⟨k - 1, by omega⟩
    unfold auguryref05_Fits.l0 kindsB
    rw [if_pos (by omega), if_pos (by omega), if_pos (by omega)]
    by_cases h : (rd_T52 v i).f0 = (rd_T55 f i).f1
    · rw [if_pos h, decide_eq_true h, Bool.true_and, wrap_nat (by omega)]
      exact kindsr_l0 a0 a1 a2 a3 n v f hl he d (i + 1) k (by omega) (by omega)
    · rw [if_neg h, decide_eq_false h, Bool.false_and]
      rfl
/-- Does an event fit schemas: 0, or the error. -/
def fitsS (l : List S31) (a0 a1 a2 : Int) (a3 : ByteArray) (v : List S52) : Int :=
  if rightB a0 a1 a2 a3 v = true then (if (findS l a3).2.2 = true then (if v.length = (findS l a3).2.1.length ∧ kindsB v (findS l a3).2.1 v.length 0 = true then 0 else 42) else 12) else 1
theorem fits_eq (l : List S31) (a0 a1 a2 : Int) (a3 : ByteArray) (v : List S52) (hl : l.length ≤ 140737488351232) (h3 : a3.size ≤ 140737488351232) (hv : v.length ≤ 140737488351232) (k : Nat) (hk : 300000000000000 ≤ k) :
    event_Fits.f k l a0 a1 a2 a3 v = some (fitsS l a0 a1 a2 a3 v) := by
  unfold event_Fits.f fitsS
  rw [right_eq' a0 a1 a2 a3 v h3 hv k hk, find_eq l a3 hl k (by omega)]
  simp only [Option.bind_some]
  cases rightB a0 a1 a2 a3 v with
  | false => rfl
  | true =>
    rw [if_pos rfl, if_pos rfl]
    cases (findS l a3).2.2 with
    | false => rfl
    | true =>
      rw [if_pos rfl, if_pos rfl]
      unfold api_Field__f37.f
      by_cases e : v.length = (findS l a3).2.1.length
      · have hb : api_Field__f37.l0 k (findS l a3).2.1 v (v.length : Int) 0 = some (kindsB v (findS l a3).2.1 v.length 0) := kinds_l0 v _ hv e v.length 0 k (by omega) (by omega)
        rw [if_pos (by omega), hb, Option.bind_some]
        cases kindsB v (findS l a3).2.1 v.length 0 with
        | true => rw [if_pos rfl, if_pos ⟨e, rfl⟩]
        | false => rw [if_neg (by decide), if_neg (fun q => absurd q.2 (by decide))]
      · rw [if_neg (by omega), if_neg (fun q => e q.1)]
        rfl
theorem fitsr_eq (l : List S31) (a0 a1 a2 : Int) (a3 : ByteArray) (v : List S52) (hl : l.length ≤ 140737488351232) (h3 : a3.size ≤ 140737488351232) (hv : v.length ≤ 140737488351232) (k : Nat) (hk : 300000000000000 ≤ k) :
    auguryref05_Fits.f k l a0 a1 a2 a3 v = some (fitsS l a0 a1 a2 a3 v) := by
  unfold auguryref05_Fits.f fitsS
  rw [rightr_eq a0 a1 a2 a3 v h3 hv k hk, findr_eq l a3 hl k (by omega)]
  simp only [Option.bind_some]
  cases rightB a0 a1 a2 a3 v with
  | false => rfl
  | true =>
    rw [if_pos rfl, if_pos rfl]
    cases (findS l a3).2.2 with
    | false => rfl
    | true =>
      rw [if_pos rfl, if_pos rfl]
      by_cases e : v.length = (findS l a3).2.1.length
      · have hb : auguryref05_Fits.l0 k 0 a0 a1 a2 a3 v (findS l a3).1 (findS l a3).2.1 = some (if kindsB v (findS l a3).2.1 v.length 0 = true then 0 else 42) := kindsr_l0 a0 a1 a2 a3 _ v _ hv e v.length 0 k (by omega) (by omega)
        rw [if_pos (by omega), hb]
        cases kindsB v (findS l a3).2.1 v.length 0 with
        | true => rw [if_pos rfl, if_pos ⟨e, rfl⟩]
        | false => rw [if_neg (by decide), if_neg (fun q => absurd q.2 (by decide))]
      · rw [if_neg (by omega), if_neg (fun q => e q.1)]
end Go.Proofs.Ytbnjhmcbkocdjaa.Pure
namespace Go.Proofs.Ytbnjhmcbkocdjaa.Pure
open Go.Proofs.Ytbnjhmcbkocdjaa.PAll
open Go.RowKit Go.Proofs.YtbnjhmcbkocdjaaW.PrintWords Go.Proofs.YtbnjhmcbkocdjaaW.PrintLast Go.Proofs.YtbnjhmcbkocdjaaW.PrintMore
set_option linter.unusedVariables false
set_option linter.unusedSimpArgs false
theorem rd31 (l : List S31) (i : Nat) (h : i < l.length) : rd_T31 l (i : Int) = l[i] := by
  unfold rd_T31
  rw [Int.toNat_natCast, List.getD_eq_getElem?_getD, List.getElem?_eq_getElem h]
  rfl
theorem greats_l0 (l : List S31) (hl : l.length ≤ 140737488351232) (hf : ∀ i, i < l.length → (rd_T31 l (i : Nat)).f1.length ≤ 140737488351232) : ∀ (d i : Nat) (n : Int), i + d = l.length → ∃ k b, augurylaw05_GreatSchemas.l0 k l n (i : Int) = some b
  | 0, i, n, hi => by
    refine ⟨2, decide (n ≥ 9000), ?_⟩
    unfold augurylaw05_GreatSchemas.l0
    rw [if_neg (by omega)]
    unfold augurylaw05_GreatSchemas.j1
    rw [if_neg (by decide)]
  | d + 1, i, n, hi => by
    have inner : ∀ (e j : Nat) (n : Int), j + e = (rd_T31 l (i : Nat)).f1.length → ∃ k b, augurylaw05_GreatSchemas.l1 k l n (i : Int) (j : Int) = some b := by
      intro e
      induction e with
      | zero =>
        intro j n hj
        obtain ⟨k, b, h⟩ := greats_l0 l hl hf d (i + 1) n (by omega)
        refine ⟨k + 1, b, ?_⟩
        unfold augurylaw05_GreatSchemas.l1
        rw [if_pos (by omega), if_pos (by omega), if_neg (by omega), wrap_nat (by omega)]
        exact h
      | succ e ih =>
        intro j n hj
        have hfi := hf i (by omega)
        by_cases c : n < 9000
        · obtain ⟨k, b, h⟩ := ih (j + 1) (wrap64 (n + (mn (((rd_T55 ((rd_T31 l (i : Nat)).f1) (j : Nat)).f0).size : Int) 9000))) (by omega)
          refine ⟨k + 1, b, ?_⟩
          unfold augurylaw05_GreatSchemas.l1
          rw [if_pos (by omega), if_pos (by omega), if_pos (by omega), if_pos c, if_pos (by omega), wrap_nat (by omega)]
          exact h
        · obtain ⟨k, b, h⟩ := greats_l0 l hl hf d (i + 1) n (by omega)
          refine ⟨k + 1, b, ?_⟩
          unfold augurylaw05_GreatSchemas.l1
          rw [if_pos (by omega), if_pos (by omega), if_pos (by omega), if_neg c, wrap_nat (i := i) (by omega)]
          exact h
    by_cases c : n < 9000
    · obtain ⟨k, b, h⟩ := inner (rd_T31 l (i : Nat)).f1.length 0 (wrap64 ((wrap64 (n + (mn (((rd_T31 l (i : Nat)).f0).size : Int) 9000))) + (((rd_T31 l (i : Nat)).f1).length : Int))) (by omega)
      refine ⟨k + 2, b, ?_⟩
      unfold augurylaw05_GreatSchemas.l0
      rw [if_pos (by omega)]
      unfold augurylaw05_GreatSchemas.j1
      rw [if_pos (decide_eq_true c), if_pos (by omega), if_pos (by omega)]
      exact h
    · refine ⟨2, decide (n ≥ 9000), ?_⟩
      unfold augurylaw05_GreatSchemas.l0
      rw [if_pos (by omega)]
      unfold augurylaw05_GreatSchemas.j1
      rw [if_neg (by rw [decide_eq_false c]; decide)]
theorem greats_ex (l : List S31) (hl : l.length ≤ 140737488351232) (hf : ∀ i, i < l.length → (rd_T31 l (i : Nat)).f1.length ≤ 140737488351232) : ∃ K b, ∀ k, K ≤ k → augurylaw05_GreatSchemas.f k l = some b := by
  obtain ⟨k, b, h⟩ := greats_l0 l hl hf l.length 0 (l.length : Int) (by omega)
  exact ⟨k, b, fun j hj => leO_ge (f := fun k => augurylaw05_GreatSchemas.f k l) (fun k => augurylaw05_GreatSchemas.mono _ k) h hj⟩
end Go.Proofs.Ytbnjhmcbkocdjaa.Pure
namespace Go.Proofs.Ytbnjhmcbkocdjaa.Pure
open Go.Proofs.Ytbnjhmcbkocdjaa.PAll
open Go.RowKit Go.Proofs.YtbnjhmcbkocdjaaW.PrintWords Go.Proofs.YtbnjhmcbkocdjaaW.PrintLast Go.Proofs.YtbnjhmcbkocdjaaW.PrintMore
set_option linter.unusedVariables false
set_option linter.unusedSimpArgs false
theorem rd52 (l : List S52) (i : Nat) (h : i < l.length) : rd_T52 l (i : Int) = l[i] := by
  unfold rd_T52
  rw [Int.toNat_natCast, List.getD_eq_getElem?_getD, List.getElem?_eq_getElem h]
  rfl
theorem bad_ok (v : List S52) : ∀ d i : Nat, i + d = v.length → (badI v d i < 0 ↔ ∀ x ∈ v.drop i, okVal x.f0 x.f1 x.f2 = true)
  | 0, i, h => by
    rw [List.drop_of_length_le (by omega)]
    unfold badI
    simp
  | d + 1, i, h => by
    unfold badI
    rw [List.drop_eq_getElem_cons (by omega), rd52 v i (by omega)]
    have ih := bad_ok v d (i + 1) (by omega)
    by_cases c : okVal v[i].f0 v[i].f1 v[i].f2 = true
    · rw [if_pos c, ih]
      constructor
      · intro q x hx
        rcases List.mem_cons.1 hx with rfl | hx
        · exact c
        · exact q x hx
      · exact fun q x hx => q x (List.mem_cons_of_mem _ hx)
    · rw [if_neg c]
      constructor
      · intro q; omega
      · exact fun q => absurd (q _ (List.mem_cons_self ..)) c
theorem kinds_iff (v : List S52) (f : List S55) : ∀ d i : Nat, kindsB v f d i = true ↔ ∀ j : Nat, i ≤ j → j < i + d → (rd_T52 v (j : Nat)).f0 = (rd_T55 f (j : Nat)).f1
  | 0, i => ⟨fun _ j h1 h2 => by omega, fun _ => rfl⟩
  | d + 1, i => by
    unfold kindsB
    rw [Bool.and_eq_true, decide_eq_true_eq, kinds_iff v f d (i + 1)]
    constructor
    · rintro ⟨h1, h2⟩ j j1 j2
      by_cases e : j = i
      · subst e; exact h1
      · exact h2 j (by omega) (by omega)
    · intro h
      exact ⟨h i (Nat.le_refl _) (by omega), fun j j1 j2 => h j (by omega) (by omega)⟩
theorem find_one (n : ByteArray) (f : List S55) (a : ByteArray) : findS [(⟨n, f⟩ : S31)] a = if n.toList = a.toList then (n, f, true) else (⟨#[]⟩, [], false) := by
  unfold findS
  have h : idx31 [(⟨n, f⟩ : S31)] a [(⟨n, f⟩ : S31)].length 0 = if n.toList = a.toList then 0 else -1 := by
    show idx31 [(⟨n, f⟩ : S31)] a 1 0 = _
    unfold idx31
    by_cases c : n.toList = a.toList
    · rw [if_pos c, if_pos (show (rd_T31 [(⟨n, f⟩ : S31)] ((0 : Nat) : Int)).f0.toList = a.toList from c)]
      rfl
    · rw [if_neg c, if_neg (show ¬ (rd_T31 [(⟨n, f⟩ : S31)] ((0 : Nat) : Int)).f0.toList = a.toList from c)]
      rfl
  rw [h]
  by_cases c : n.toList = a.toList
  · rw [if_pos c, if_pos c, if_neg (by decide)]
    rfl
  · rw [if_neg c, if_neg c, if_pos (by decide)]
theorem right_of {a0 a1 a2 : Int} {a3 : ByteArray} {v w : List S52} (h : rightB a0 a1 a2 a3 v = true) (hl : w.length ≤ 8) (ho : ∀ x ∈ w, okVal x.f0 x.f1 x.f2 = true) : rightB a0 a1 a2 a3 w = true := by
  unfold rightB at *
  simp only [Bool.and_eq_true, decide_eq_true_eq] at *
  refine ⟨h.1, h.2.1, hl, (bad_ok w w.length 0 (by omega)).2 ?_⟩
  rw [List.drop_zero]
  exact ho
theorem right_all {a0 a1 a2 : Int} {a3 : ByteArray} {v : List S52} (h : rightB a0 a1 a2 a3 v = true) : v.length ≤ 8 ∧ ∀ x ∈ v, okVal x.f0 x.f1 x.f2 = true := by
  unfold rightB at h
  simp only [Bool.and_eq_true, decide_eq_true_eq] at h
  refine ⟨h.2.2.1, ?_⟩
  have := (bad_ok v v.length 0 (by omega)).1 h.2.2.2
  rwa [List.drop_zero] at this
/-- What it says that an event fits one schema. -/
theorem fits_zero {n : ByteArray} {f : List S55} {a0 a1 a2 : Int} {a3 : ByteArray} {v : List S52} : fitsS [(⟨n, f⟩ : S31)] a0 a1 a2 a3 v = 0 ↔ rightB a0 a1 a2 a3 v = true ∧ n.toList = a3.toList ∧ v.length = f.length ∧ kindsB v f v.length 0 = true := by
  unfold fitsS
  rw [find_one]
  by_cases h : rightB a0 a1 a2 a3 v = true
  · rw [if_pos h]
    by_cases c : n.toList = a3.toList
    · rw [if_pos c]
      simp only [if_true]
      by_cases q : v.length = f.length ∧ kindsB v f v.length 0 = true
      · rw [if_pos q]
        exact ⟨fun _ => ⟨h, c, q⟩, fun _ => rfl⟩
      · rw [if_neg q]
        exact ⟨fun g => by omega, fun g => absurd g.2.2 q⟩
    · rw [if_neg c]
      simp only [Bool.false_eq_true, if_false]
      exact ⟨fun g => by omega, fun g => absurd g.2.1 c⟩
  · rw [if_neg h]
    exact ⟨fun g => by omega, fun g => absurd g.1 h⟩
theorem fits_len {n : ByteArray} {f : List S55} {a0 a1 a2 : Int} {a3 : ByteArray} {v : List S52} (h : rightB a0 a1 a2 a3 v = true) (c : n.toList = a3.toList) (hl : ¬ v.length = f.length) : fitsS [(⟨n, f⟩ : S31)] a0 a1 a2 a3 v = 42 := by
  unfold fitsS
  rw [find_one, if_pos h, if_pos c]
  simp only [if_true]
  rw [if_neg (fun q => hl q.1)]
theorem kinds_other {v : List S52} {f : List S55} {x : S52} {c : Nat} (hc : c < v.length) (hk : kindsB v f v.length 0 = true) (w : List S52) (hw : w = v.take c ++ [x] ++ v.drop (c + 1)) : kindsB w f w.length 0 = true ↔ x.f0 = (rd_T55 f (c : Nat)).f1 := by
  have hl : w.length = v.length := by rw [hw]; simp only [List.length_append, List.length_take, List.length_drop, List.length_singleton]; omega
  have key : ∀ j : Nat, j < v.length → rd_T52 w (j : Nat) = if j = c then x else rd_T52 v (j : Nat) := by
    intro j hj
    rw [rd52 w j (by omega)]
    subst hw
    by_cases e : j = c
    · subst e
      rw [if_pos rfl, List.getElem_append_left (by simp only [List.length_append, List.length_take, List.length_singleton]; omega), List.getElem_append_right (by rw [List.length_take]; omega)]
      simp
    · rw [if_neg e, rd52 v j hj]
      by_cases g : j < c
      · rw [List.getElem_append_left (by simp only [List.length_append, List.length_take, List.length_singleton]; omega), List.getElem_append_left (by rw [List.length_take]; omega), List.getElem_take]
      · rw [List.getElem_append_right (by simp only [List.length_append, List.length_take, List.length_singleton]; omega), List.getElem_drop]
        congr 1
        simp only [List.length_append, List.length_take, List.length_singleton]
        omega
  rw [kinds_iff, hl]
  rw [kinds_iff] at hk
  constructor
  · intro h
    have := h c (Nat.zero_le _) (by omega)
    rw [key c hc, if_pos rfl] at this
    exact this
  · intro h j j1 j2
    rw [key j (by omega)]
    by_cases e : j = c
    · rw [if_pos e, e]; exact h
    · rw [if_neg e]
      exact hk j j1 (by omega)
theorem fits_l0 (n : ByteArray) (f : List S55) (a0 a1 a2 : Int) (a3 : ByteArray) (v : List S52) (h3 : a3.size ≤ 140737488351232) (at_ : Int) (hat : 0 ≤ at_ ∧ at_ < 256) (x : S52) (hx : okVal x.f0 x.f1 x.f2 = true) (h0 : fitsS [(⟨n, f⟩ : S31)] a0 a1 a2 a3 v = 0) :
    ∀ (d i k : Nat), i + d = v.length → d + 400000000000000 ≤ k → augurylaw05_EventFits.l0 k at_ true (i : Int) n f a0 a1 a2 a3 v x.f0 x.f1 x.f2 = some true
  | d + 1, i, k, hi, hk => by
    obtain ⟨k, rfl⟩ : ∃ m, k = m + 1 := ⟨k - 1, by omega⟩
    obtain ⟨q1, q2, q3, q4⟩ := fits_zero.1 h0
    have hv := (right_all q1).1
    rw [kinds_iff] at q4
    unfold augurylaw05_EventFits.l0
    rw [if_pos (by omega), if_pos (by omega), if_pos (by omega), if_pos (q4 i (Nat.zero_le _) (by omega)), wrap_nat (by omega)]
    exact fits_l0 n f a0 a1 a2 a3 v h3 at_ hat x hx h0 d (i + 1) k (by omega) (by omega)
  | 0, i, k, hi, hk => by
    obtain ⟨k, rfl⟩ : ∃ m, k = m + 1 := ⟨k - 1, by omega⟩
    obtain ⟨q1, q2, q3, q4⟩ := fits_zero.1 h0
    obtain ⟨hv, ho⟩ := right_all q1
    unfold augurylaw05_EventFits.l0
    rw [if_neg (by omega)]
    by_cases e : (v.length : Int) = 0
    · rw [if_pos e]
      rfl
    · rw [if_neg e]
      have hw : wrap64 at_ = at_ := wrap_id (by omega) (by omega)
      have ht : Int.tmod at_ (v.length : Int) = at_ % (v.length : Int) := Int.tmod_eq_emod_of_nonneg hat.1
      have t0 : 0 ≤ at_ % (v.length : Int) := Int.emod_nonneg _ (by omega)
      have t1 : at_ % (v.length : Int) < (v.length : Int) := Int.emod_lt_of_pos _ (by omega)
      rw [hw, ht]
      obtain ⟨c, hc⟩ := Int.eq_ofNat_of_zero_le t0
      rw [hc] at t0 t1 ⊢
      clear hc ht hw
      have t2 : c < v.length := by omega
      clear t0 t1
      have hw1 : wrap64 ((c : Int) + 1) = ((c + 1 : Nat) : Int) := wrap_nat (by omega)
      have len1 : (v.take c).length = c := by rw [List.length_take]; exact Nat.min_eq_left (Nat.le_of_lt t2)
      have len2 : (v.drop (c + 1)).length = v.length - (c + 1) := List.length_drop
      have oless : ∀ y ∈ v.take c ++ v.drop (c + 1), okVal y.f0 y.f1 y.f2 = true := by
        intro y hy
        rcases List.mem_append.1 hy with h | h
        · exact ho y (List.mem_of_mem_take h)
        · exact ho y (List.mem_of_mem_drop h)
      have oother : ∀ y ∈ v.take c ++ [x] ++ v.drop (c + 1), okVal y.f0 y.f1 y.f2 = true := by
        intro y hy
        rcases List.mem_append.1 hy with h | h
        · rcases List.mem_append.1 h with h | h
          · exact ho y (List.mem_of_mem_take h)
          · rw [List.mem_singleton.1 h]; exact hx
        · exact ho y (List.mem_of_mem_drop h)
      have l1 : (v.take c ++ v.drop (c + 1)).length ≤ 8 := by rw [List.length_append]; omega
      have l2 : (v.take c ++ [x] ++ v.drop (c + 1)).length ≤ 8 := by simp only [List.length_append, List.length_singleton]; omega
      have e1 := fits_eq [(⟨n, f⟩ : S31)] a0 a1 a2 a3 (v.take c ++ v.drop (c + 1)) (by simp) h3 (by omega) k (by omega)
      have e2 := fits_eq [(⟨n, f⟩ : S31)] a0 a1 a2 a3 (v.take c ++ [x] ++ v.drop (c + 1)) (by simp) h3 (by omega) k (by omega)
      have g1 : fitsS [(⟨n, f⟩ : S31)] a0 a1 a2 a3 (v.take c ++ v.drop (c + 1)) = 42 := fits_len (right_of q1 l1 oless) q2 (by rw [List.length_append]; omega)
      have g2 : fitsS [(⟨n, f⟩ : S31)] a0 a1 a2 a3 (v.take c ++ [x] ++ v.drop (c + 1)) = 0 ↔ x.f0 = (rd_T55 f (c : Nat)).f1 := by
        rw [fits_zero, kinds_other (by omega) q4 _ rfl]
        exact ⟨fun g => g.2.2.2, fun g => ⟨right_of q1 l2 oother, q2, by simp only [List.length_append, List.length_singleton]; omega, g⟩⟩
      simp only [Option.bind_some, List.nil_append, List.length_nil, Int.toNat_natCast, hw1]
      rw [if_pos (by omega), if_pos (by omega), if_pos (by omega), if_pos (by omega), if_pos (by omega), if_pos (by rw [len1, len2]; omega), if_pos (by omega), if_pos (by rw [len1, List.length_singleton]; omega), if_pos (by simp only [List.length_append, List.length_singleton]; omega), if_pos trivial]
      rw [e1, Option.bind_some, g1, if_pos rfl, e2, Option.bind_some, if_pos (by omega), if_pos]
      rw [Bool.beq_eq_decide_eq, decide_eq_true_eq, Bool.eq_iff_iff, beq_iff_eq, beq_iff_eq]
      exact g2
theorem fits_j0 (n : ByteArray) (f : List S55) (a0 a1 a2 : Int) (a3 : ByteArray) (v : List S52) (h3 : a3.size ≤ 140737488351232) (at_ : Int) (hat : 0 ≤ at_ ∧ at_ < 256) (x : S52) (g : Bool) (hg : g = false → okVal x.f0 x.f1 x.f2 = true ∧ fitsS [(⟨n, f⟩ : S31)] a0 a1 a2 a3 v = 0) (k : Nat) (hk : 500000000000000 ≤ k) :
    augurylaw05_EventFits.j0 (k + 2) at_ true g n f a0 a1 a2 a3 v x.f0 x.f1 x.f2 = some true := by
  unfold augurylaw05_EventFits.j0
  dsimp only
  cases g with
  | true => rfl
  | false =>
    obtain ⟨hx, h0⟩ := hg rfl
    obtain ⟨q1, q2, q3, q4⟩ := fits_zero.1 h0
    obtain ⟨hv, ho⟩ := right_all q1
    have e1 := fits_eq [(⟨n, f⟩ : S31)] a0 a1 a2 a3 (v ++ [(⟨x.f0, x.f1, x.f2⟩ : S52)]) (by simp) h3 (by rw [List.length_append, List.length_singleton]; omega) (k + 1) (by omega)
    have g1 : ¬ fitsS [(⟨n, f⟩ : S31)] a0 a1 a2 a3 (v ++ [(⟨x.f0, x.f1, x.f2⟩ : S52)]) = 0 := by
      intro z
      have := (fits_zero.1 z).2.2.1
      rw [List.length_append, List.length_singleton] at this
      omega
    have hj := fits_l0 n f a0 a1 a2 a3 v h3 at_ hat x hx h0 v.length 0 k (by omega) (by omega)
    simp only [Bool.false_eq_true, if_false, Option.bind_some, List.nil_append, List.length_nil]
    rw [if_pos (by omega), if_pos (by rw [List.length_singleton]; omega), if_pos (by omega), e1, Option.bind_some]
    unfold augurylaw05_EventFits.j1
    dsimp only
    rw [if_neg (fun z => g1 (beq_iff_eq.1 z))]
    exact hj
theorem EventFits : augurylaw05_EventFits.Pure := by
  intro s e at_ x hs he hat hx
  have hat2 : 0 ≤ at_ ∧ at_ < 256 := by
    simp [Lit.wf, IntKind.min, IntKind.max, IntKind.bits, IntKind.signed] at hat
    omega
  have h3 : e.f3.size ≤ 140737488351232 := he.2.2.2.1
  have hv : e.f4.length ≤ 140737488351232 := he.2.2.2.2.1
  obtain ⟨K, bs, hK⟩ := greats_ex [(⟨s.f0, s.f1⟩ : S31)] (by simp) (fun i hi => by
    have : i = 0 := by simpa using hi
    subst this
    exact hs.2.1)
  obtain ⟨bx, gx⟩ := great_ex e.f0 e.f1 e.f2 e.f3 e.f4 (ok_len he)
  obtain ⟨k, hk⟩ : ∃ k : Nat, K + 500000000000000 ≤ k := ⟨_, Nat.le_refl _⟩
  refine ⟨k + 2, ?_⟩
  have hj := fun g hg => fits_j0 s.f0 s.f1 e.f0 e.f1 e.f2 e.f3 e.f4 h3 at_ hat2 x g hg k (by omega)
  unfold augurylaw05_EventFits.f
  rw [leO_ge augurylaw05_head.mono head_ok (by omega), Option.bind_some, hK _ (by omega), Option.bind_some, gx _ (by omega), Option.bind_some, ref_right_ok, Option.bind_some, fits_eq _ _ _ _ _ _ (by simp) h3 hv (k + 2) (by omega), Option.bind_some]
  split
  · exact hj true (fun h => absurd h (by decide))
  · split
    · exact hj true (fun h => absurd h (by decide))
    · split
      · rename_i c
        refine hj _ (fun h => ⟨c, ?_⟩)
        simpa using h
      · exact hj true (fun h => absurd h (by decide))
end Go.Proofs.Ytbnjhmcbkocdjaa.Pure
