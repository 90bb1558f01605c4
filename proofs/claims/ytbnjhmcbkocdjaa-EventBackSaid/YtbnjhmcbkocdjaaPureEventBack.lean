/- The law EventBack, of values and bytes alone: a right event is read of its bytes as it was; of bytes that are cut, or have one more, nothing is; what is read of any bytes has these. -/
import Derived.Test.YtbnjhmcbkocdjaaPAllx10
import Derived.Test.YtbnjhmcbkocdjaaPAllx11
import Derived.Test.YtbnjhmcbkocdjaaPAllx12
import Derived.Test.YtbnjhmcbkocdjaaPAllx13
import Derived.Test.YtbnjhmcbkocdjaaPAllx14
import Derived.Test.YtbnjhmcbkocdjaaPAllx15
import Derived.Test.YtbnjhmcbkocdjaaPAllx16
import Derived.Test.YtbnjhmcbkocdjaaPAllx17
import Derived.Test.YtbnjhmcbkocdjaaPAllx18
import Derived.Test.YtbnjhmcbkocdjaaPAllx19
import Derived.Test.YtbnjhmcbkocdjaaPAllx20
import Derived.Test.YtbnjhmcbkocdjaaPAllx22
import Derived.Test.YtbnjhmcbkocdjaaPAllx23
import Derived.Test.YtbnjhmcbkocdjaaPAllx24
import Derived.Test.YtbnjhmcbkocdjaaPAllx25
import Derived.Test.YtbnjhmcbkocdjaaPAllx26
import Derived.Test.YtbnjhmcbkocdjaaPAllx27
import Derived.Test.YtbnjhmcbkocdjaaPAllx28
import Derived.Test.YtbnjhmcbkocdjaaPAllx29
import Derived.Test.YtbnjhmcbkocdjaaPAllx3
import Derived.Test.YtbnjhmcbkocdjaaPAllx30
import Derived.Test.YtbnjhmcbkocdjaaPAllx31
import Derived.Test.YtbnjhmcbkocdjaaPAllx32
import Derived.Test.YtbnjhmcbkocdjaaPAllx34
import Derived.Test.YtbnjhmcbkocdjaaPAllx35
import Derived.Test.YtbnjhmcbkocdjaaPAllx36
import Derived.Test.YtbnjhmcbkocdjaaPAllx37
import Derived.Test.YtbnjhmcbkocdjaaPAllx4
import Derived.Test.YtbnjhmcbkocdjaaPAllx40
import Derived.Test.YtbnjhmcbkocdjaaPAllx41
import Derived.Test.YtbnjhmcbkocdjaaPAllx42
import Derived.Test.YtbnjhmcbkocdjaaPAllx43
import Derived.Test.YtbnjhmcbkocdjaaPAllx44
import Derived.Test.YtbnjhmcbkocdjaaPAllx45
import Derived.Test.YtbnjhmcbkocdjaaPAllx47
import Derived.Test.YtbnjhmcbkocdjaaPAllx48
import Derived.Test.YtbnjhmcbkocdjaaPAllx5
import Derived.Test.YtbnjhmcbkocdjaaPAllx52
import Derived.Test.YtbnjhmcbkocdjaaPAllx6
import Derived.Test.YtbnjhmcbkocdjaaPAllx8
import Derived.Test.YtbnjhmcbkocdjaaPAllx9
import Derived.Laws.BitsLemmas
import Derived.Lib.Strings
namespace Go.Proofs.Ytbnjhmcbkocdjaa.Pure
open Go.Proofs.Ytbnjhmcbkocdjaa.PAll
open Go.RowKit Go.Proofs.YtbnjhmcbkocdjaaW.PrintWords Go.Proofs.YtbnjhmcbkocdjaaW.PrintLast Go.Proofs.YtbnjhmcbkocdjaaW.PrintMore
set_option linter.unusedVariables false
set_option linter.unusedSimpArgs false
theorem leO_le {α : Type} {f : Nat → Option α} (hm : ∀ k, LeO (f k) (f (k + 1))) {x : α} {k : Nat} (h : f k = some x) : ∀ d, f (k + d) = some x
  | 0 => h
  | d + 1 => hm _ _ (leO_le hm h d)
theorem leO_ge {α : Type} {f : Nat → Option α} (hm : ∀ k, LeO (f k) (f (k + 1))) {x : α} {k j : Nat} (h : f k = some x) (hj : k ≤ j) : f j = some x := by
  obtain ⟨d, rfl⟩ := Nat.exists_eq_add_of_le hj
  exact leO_le hm h d
theorem wrap_id {n : Int} (h0 : -9223372036854775808 ≤ n) (h1 : n ≤ 9223372036854775807) : wrap64 n = n := by unfold wrap64; omega
theorem head_ok : augurylaw05_head.f 40 = some true := by kernel_rfl
theorem read_word (f : Ieee.Format) (neg : Bool) (r : Nat) (h : r ≤ f.infRung) : (f.read (f.word neg r)).order (f.read (f.word neg r)) = some .eq := by
  have hb := f.infRung_lt
  have hw : f.word neg r % f.signWeight = r := by
    unfold Ieee.Format.word
    cases neg
    · simp only [Bool.false_eq_true, if_false]
      first | exact Nat.mod_eq_of_lt (by omega) | (rw [Nat.zero_add]; exact Nat.mod_eq_of_lt (by omega))
    · simp only [if_true]
      first | (rw [Nat.add_mod_left]; exact Nat.mod_eq_of_lt (by omega)) | (rw [Nat.add_mod_right]; exact Nat.mod_eq_of_lt (by omega))
  unfold Ieee.Format.read
  simp only [hw]
  by_cases h1 : r < f.binade
  · rw [if_pos h1]
    simp [Ieee.Datum.order]
  · rw [if_neg h1]
    by_cases h2 : r < f.infRung
    · rw [if_pos h2]
      simp [Ieee.Datum.order]
    · rw [if_neg h2, if_pos (by omega)]
      simp [Ieee.Datum.order]
theorem order_nearest (f : Ieee.Format) (neg : Bool) (mag : Nat) (place : Int) : f.order (f.nearest neg mag place) (f.nearest neg mag place) = some .eq := by
  unfold Ieee.Format.order Ieee.Format.nearest
  split
  · exact read_word f neg 0 (Nat.zero_le _)
  · exact read_word f neg _ (Nat.min_le_right _ _)
theorem flEq_ofInt (n : Int) : flEq (floatOfInt .f64 n) (floatOfInt .f64 n) = true := by
  unfold flEq floatOfInt
  have h : (FloatKind.f64.format.order (FloatKind.f64.nearest n) (FloatKind.f64.nearest n)) = some .eq := order_nearest _ _ _ _
  rw [h]; rfl
/-- Is one ahead of another one. -/
def lessE (a0 a1 a2 b0 b1 b2 : Int) : Bool := if a0 = b0 then (if a1 = b1 then decide (a2 < b2) else decide (a1 < b1)) else decide (a0 < b0)
theorem less_eq (k : Nat) (a0 a1 a2 : Int) (a3 : ByteArray) (a4 : List S52) (b0 b1 b2 : Int) (b3 : ByteArray) (b4 : List S52) :
    event_Less.f (k + 1) a0 a1 a2 a3 a4 b0 b1 b2 b3 b4 = some (lessE a0 a1 a2 b0 b1 b2) := by
  unfold event_Less.f event_when.f lessE
  simp only [Option.bind_some, event_Less.j0]
  by_cases h0 : a0 = b0
  · subst h0
    by_cases h1 : a1 = b1
    · subst h1
      simp [flEq_ofInt]
    · have : (a1 == b1) = false := by simp [h1]
      simp [h1]
  · simp [h0]
theorem great_l0 (a0 a1 a2 : Int) (a3 : ByteArray) (l : List S52) (hl : l.length ≤ 9223372036854775807) : ∀ (d : Nat) (n i : Int), 0 ≤ i → i + d = l.length → ∃ b, augurylaw05_GreatEvent.l0 (d + 1) n i a0 a1 a2 a3 l = some b
  | 0, n, i, h0, h1 => by
    unfold augurylaw05_GreatEvent.l0
    rw [if_neg (by omega)]
    exact ⟨_, rfl⟩
  | d + 1, n, i, h0, h1 => by
    unfold augurylaw05_GreatEvent.l0
    rw [if_pos (by omega), if_pos h0, wrap_id (n := i + 1) (by omega) (by omega)]
    split
    · exact great_l0 a0 a1 a2 a3 l hl d _ (i + 1) (by omega) (by omega)
    · exact ⟨_, rfl⟩
theorem great_ex (a0 a1 a2 : Int) (a3 : ByteArray) (l : List S52) (hl : l.length ≤ 9223372036854775807) : ∃ b, ∀ k, l.length + 1 ≤ k → augurylaw05_GreatEvent.f k a0 a1 a2 a3 l = some b := by
  obtain ⟨b, hb⟩ := great_l0 a0 a1 a2 a3 l hl l.length (wrap64 ((a3.size : Int) + (l.length : Int))) 0 (Int.le_refl _) (by omega)
  exact ⟨b, fun k hk => leO_ge (f := fun k => augurylaw05_GreatEvent.f k a0 a1 a2 a3 l) (fun k => augurylaw05_GreatEvent.mono _ _ _ _ _ k) hb hk⟩
theorem ok_len {x : S25} (h : ok25 x) : x.f4.length ≤ 9223372036854775807 := by
  have := h.2.2.2.2.1
  omega
end Go.Proofs.Ytbnjhmcbkocdjaa.Pure
namespace Go.Proofs.Ytbnjhmcbkocdjaa.Pure
open Go.Proofs.Ytbnjhmcbkocdjaa.PAll
open Go.RowKit Go.Proofs.YtbnjhmcbkocdjaaW.PrintWords Go.Proofs.YtbnjhmcbkocdjaaW.PrintLast Go.Proofs.YtbnjhmcbkocdjaaW.PrintMore
set_option linter.unusedVariables false
set_option linter.unusedSimpArgs false
def okc (c : Int) (i : Nat) : Prop := (97 ≤ c ∧ c ≤ 122) ∨ (0 < i ∧ (c = 95 ∨ (48 ≤ c ∧ c ≤ 57)))
instance (c : Int) (i : Nat) : Decidable (okc c i) := by unfold okc; exact inferInstance
def WordP (s : ByteArray) : Prop := (∀ j, j < s.size → okc (bt s j) j) ∧ 1 ≤ s.size ∧ s.size ≤ 16
instance (s : ByteArray) : Decidable (WordP s) := by unfold WordP; exact inferInstance
def wordB (s : ByteArray) : Bool := decide (WordP s)
theorem toList_nil (s : ByteArray) : s.toList = ([] : List UInt8) ↔ s.size = 0 := by
  rw [ByteArray.toList_eq]
  rw [show s.size = s.data.toList.length from (by rw [Array.length_toList]; rfl)]
  exact List.length_eq_zero_iff.symm
theorem word_bad {s : ByteArray} {i : Nat} (hi : i < s.size) (h : ¬ okc (bt s i) i) : wordB s = false := by
  unfold wordB
  exact decide_eq_false fun q => h (q.1 i hi)
theorem word_l0 (s : ByteArray) (hs : s.size ≤ 9223372036854775807) : ∀ (d i : Nat), i + d = s.size → (∀ j, j < i → okc (bt s j) j) → ∀ k, 2 * d + 1 ≤ k → event_Word.l0 k s (s.size : Int) (i : Int) = some (wordB s)
  | 0, i, hi, hp, k, hk => by
    obtain ⟨k, rfl⟩ : ∃ m, k = m + 1 := ⟨k - 1, by omega⟩
    unfold event_Word.l0
    rw [if_neg (by omega)]
    by_cases h0 : s.toList = ([] : List UInt8)
    · rw [if_pos h0]
      have h1 := (toList_nil s).1 h0
      congr 1
      unfold wordB
      exact (decide_eq_false fun q => by have := q.2.1; omega).symm
    · rw [if_neg h0]
      have h1 : ¬ s.size = 0 := fun q => h0 ((toList_nil s).2 q)
      congr 1
      unfold wordB
      rw [decide_eq_decide]
      constructor
      · intro h
        exact ⟨fun j hj => hp j (by omega), by omega, by omega⟩
      · intro h
        have := h.2.2
        omega
  | d + 1, i, hi, hp, k, hk => by
    obtain ⟨k, rfl⟩ : ∃ m, k = m + 2 := ⟨k - 2, by omega⟩
    have ih : okc (bt s i) i → event_Word.l0 k s (s.size : Int) (wrap64 ((i : Int) + 1)) = some (wordB s) := by
      intro h
      rw [wrap_id (n := (i : Int) + 1) (by omega) (by omega)]
      refine word_l0 s hs d (i + 1) (by omega) (fun j hj => ?_) k (by omega)
      by_cases e : j = i
      · subst e; exact h
      · exact hp j (by omega)
    unfold event_Word.l0
    rw [if_pos (by omega), if_pos (by omega), if_pos (by omega)]
    have key : ∀ b : Bool, (b = true → 97 ≤ bt s i ∧ bt s i ≤ 122) → (b = false → ¬ (97 ≤ bt s i ∧ bt s i ≤ 122)) → event_Word.j1 (k + 1) s (i : Int) (bt s (i : Int)) (s.size : Int) (i : Int) b = some (wordB s) := by
      intro b h1 h2
      unfold event_Word.j1
      cases b with
      | true =>
        rw [if_pos rfl]
        exact ih (.inl (h1 rfl))
      | false =>
        rw [if_neg (by decide)]
        have h2 := h2 rfl
        by_cases h3 : (i : Int) > 0
        · rw [if_pos h3]
          by_cases h4 : bt s i = 95
          · rw [if_pos h4]
            exact ih (.inr ⟨by omega, .inl h4⟩)
          · rw [if_neg h4]
            by_cases h5 : bt s i ≥ 48
            · rw [if_pos h5]
              by_cases h6 : bt s i ≤ 57
              · rw [if_pos h6]
                exact ih (.inr ⟨by omega, .inr ⟨h5, h6⟩⟩)
              · rw [if_neg h6, word_bad (i := i) (by omega) (by unfold okc; omega)]
            · rw [if_neg h5, word_bad (i := i) (by omega) (by unfold okc; omega)]
        · rw [if_neg h3, word_bad (i := i) (by omega) (by unfold okc; omega)]
    by_cases h7 : bt s i ≥ 97
    · rw [if_pos h7]
      exact key _ (fun h => ⟨h7, of_decide_eq_true h⟩) (fun h q => by have := of_decide_eq_false h; omega)
    · rw [if_neg h7]
      exact key _ (fun h => by cases h) (fun _ q => by omega)
theorem word_eq (s : ByteArray) (hs : s.size ≤ 9223372036854775807) (k : Nat) (hk : 2 * s.size + 1 ≤ k) : event_Word.f k s = some (wordB s) :=
  word_l0 s hs s.size 0 (by omega) (fun j hj => by omega) k hk
theorem wordr_l0 (s : ByteArray) (hs : s.size ≤ 9223372036854775807) : ∀ (d i : Nat), i + d = s.size → (∀ j, j < i → okc (bt s j) j) → ∀ k, d + 1 ≤ k → auguryref05_Word.l0 k s (i : Int) = some (wordB s)
  | 0, i, hi, hp, k, hk => by
    obtain ⟨k, rfl⟩ : ∃ m, k = m + 1 := ⟨k - 1, by omega⟩
    unfold auguryref05_Word.l0
    rw [if_neg (by omega)]
    by_cases h0 : (s.size : Int) ≥ 1
    · rw [if_pos h0]
      congr 1
      unfold wordB
      rw [decide_eq_decide]
      constructor
      · intro h
        exact ⟨fun j hj => hp j (by omega), by omega, by omega⟩
      · intro h
        have := h.2.2
        omega
    · rw [if_neg h0]
      congr 1
      unfold wordB
      exact (decide_eq_false fun q => by have := q.2.1; omega).symm
  | d + 1, i, hi, hp, k, hk => by
    obtain ⟨k, rfl⟩ : ∃ m, k = m + 1 := ⟨k - 1, by omega⟩
    have ih : okc (bt s i) i → auguryref05_Word.l0 k s (wrap64 ((i : Int) + 1)) = some (wordB s) := by
      intro h
      rw [wrap_id (n := (i : Int) + 1) (by omega) (by omega)]
      refine wordr_l0 s hs d (i + 1) (by omega) (fun j hj => ?_) k (by omega)
      by_cases e : j = i
      · subst e; exact h
      · exact hp j (by omega)
    have bad : ¬ okc (bt s i) i → some false = some (wordB s) := fun h => by rw [word_bad (i := i) (by omega) h]
    unfold auguryref05_Word.l0
    rw [if_pos (by omega), if_pos (by omega)]
    split
    · split
      · exact ih (.inl ⟨by omega, by omega⟩)
      · split
        · exact bad (by unfold okc; omega)
        · split
          · exact ih (.inr ⟨by omega, .inl (by omega)⟩)
          · split
            · exact bad (by unfold okc; omega)
            · split
              · exact bad (by unfold okc; omega)
              · exact ih (.inr ⟨by omega, .inr ⟨by omega, by omega⟩⟩)
    · split
      · exact bad (by unfold okc; omega)
      · split
        · exact ih (.inr ⟨by omega, .inl (by omega)⟩)
        · split
          · exact bad (by unfold okc; omega)
          · split
            · exact bad (by unfold okc; omega)
            · exact ih (.inr ⟨by omega, .inr ⟨by omega, by omega⟩⟩)
theorem wordr_eq (s : ByteArray) (hs : s.size ≤ 9223372036854775807) (k : Nat) (hk : s.size + 1 ≤ k) : auguryref05_Word.f k s = some (wordB s) :=
  wordr_l0 s hs s.size 0 (by omega) (fun j hj => by omega) k hk
end Go.Proofs.Ytbnjhmcbkocdjaa.Pure
namespace Go.Proofs.Ytbnjhmcbkocdjaa.PAll
open Go.RowKit Go.Proofs.YtbnjhmcbkocdjaaW.PrintWords Go.Proofs.YtbnjhmcbkocdjaaW.PrintLast Go.Proofs.YtbnjhmcbkocdjaaW.PrintMore
set_option linter.unusedVariables false
set_option linter.unusedSimpArgs false

def Bytes (l : List Int) : Prop := ∀ x ∈ l, 0 ≤ x ∧ x < 256
theorem bytes_of_wf {l : List Int} (h : ∀ x ∈ l, (Lit.int .u8 x).wf = true) : Bytes l := by
  intro x hx
  have := h x hx
  simp [Lit.wf, IntKind.min, IntKind.max, IntKind.bits, IntKind.signed] at this
  omega
theorem rd_byte {l : List Int} (h : Bytes l) (i : Int) : 0 ≤ rd l i ∧ rd l i < 256 := by
  unfold rd
  by_cases hi : i.toNat < l.length
  · rw [List.getD_eq_getElem?_getD, List.getElem?_eq_getElem hi]
    exact h _ (List.getElem_mem hi)
  · rw [List.getD_eq_getElem?_getD, List.getElem?_eq_none (by omega)]
    decide
theorem bytes_drop {l : List Int} (h : Bytes l) (n : Nat) : Bytes (l.drop n) := fun x hx => h x (List.mem_of_mem_drop hx)
theorem wrap_in {n : Int} (h0 : -9223372036854775808 ≤ n) (h1 : n ≤ 9223372036854775807) : wrap64 n = n := by unfold wrap64; omega
theorem wrap_u64 (n : Int) : IntKind.u64.wrap n = n % 18446744073709551616 := by simp [IntKind.wrap, IntKind.bits, IntKind.signed]
theorem u64_in {n : Int} (h0 : 0 ≤ n) (h1 : n < 2 ^ 63) : IntKind.u64.wrap n = n := by
  rw [wrap_u64]
  omega
theorem or_low (n m s : Nat) (hn : n < 2 ^ s) (hm : m < 128) (hs : s ≤ 49) : bits .or .u64 (n : Int) (((m * 2 ^ s : Nat)) : Int) = ((n + m * 2 ^ s : Nat) : Int) := by
  have h2 : 2 ^ s ≤ 2 ^ 49 := Nat.pow_le_pow_right (by decide) hs
  have h3 : m * 2 ^ s < 2 ^ 63 := by
    have : m * 2 ^ s ≤ 127 * 2 ^ 49 := Nat.mul_le_mul (by omega) h2
    omega
  rw [(bits_nat .u64 63 (by decide) (fun n h0 h1 => u64_in h0 h1) n (m * 2 ^ s) (by omega) h3).2]
  rw [Nat.or_comm, Nat.mul_comm, ← Nat.two_pow_add_eq_or_of_lt hn m, Nat.add_comm]
theorem bitsE (i n b : Int) (hi0 : 0 ≤ i) (hi : i ≤ 6) (hn0 : 0 ≤ n) (hn : n < 2 ^ (7 * i).toNat) (hb0 : 0 ≤ b) (hb : b < 256) :
    bits .or .u64 n (shl .u64 (IntKind.u64.wrap (bits .and .u8 b 127)) (wrap64 (7 * i))) = n + b % 128 * 2 ^ (7 * i).toNat := by
  have e1 : bits .and .u8 b 127 = b % 128 := bits_mask .u8 8 (by decide) wraps_u8 7 (by decide) b hb0 hb
  rw [e1, u64_in (by omega) (by omega), wrap_in (by omega) (by omega)]
  obtain ⟨m, hm⟩ := Int.eq_ofNat_of_zero_le (show 0 ≤ b % 128 by omega)
  obtain ⟨a, ha⟩ := Int.eq_ofNat_of_zero_le hn0
  obtain ⟨s, hs⟩ : ∃ s : Nat, (7 * i).toNat = s := ⟨_, rfl⟩
  rw [hs] at hn ⊢
  have hs6 : s ≤ 42 := by omega
  have hsm : min s 64 = s := by omega
  have h2 : 2 ^ s ≤ 2 ^ 42 := Nat.pow_le_pow_right (by decide) hs6
  have hlt : m * 2 ^ s < 2 ^ 63 := by
    have : m * 2 ^ s ≤ 127 * 2 ^ 42 := Nat.mul_le_mul (by omega) h2
    omega
  rw [hm, ha]
  unfold shl
  rw [hs]
  simp only [IntKind.bits, hsm]
  have ec : ((m : Int) * 2 ^ s) = ((m * 2 ^ s : Nat) : Int) := by push_cast; rfl
  rw [ec, u64_in (by omega) (by exact_mod_cast hlt)]
  have hn' : a < 2 ^ s := by
    rw [ha] at hn
    exact_mod_cast hn
  have := or_low a m s hn' (by omega) (by omega)
  rw [this]
  push_cast
  rfl

/-- The number of the digits from i on, up to the seventh. -/
def numG (l : List Int) : Nat → Int → Int → Option (Int × Int × Bool)
  | 0, _, _ => none
  | d + 1, i, n => if i < (l.length : Int) then (if rd l i < 128 then some (n + rd l i % 128 * 2 ^ (7 * i).toNat, i + 1, decide (i = 0) || decide (rd l i > 0)) else numG l d (i + 1) (n + rd l i % 128 * 2 ^ (7 * i).toNat)) else none

theorem step_lt (i n b : Int) (hi0 : 0 ≤ i) (hi : i ≤ 6) (hn0 : 0 ≤ n) (hn : n < 2 ^ (7 * i).toNat) :
    0 ≤ n + b % 128 * 2 ^ (7 * i).toNat ∧ n + b % 128 * 2 ^ (7 * i).toNat < 2 ^ (7 * (i + 1)).toNat := by
  have e : (7 * (i + 1)).toNat = (7 * i).toNat + 7 := by omega
  rw [e, Int.pow_add]
  obtain ⟨p, hp⟩ : ∃ p : Int, (2 : Int) ^ (7 * i).toNat = p := ⟨_, rfl⟩
  rw [hp] at hn ⊢
  have h1 : 0 ≤ b % 128 := by omega
  have h2 : b % 128 ≤ 127 := by omega
  have h3 : 0 ≤ b % 128 * p := Int.mul_nonneg h1 (by omega)
  have h4 : b % 128 * p ≤ 127 * p := Int.mul_le_mul_of_nonneg_right h2 (by omega)
  omega
theorem pow_small (i : Int) (hi : i ≤ 7) : (2 : Int) ^ (7 * i).toNat ≤ 562949953421312 := by
  have h : 2 ^ (7 * i).toNat ≤ 562949953421312 := Nat.le_trans (show 2 ^ (7 * i).toNat ≤ 2 ^ 49 from Nat.pow_le_pow_right (by decide) (by omega)) (by decide)
  rw [show ((2 : Int) ^ (7 * i).toNat) = ((2 ^ (7 * i).toNat : Nat) : Int) from (Int.natCast_pow 2 _).symm]
  exact Int.ofNat_le.2 h

theorem numG_bound (l : List Int) : ∀ (d : Nat) (i n : Int), 0 ≤ i → i + d = 7 → 0 ≤ n → n < 2 ^ (7 * i).toNat → ∀ m j fl, numG l d i n = some (m, j, fl) → 0 ≤ m ∧ m < 562949953421312 ∧ 1 ≤ j ∧ j ≤ 7 ∧ j ≤ l.length := by
  intro d
  induction d with
  | zero => intro i n _ _ _ _ m j fl h; simp [numG] at h
  | succ d ih =>
    intro i n hi0 hid hn0 hn m j fl h
    have hs := step_lt i n (rd l i) hi0 (by omega) hn0 hn
    have hp := pow_small (i + 1) (by omega)
    rw [numG] at h
    by_cases c : i < (l.length : Int)
    · rw [if_pos c] at h
      by_cases c2 : rd l i < 128
      · rw [if_pos c2] at h
        simp only [Option.some.injEq, Prod.mk.injEq] at h
        obtain ⟨rfl, rfl, rfl⟩ := h
        exact ⟨hs.1, by omega, by omega, by omega, by omega⟩
      · rw [if_neg c2] at h
        exact ih (i + 1) _ (by omega) (by omega) hs.1 hs.2 m j fl h
    · rw [if_neg c] at h; cases h

theorem number_l0 (l : List Int) (hb : Bytes l) (hl : l.length ≤ 140737488355328) : ∀ (d k : Nat) (i n : Int), 0 ≤ i → i + d = 7 → 0 ≤ n → n < 2 ^ (7 * i).toNat → d < k →
    value_number.l0 k l n (mn (l.length : Int) 7) i = some ((numG l d i n).getD (0, 0, false)) := by
  intro d
  induction d with
  | zero =>
    intro k i n hi0 hid hn0 hn hk
    obtain ⟨k, rfl⟩ : ∃ m, k = m + 1 := ⟨k - 1, by omega⟩
    simp only [value_number.l0]
    rw [if_neg (by unfold mn; split <;> omega)]
    rfl
  | succ d ih =>
    intro k i n hi0 hid hn0 hn hk
    obtain ⟨k, rfl⟩ : ∃ m, k = m + 1 := ⟨k - 1, by omega⟩
    have hby := rd_byte hb i
    have hs := step_lt i n (rd l i) hi0 (by omega) hn0 hn
    simp only [value_number.l0]
    by_cases c : i < (l.length : Int)
    · rw [if_pos (by unfold mn; split <;> omega), if_pos hi0, if_pos c, wrap_in (n := 7 * i) (by omega) (by omega), if_pos (by omega)]
      have hE := bitsE i n (rd l i) hi0 (by omega) hn0 hn hby.1 hby.2
      rw [wrap_in (n := 7 * i) (by omega) (by omega)] at hE
      rw [hE, wrap_in (n := i + 1) (by omega) (by omega), numG, if_pos c]
      by_cases c2 : rd l i < 128
      · rw [if_pos c2, if_pos c2]
        by_cases c3 : i = 0
        · rw [if_pos c3]; simp [c3]
        · rw [if_neg c3]; simp [c3]
      · rw [if_neg c2, if_neg c2]
        exact ih k (i + 1) _ (by omega) (by omega) hs.1 hs.2 (by omega)
    · rw [if_neg (by unfold mn; split <;> omega), numG, if_neg c]
      rfl

/-- What the document's loop tells of it. -/
def numR (most : Int) : Option (Int × Int × Bool) → Int × Int × Bool
  | none => (0, 0, false)
  | some (m, j, fl) => if m > most then (0, 0, false) else if fl = true then (m, j, true) else (0, 0, false)

theorem number_ref (l : List Int) (hb : Bytes l) (most : Int) (hl : l.length ≤ 140737488355328) : ∀ (d k : Nat) (i n : Int), 0 ≤ i → i + d = 7 → 0 ≤ n → n < 2 ^ (7 * i).toNat → 2 * d + 1 < k →
    auguryref04_Number.l0 k l most n (2 ^ (7 * i).toNat) i = some (numR most (numG l d i n)) := by
  intro d
  induction d with
  | zero =>
    intro k i n hi0 hid hn0 hn hk
    obtain ⟨k, rfl⟩ : ∃ m, k = m + 2 := ⟨k - 2, by omega⟩
    simp only [auguryref04_Number.l0]
    have e7 : decide (i < 7) = false := decide_eq_false (by omega)
    rw [e7]
    by_cases c : i < (l.length : Int)
    · rw [if_pos c]; simp [auguryref04_Number.j1, numG, numR]
    · rw [if_neg c]; simp [auguryref04_Number.j1, numG, numR]
  | succ d ih =>
    intro k i n hi0 hid hn0 hn hk
    obtain ⟨k, rfl⟩ : ∃ m, k = m + 2 := ⟨k - 2, by omega⟩
    have hby := rd_byte hb i
    have hs := step_lt i n (rd l i) hi0 (by omega) hn0 hn
    have hp := pow_small (i + 1) (by omega)
    simp only [auguryref04_Number.l0]
    have e7 : decide (i < 7) = true := decide_eq_true (by omega)
    rw [e7]
    by_cases c : i < (l.length : Int)
    · rw [if_pos c]
      have ht : Int.tmod (rd l i) 128 = rd l i % 128 := Int.tmod_eq_emod_of_nonneg hby.1
      have hm0 : 0 ≤ rd l i % 128 * 2 ^ (7 * i).toNat := by have := hs.1; have h1 : 0 ≤ rd l i % 128 := by omega
                                                            exact Int.mul_nonneg h1 (by omega)
      have w1 : wrap64 (rd l i % 128) = rd l i % 128 := wrap_in (by omega) (by omega)
      have w2 : wrap64 (rd l i % 128 * 2 ^ (7 * i).toNat) = rd l i % 128 * 2 ^ (7 * i).toNat := wrap_in (by omega) (by omega)
      have w3 : wrap64 (n + rd l i % 128 * 2 ^ (7 * i).toNat) = n + rd l i % 128 * 2 ^ (7 * i).toNat := wrap_in (by omega) (by omega)
      have w4 : wrap64 (i + 1) = i + 1 := wrap_in (by omega) (by omega)
      have e8 : (2 : Int) ^ (7 * (i + 1)).toNat = 2 ^ (7 * i).toNat * 128 := by
        rw [show (7 * (i + 1)).toNat = (7 * i).toNat + 7 by omega, Int.pow_add]; rfl
      have w5 : wrap64 ((2 : Int) ^ (7 * i).toNat * 128) = 2 ^ (7 * (i + 1)).toNat := by rw [← e8]; exact wrap_in (by omega) (by omega)
      simp only [auguryref04_Number.j1, if_true, ht, w1, w2, w3, w4, w5]
      rw [if_pos hi0, if_pos c, numG, if_pos c]
      by_cases c2 : rd l i < 128
      · rw [if_pos c2, if_pos c2]
        simp only [numR]
        by_cases c4 : n + rd l i % 128 * 2 ^ (7 * i).toNat > most
        · rw [if_pos c4, if_pos c4]
        · rw [if_neg c4, if_neg c4]
          by_cases c5 : i > 0
          · rw [if_pos c5]
            by_cases c6 : rd l i = 0
            · rw [if_pos c6]
              have : (decide (i = 0) || decide (rd l i > 0)) = false := by simp [c6]; omega
              rw [this]; simp
            · rw [if_neg c6]
              have : (decide (i = 0) || decide (rd l i > 0)) = true := by simp; omega
              rw [this]; simp
          · rw [if_neg c5]
            have : (decide (i = 0) || decide (rd l i > 0)) = true := by simp; omega
            rw [this]; simp
      · rw [if_neg c2, if_neg c2]
        exact ih k (i + 1) _ (by omega) (by omega) hs.1 hs.2 (by omega)
    · rw [if_neg c, numG, if_neg c]
      simp [auguryref04_Number.j1, numR]

theorem value_number_eq (l : List Int) (hb : Bytes l) (hl : l.length ≤ 140737488355328) (k : Nat) (hk : 7 < k) : value_number.f k l = some ((numG l 7 0 0).getD (0, 0, false)) := by
  unfold value_number.f
  exact number_l0 l hb hl 7 k 0 0 (by omega) (by omega) (by omega) (by decide) hk
theorem ref_number_eq (l : List Int) (hb : Bytes l) (hl : l.length ≤ 140737488355328) (most : Int) (k : Nat) (hk : 15 < k) : auguryref04_Number.f k l most = some (numR most (numG l 7 0 0)) := by
  unfold auguryref04_Number.f
  exact number_ref l hb most hl 7 k 0 0 (by omega) (by omega) (by omega) (by decide) hk
end Go.Proofs.Ytbnjhmcbkocdjaa.PAll
namespace Go.Proofs.Ytbnjhmcbkocdjaa.PAll
open Go.RowKit Go.Proofs.YtbnjhmcbkocdjaaW.PrintWords Go.Proofs.YtbnjhmcbkocdjaaW.PrintLast Go.Proofs.YtbnjhmcbkocdjaaW.PrintMore
set_option linter.unusedVariables false
set_option linter.unusedSimpArgs false

theorem right_eq (k n : Int) (s : ByteArray) : value_Right.f k n s = auguryref04_Right.f k n s := by
  unfold value_Right.f auguryref04_Right.f
  by_cases h1 : k = 1
  · simp [h1]
  · by_cases h2 : k = 2
    · simp [h2]
    · by_cases h3 : k = 3 <;> simp [h1, h2, h3]
/-- May that be a value? -/
def okVal (k n : Int) (s : ByteArray) : Bool :=
  if k = 1 then decide (-1099511627776 ≤ n) && (decide (n ≤ 1099511627776) && (s.toList == ([] : List UInt8)))
  else if k = 2 then decide (n = 0) && decide ((s.size : Int) ≤ 64)
  else if k = 3 then decide (0 ≤ n) && (decide (n ≤ 1) && (s.toList == ([] : List UInt8))) else false
theorem right_ok (k n : Int) (s : ByteArray) : value_Right.f k n s = some (okVal k n s) := by
  unfold value_Right.f okVal
  by_cases h1 : k = 1
  · rw [if_pos h1, if_pos h1]
    by_cases a : n ≥ -1099511627776
    · rw [if_pos a, decide_eq_true (show -1099511627776 ≤ n from a), Bool.true_and]
      by_cases b : n ≤ 1099511627776
      · rw [if_pos b, decide_eq_true b, Bool.true_and]
      · rw [if_neg b, decide_eq_false b, Bool.false_and]
    · rw [if_neg a, decide_eq_false (show ¬ -1099511627776 ≤ n from a), Bool.false_and]
  · rw [if_neg h1, if_neg h1]
    by_cases h3 : k = 3
    · have h2 : ¬ k = 2 := by omega
      rw [if_pos h3, if_neg h2, if_pos h3]
      by_cases a : n ≥ 0
      · rw [if_pos a, decide_eq_true (show 0 ≤ n from a), Bool.true_and]
        by_cases b : n ≤ 1
        · rw [if_pos b, decide_eq_true b, Bool.true_and]
        · rw [if_neg b, decide_eq_false b, Bool.false_and]
      · rw [if_neg a, decide_eq_false (show ¬ 0 ≤ n from a), Bool.false_and]
    · rw [if_neg h3]
      by_cases h2 : k = 2
      · rw [if_pos h2, if_pos h2]
        by_cases a : n = 0
        · rw [if_pos a, decide_eq_true a, Bool.true_and]
        · rw [if_neg a, decide_eq_false a, Bool.false_and]
      · rw [if_neg h2, if_neg h2, if_neg h3]
theorem ref_right_ok (k n : Int) (s : ByteArray) : auguryref04_Right.f k n s = some (okVal k n s) := (right_eq k n s).symm.trans (right_ok k n s)

theorem i64_toNat (x : Int) : (BitVec.ofInt 64 x).toNat = (x % 18446744073709551616).toNat := by
  rw [BitVec.toNat_ofInt]
  rfl
theorem xor_zero (x : Int) (h0 : 0 ≤ x) (h1 : x < 4611686018427387904) : bits .xor .i64 x 0 = x := by
  have e : bits .xor .i64 x 0 = IntKind.i64.wrap ((BitVec.ofInt 64 x ^^^ BitVec.ofInt 64 0).toNat : Int) := rfl
  rw [e, show BitVec.ofInt 64 0 = 0#64 from rfl, BitVec.xor_zero, i64_toNat, IntKind.wrap_i64]
  omega
theorem xor_ones (x : Int) (h0 : 0 ≤ x) (h1 : x < 4611686018427387904) : bits .xor .i64 x (-1) = -x - 1 := by
  have e : bits .xor .i64 x (-1) = IntKind.i64.wrap ((BitVec.ofInt 64 x ^^^ BitVec.ofInt 64 (-1)).toNat : Int) := rfl
  rw [e, show BitVec.ofInt 64 (-1) = BitVec.allOnes 64 from rfl, BitVec.xor_allOnes, BitVec.toNat_not, i64_toNat, IntKind.wrap_i64]
  omega
theorem and_one (m : Int) (h0 : 0 ≤ m) (h1 : m < 2 ^ 63) : bits .and .u64 m 1 = m % 2 :=
  bits_mask .u64 63 (by decide) (fun n a b => u64_in a b) 1 (by decide) m h0 h1
/-- A number out of its digits' sum. -/
def zz (m : Int) : Int := if m % 2 = 1 then -(m / 2) - 1 else m / 2
theorem zz_eq (m : Int) (h0 : 0 ≤ m) (h1 : m < 562949953421312) : bits .xor .i64 (wrap64 (m / 2)) (wrap64 (-(wrap64 (bits .and .u64 m 1)))) = zz m := by
  rw [and_one m h0 (by omega), wrap_in (n := m / 2) (by omega) (by omega), wrap_in (n := m % 2) (by omega) (by omega)]
  unfold zz
  by_cases h : m % 2 = 1
  · rw [if_pos h, h, wrap_in (n := -1) (by omega) (by omega), xor_ones _ (by omega) (by omega)]
  · rw [if_neg h, show m % 2 = 0 by omega, show wrap64 (-0) = 0 from by unfold wrap64; omega]
    exact xor_zero _ (by omega) (by omega)

theorem get_eq (l : List Int) (hb : Bytes l) (hl : l.length ≤ 1000000) (k : Nat) (hk : 15 < k) : ∃ r, value_Get.f k l = some r ∧ auguryref04_Get.f k l = some r := by
  have h0 := rd_byte hb 0
  have h1 := rd_byte hb 1
  have w0 : wrap64 (rd l 0) = rd l 0 := wrap_in (by omega) (by omega)
  have w1 : wrap64 (rd l 1) = rd l 1 := wrap_in (by omega) (by omega)
  have w2 : wrap64 (2 + rd l 1) = 2 + rd l 1 := wrap_in (by omega) (by omega)
  have w3 : wrap64 ((l.length : Int) - 2) = (l.length : Int) - 2 := wrap_in (by omega) (by omega)
  have hd := bytes_drop hb 1
  have hld : (l.drop 1).length ≤ 140737488355328 := by rw [List.length_drop]; omega
  unfold value_Get.f auguryref04_Get.f
  simp only [w0, w1, w2, w3, right_ok, ref_right_ok, Option.bind_some]
  by_cases c1 : (l.length : Int) < 2
  · simp only [if_pos c1]; exact ⟨_, rfl, rfl⟩
  simp only [if_neg c1]
  rw [if_pos (show 0 < (l.length : Int) by omega), if_pos (show 0 < (l.length : Int) by omega)]
  by_cases c2 : rd l 0 = 1
  · simp only [if_pos c2]
    rw [if_pos (show 1 ≤ (l.length : Int) by omega), if_pos (show 1 ≤ (l.length : Int) by omega)]
    rw [value_number_eq _ hd hld k (by omega), ref_number_eq _ hd hld _ k hk]
    simp only [Option.bind_some]
    cases hg : numG (l.drop 1) 7 0 0 with
    | none => simp [numR]
    | some t =>
      obtain ⟨m, j, fl⟩ := t
      obtain ⟨b0, b1, b2, b3, _⟩ := numG_bound (l.drop 1) 7 0 0 (by omega) (by omega) (by omega) (by decide) m j fl hg
      simp only [Option.getD_some, numR]
      rw [zz_eq m b0 b1, wrap_in (n := 1 + j) (by omega) (by omega)]
      cases fl with
      | false =>
        simp only [Bool.false_eq_true, if_false]
        by_cases c3 : m > 2199023255552
        · simp [if_pos c3]
        · simp [if_neg c3]
      | true =>
        simp only [if_true]
        by_cases c3 : m > 2199023255552
        · simp only [if_pos c3, Bool.false_eq_true, if_false]
          have : okVal (rd l 0) (zz m) ⟨#[]⟩ = false := by
            rw [c2]
            unfold okVal zz
            rw [if_pos rfl]
            by_cases c4 : m % 2 = 1
            · rw [if_pos c4]; simp; omega
            · rw [if_neg c4]; simp; omega
          rw [this]
          exact ⟨_, rfl, rfl⟩
        · simp only [if_neg c3, if_true]
          have t2 : Int.tmod m 2 = m % 2 := Int.tmod_eq_emod_of_nonneg b0
          have t3 : Int.tdiv m 2 = m / 2 := Int.tdiv_eq_ediv_of_nonneg b0
          rw [t2, t3, wrap_in (n := m / 2) (by omega) (by omega), wrap_in (n := -(m / 2)) (by omega) (by omega), wrap_in (n := -(m / 2) - 1) (by omega) (by omega), wrap_in (n := 1 + j) (by omega) (by omega)]
          by_cases c4 : m % 2 = 1
          · rw [if_pos c4, show zz m = -(m / 2) - 1 from if_pos c4]
            cases okVal (rd l 0) (-(m / 2) - 1) ⟨#[]⟩ <;> exact ⟨_, rfl, rfl⟩
          · rw [if_neg c4, show zz m = m / 2 from if_neg c4]
            cases okVal (rd l 0) (m / 2) ⟨#[]⟩ <;> exact ⟨_, rfl, rfl⟩
  simp only [if_neg c2]
  by_cases c5 : rd l 0 = 2
  · simp only [if_pos c5]
    rw [if_pos (show 1 < (l.length : Int) by omega), if_pos (show 1 < (l.length : Int) by omega)]
    by_cases c6 : 2 + rd l 1 ≤ (l.length : Int)
    · rw [if_pos c6, if_pos (show 2 ≤ 2 + rd l 1 by omega), if_neg (show ¬ rd l 1 > (l.length : Int) - 2 by omega), if_pos (show 2 ≤ 2 + rd l 1 by omega), if_pos c6]
      cases okVal (rd l 0) 0 (strOfNums (List.drop 2 (List.take (2 + rd l 1).toNat l))) <;> exact ⟨_, rfl, rfl⟩
    · rw [if_neg c6, if_pos (show rd l 1 > (l.length : Int) - 2 by omega)]
      exact ⟨_, rfl, rfl⟩
  simp only [if_neg c5]
  by_cases c7 : rd l 0 = 3
  · simp only [if_pos c7]
    rw [if_pos (show 1 < (l.length : Int) by omega)]
    cases okVal (rd l 0) (rd l 1) ⟨#[]⟩ <;> exact ⟨_, rfl, rfl⟩
  · simp only [if_neg c7]
    cases okVal (rd l 0) 0 ⟨#[]⟩ <;> exact ⟨_, rfl, rfl⟩
end Go.Proofs.Ytbnjhmcbkocdjaa.PAll
namespace Go.Proofs.Ytbnjhmcbkocdjaa.PAll
open Go.RowKit Go.Proofs.YtbnjhmcbkocdjaaW.PrintWords Go.Proofs.YtbnjhmcbkocdjaaW.PrintLast Go.Proofs.YtbnjhmcbkocdjaaW.PrintMore
set_option linter.unusedVariables false
set_option linter.unusedSimpArgs false

theorem ok_int {n : Int} {s : ByteArray} (h : okVal 1 n s = true) : -1099511627776 ≤ n ∧ n ≤ 1099511627776 ∧ s.toList = [] := by
  unfold okVal at h
  rw [if_pos rfl] at h
  simp at h
  exact ⟨h.1, h.2.1, by simpa using h.2.2⟩
theorem ok_text {n : Int} {s : ByteArray} (h : okVal 2 n s = true) : n = 0 ∧ s.size ≤ 64 := by
  unfold okVal at h
  rw [if_neg (by decide), if_pos rfl] at h
  simp at h
  exact ⟨h.1, by omega⟩
theorem ok_bool {n : Int} {s : ByteArray} (h : okVal 3 n s = true) : 0 ≤ n ∧ n ≤ 1 ∧ s.toList = [] := by
  unfold okVal at h
  rw [if_neg (by decide), if_neg (by decide), if_pos rfl] at h
  simp at h
  exact ⟨h.1, h.2.1, by simpa using h.2.2⟩
theorem ok_kind {k n : Int} {s : ByteArray} (h : okVal k n s = true) : k = 1 ∨ k = 2 ∨ k = 3 := by
  unfold okVal at h
  by_cases h1 : k = 1
  · exact .inl h1
  · by_cases h2 : k = 2
    · exact .inr (.inl h2)
    · by_cases h3 : k = 3
      · exact .inr (.inr h3)
      · simp [h1, h2, h3] at h
theorem ok_of_int {n : Int} (h : -1099511627776 ≤ n ∧ n ≤ 1099511627776) : okVal 1 n ⟨#[]⟩ = true := by
  unfold okVal
  rw [if_pos rfl, decide_eq_true h.1, decide_eq_true h.2, ByteArray.toList_eq]
  rfl
theorem not_ok_int {n : Int} (h : ¬ (-1099511627776 ≤ n ∧ n ≤ 1099511627776)) (s : ByteArray) : okVal 1 n s = false := by
  cases c : okVal 1 n s with
  | false => rfl
  | true => have := ok_int c; omega

/-! The digits. -/
def digS : Nat → Int → List Int
  | 0, n => [n]
  | d + 1, n => if n > 127 then (n % 128 + 128) :: digS d (n / 128) else [n]
theorem or128 (n : Int) (h0 : 0 ≤ n) : bits .or .u8 (n % 256) 128 = n % 128 + 128 := by
  have h : ∀ x : Fin 256, bits .or .u8 (x.val : Int) 128 = (x.val : Int) % 128 + 128 := by decide +kernel
  obtain ⟨m, hm⟩ := Int.eq_ofNat_of_zero_le (show 0 ≤ n % 256 by omega)
  have := h ⟨m, by omega⟩
  simp only at this
  rw [hm, this]
  omega
theorem digS_length (d : Nat) : ∀ n, (digS d n).length ≤ d + 1 := by
  induction d with
  | zero => intro n; simp [digS]
  | succ d ih =>
    intro n
    unfold digS
    split
    · have := ih (n / 128); simp; omega
    · simp
theorem pow7 (d : Nat) : (2 : Int) ^ (7 * (d + 1)) = 128 * 2 ^ (7 * d) := by
  rw [show 7 * (d + 1) = 7 * d + 7 by omega, Int.pow_add, Int.mul_comm]; rfl
theorem put_l0 : ∀ (d k : Nat) (n : Int) (acc : List Int), 0 ≤ n → n < 2 ^ (7 * (d + 1)) → d < k → acc.length + d < 1000 → value_Put.l0 k acc n = some (acc ++ digS d n) := by
  intro d
  induction d with
  | zero =>
    intro k n acc h0 h1 hk ha
    obtain ⟨k, rfl⟩ : ∃ m, k = m + 1 := ⟨k - 1, by omega⟩
    have h2 : n < 128 := h1
    simp only [value_Put.l0, digS]
    rw [if_neg (by omega), if_pos (by omega), Int.emod_eq_of_lt h0 (by omega)]
  | succ d ih =>
    intro k n acc h0 h1 hk ha
    obtain ⟨k, rfl⟩ : ∃ m, k = m + 1 := ⟨k - 1, by omega⟩
    simp only [value_Put.l0, digS]
    by_cases c : n > 127
    · rw [if_pos c, if_pos (by omega), if_pos c, or128 n h0]
      have h2 : n / 128 < 2 ^ (7 * (d + 1)) := by rw [pow7] at h1; omega
      rw [ih k (n / 128) _ (by omega) h2 (by omega) (by simp; omega)]
      simp
    · rw [if_neg c, if_pos (by omega), if_neg c, Int.emod_eq_of_lt h0 (by omega)]
theorem ref_digits_l0 : ∀ (d k : Nat) (n : Int) (acc : List Int), 0 ≤ n → n < 2 ^ (7 * (d + 1)) → n < 9223372036854775807 → d < k → acc.length + d < 1000 → auguryref04_Digits.l0 k n acc = some (acc ++ digS d n) := by
  intro d
  induction d with
  | zero =>
    intro k n acc h0 h1 _ hk ha
    obtain ⟨k, rfl⟩ : ∃ m, k = m + 1 := ⟨k - 1, by omega⟩
    have h2 : n < 128 := h1
    simp only [auguryref04_Digits.l0, digS]
    rw [if_neg (by omega), if_pos (by omega), Int.emod_eq_of_lt h0 (by omega)]
  | succ d ih =>
    intro k n acc h0 h1 h3 hk ha
    obtain ⟨k, rfl⟩ : ∃ m, k = m + 1 := ⟨k - 1, by omega⟩
    simp only [auguryref04_Digits.l0, digS]
    by_cases c : n > 127
    · have t2 : Int.tmod n 128 = n % 128 := Int.tmod_eq_emod_of_nonneg h0
      have t3 : Int.tdiv n 128 = n / 128 := Int.tdiv_eq_ediv_of_nonneg h0
      rw [if_pos (by omega), if_pos (by omega), if_pos c, t2, t3, wrap_in (n := n / 128) (by omega) (by omega), Int.emod_eq_of_lt (a := n % 128 + 128) (by omega) (by omega)]
      have h2 : n / 128 < 2 ^ (7 * (d + 1)) := by rw [pow7] at h1; omega
      rw [ih k (n / 128) _ (by omega) h2 (by omega) (by omega) (by simp; omega)]
      simp
    · rw [if_neg (by omega), if_pos (by omega), if_neg c, Int.emod_eq_of_lt h0 (by omega)]

/-- A number, as it is written. -/
def zzE (n : Int) : Int := if n < 0 then -2 * n - 1 else 2 * n
theorem xor_gen0 (x : Int) (h0 : -4611686018427387904 ≤ x) (h1 : x < 4611686018427387904) : bits .xor .i64 x 0 = x := by
  have e : bits .xor .i64 x 0 = IntKind.i64.wrap ((BitVec.ofInt 64 x ^^^ BitVec.ofInt 64 0).toNat : Int) := rfl
  rw [e, show BitVec.ofInt 64 0 = 0#64 from rfl, BitVec.xor_zero, i64_toNat, IntKind.wrap_i64]
  omega
theorem xor_gen1 (x : Int) (h0 : -4611686018427387904 ≤ x) (h1 : x < 4611686018427387904) : bits .xor .i64 x (-1) = -x - 1 := by
  have e : bits .xor .i64 x (-1) = IntKind.i64.wrap ((BitVec.ofInt 64 x ^^^ BitVec.ofInt 64 (-1)).toNat : Int) := rfl
  rw [e, show BitVec.ofInt 64 (-1) = BitVec.allOnes 64 from rfl, BitVec.xor_allOnes, BitVec.toNat_not, i64_toNat, IntKind.wrap_i64]
  omega
theorem zzE_eq (n : Int) (h0 : -1099511627776 ≤ n) (h1 : n ≤ 1099511627776) : IntKind.u64.wrap (bits .xor .i64 (wrap64 (n * 2)) (n / 9223372036854775808)) = zzE n := by
  rw [wrap_in (n := n * 2) (by omega) (by omega)]
  unfold zzE
  by_cases c : n < 0
  · rw [if_pos c, show n / 9223372036854775808 = -1 by omega, xor_gen1 _ (by omega) (by omega), wrap_u64]; omega
  · rw [if_neg c, show n / 9223372036854775808 = 0 by omega, xor_gen0 _ (by omega) (by omega), wrap_u64]; omega
def putS (k n : Int) (s : ByteArray) : List Int :=
  if okVal k n s = true then k :: (if k = 1 then digS 5 (zzE n) else if k = 2 then (s.size : Int) :: bytesOf s else [n]) else []
theorem zzE_lt (n : Int) (h0 : -1099511627776 ≤ n) (h1 : n ≤ 1099511627776) : 0 ≤ zzE n ∧ zzE n ≤ 2199023255552 := by
  unfold zzE
  split <;> omega
theorem put_eq (k : Nat) (hk : 5 < k) (kd n : Int) (s : ByteArray) : value_Put.f k kd n s = some (putS kd n s) := by
  unfold value_Put.f putS
  rw [right_ok]
  simp only [Option.bind_some]
  cases c : okVal kd n s with
  | false => simp
  | true =>
    simp only [if_true]
    rcases ok_kind c with rfl | rfl | rfl
    · have b := ok_int c
      have b2 := zzE_lt n b.1 b.2.1
      have hp : (2 : Int) ^ (7 * (5 + 1)) = 4398046511104 := rfl
      rw [if_neg (by decide), if_neg (by decide), zzE_eq n b.1 b.2.1, put_l0 5 k _ _ b2.1 (by omega) hk (by simp)]
      rfl
    · have b := ok_text c
      rw [if_pos rfl, if_pos (by simp), if_pos (by simp; omega), if_neg (by decide), if_pos rfl]
      rw [Int.emod_eq_of_lt (a := (s.size : Int)) (by omega) (by omega)]
      rfl
    · have b := ok_bool c
      rw [if_neg (by decide), if_pos rfl, if_pos (by simp), if_neg (by decide), if_neg (by decide), Int.emod_eq_of_lt (a := n) (by omega) (by omega)]
      rfl
theorem ref_put_eq (k : Nat) (hk : 5 < k) (kd n : Int) (s : ByteArray) : auguryref04_Put.f k kd n s = some (putS kd n s) := by
  unfold auguryref04_Put.f putS
  rw [ref_right_ok]
  simp only [Option.bind_some]
  cases c : okVal kd n s with
  | false => simp
  | true =>
    simp only [if_true]
    rcases ok_kind c with rfl | rfl | rfl
    · have b := ok_int c
      have b2 := zzE_lt n b.1 b.2.1
      have hp : (2 : Int) ^ (7 * (5 + 1)) = 4398046511104 := rfl
      rw [if_pos rfl, if_pos rfl]
      by_cases q : n < 0
      · rw [if_pos q, wrap_in (n := -2 * n) (by omega) (by omega), wrap_in (n := -2 * n - 1) (by omega) (by omega)]
        have e : zzE n = -2 * n - 1 := if_pos q
        rw [← e]
        unfold auguryref04_Digits.f
        rw [ref_digits_l0 5 k _ _ b2.1 (by omega) (by omega) hk (by simp)]
        have := digS_length 5 (zzE n)
        simp only [Option.bind_some, List.nil_append]
        rw [if_pos (by simp; omega)]
        rfl
      · rw [if_neg q, wrap_in (n := 2 * n) (by omega) (by omega)]
        have e : zzE n = 2 * n := if_neg q
        rw [← e]
        unfold auguryref04_Digits.f
        rw [ref_digits_l0 5 k _ _ b2.1 (by omega) (by omega) hk (by simp)]
        have := digS_length 5 (zzE n)
        simp only [Option.bind_some, List.nil_append]
        rw [if_pos (by simp; omega)]
        rfl
    · have b := ok_text c
      rw [if_neg (by decide), if_pos rfl, if_pos (by simp), if_pos (by simp; omega), if_neg (by decide), if_pos rfl]
      rw [Int.emod_eq_of_lt (a := (s.size : Int)) (by omega) (by omega)]
      rfl
    · have b := ok_bool c
      rw [if_neg (by decide), if_neg (by decide), if_pos rfl, if_pos (by simp), if_neg (by decide), if_neg (by decide), Int.emod_eq_of_lt (a := n) (by omega) (by omega)]
      rfl

/-! Comparisons. -/
end Go.Proofs.Ytbnjhmcbkocdjaa.PAll
namespace Go.Proofs.Ytbnjhmcbkocdjaa.Pure
open Go.Proofs.Ytbnjhmcbkocdjaa.PAll
open Go.RowKit Go.Proofs.YtbnjhmcbkocdjaaW.PrintWords Go.Proofs.YtbnjhmcbkocdjaaW.PrintLast Go.Proofs.YtbnjhmcbkocdjaaW.PrintMore
set_option linter.unusedVariables false
set_option linter.unusedSimpArgs false
theorem wrap_nat {i : Nat} (h : i < 9223372036854775807) : wrap64 ((i : Int) + 1) = ((i + 1 : Nat) : Int) := by rw [wrap_id (by omega) (by omega)]; omega
/-- The first value that is none. -/
def badI (l : List S52) : Nat → Nat → Int
  | 0, _ => -1
  | d + 1, i => if okVal (rd_T52 l i).f0 (rd_T52 l i).f1 (rd_T52 l i).f2 = true then badI l d (i + 1) else i
theorem bad_l0 (l : List S52) (hl : l.length ≤ 140737488351232) : ∀ (d i k : Nat), i + d = l.length → d < k → api_Val__f52_55.l0 k l (l.length : Int) (i : Int) = some (badI l d i)
  | 0, i, k, hi, hk => by
    obtain ⟨k, rfl⟩ : ∃ m, k = m + 1 := ⟨k - 1, by omega⟩
    unfold api_Val__f52_55.l0 badI
    rw [if_neg (by omega)]
  | d + 1, i, k, hi, hk => by
    obtain ⟨k, rfl⟩ : ∃ m, k = m + 1 := ⟨k - 1, by omega⟩
    unfold api_Val__f52_55.l0 badI
    rw [if_pos (by omega), if_pos (by omega), if_pos (by omega)]
    unfold event_right_1.f
    simp only [right_ok, Option.bind_some]
    cases h : okVal (rd_T52 l i).f0 (rd_T52 l i).f1 (rd_T52 l i).f2 with
    | true =>
      simp only [Bool.not_true, Bool.false_eq_true, if_false, if_true]
      rw [wrap_nat (by omega)]
      exact bad_l0 l hl d (i + 1) k (by omega) (by omega)
    | false => simp
theorem badr_l0 (l : List S52) (hl : l.length ≤ 140737488351232) (a0 a1 a2 : Int) (a3 : ByteArray) : ∀ (d i k : Nat), i + d = l.length → d < k → auguryref05_Right.l0 k (i : Int) a0 a1 a2 a3 l = some (decide (badI l d i < 0) && decide (l.length ≤ 8))
  | 0, i, k, hi, hk => by
    obtain ⟨k, rfl⟩ : ∃ m, k = m + 1 := ⟨k - 1, by omega⟩
    unfold auguryref05_Right.l0 badI
    rw [if_neg (by omega)]
    simp
    omega
  | d + 1, i, k, hi, hk => by
    obtain ⟨k, rfl⟩ : ∃ m, k = m + 1 := ⟨k - 1, by omega⟩
    unfold auguryref05_Right.l0 badI
    rw [if_pos (by omega), if_pos (by omega)]
    simp only [ref_right_ok, Option.bind_some]
    cases h : okVal (rd_T52 l i).f0 (rd_T52 l i).f1 (rd_T52 l i).f2 with
    | true =>
      simp only [if_true]
      rw [wrap_nat (by omega)]
      exact badr_l0 l hl a0 a1 a2 a3 d (i + 1) k (by omega) (by omega)
    | false =>
      have : ¬ ((i : Int) < 0) := by omega
      simp [this]
def rightB (a0 a1 a2 : Int) (a3 : ByteArray) (l : List S52) : Bool :=
  decide (0 ≤ a0 ∧ a0 ≤ 1099511627776 ∧ 0 ≤ a2 ∧ a2 ≤ 1099511627776 ∧ 0 ≤ a1 ∧ a1 ≤ 3) && (wordB a3 && (decide (l.length ≤ 8) && decide (badI l l.length 0 < 0)))
theorem within_eq (a b : Int) : event_within.f a b = some (decide (0 ≤ a ∧ a ≤ b)) := by
  unfold event_within.f
  by_cases h : a ≥ 0
  · rw [if_pos h]
    congr 1
    rw [decide_eq_decide]
    exact ⟨fun q => ⟨h, q⟩, fun q => q.2⟩
  · rw [if_neg h]
    congr 1
    exact (decide_eq_false fun q => h q.1).symm
theorem right_eq' (a0 a1 a2 : Int) (a3 : ByteArray) (l : List S52) (h3 : a3.size ≤ 140737488351232) (hl : l.length ≤ 140737488351232) (k : Nat) (hk : 300000000000000 ≤ k) :
    event_right.f k a0 a1 a2 a3 l = some (rightB a0 a1 a2 a3 l) := by
  have hb : api_Val__f52_55.l0 k l (l.length : Int) 0 = some (badI l l.length 0) := bad_l0 l hl l.length 0 k (by omega) (by omega)
  unfold event_right.f rightB api_Val__f52_51.f api_Val__f52_55.f
  rw [within_eq, within_eq, within_eq, word_eq a3 (by omega) k (by omega), hb]
  simp only [Option.bind_some]
  by_cases h0 : 0 ≤ a0 ∧ a0 ≤ 1099511627776
  · by_cases h2 : 0 ≤ a2 ∧ a2 ≤ 1099511627776
    · by_cases h1 : 0 ≤ a1 ∧ a1 ≤ 3
      · rw [decide_eq_true h0, decide_eq_true h2, decide_eq_true h1, if_pos rfl, if_pos rfl, if_pos rfl, decide_eq_true (p := 0 ≤ a0 ∧ a0 ≤ 1099511627776 ∧ 0 ≤ a2 ∧ a2 ≤ 1099511627776 ∧ 0 ≤ a1 ∧ a1 ≤ 3) ⟨h0.1, h0.2, h2.1, h2.2, h1.1, h1.2⟩, Bool.true_and]
        cases wordB a3 with
        | false => rfl
        | true =>
          rw [if_pos rfl, Bool.true_and]
          by_cases h4 : (l.length : Int) ≤ 8
          · rw [if_pos h4, decide_eq_true (show l.length ≤ 8 by omega), Bool.true_and]
            congr 1
            rw [Bool.eq_iff_iff]
            simp
          · rw [if_neg h4, decide_eq_false (show ¬ l.length ≤ 8 by omega), Bool.false_and]
      · rw [decide_eq_true h0, decide_eq_true h2, decide_eq_false h1, if_pos rfl, if_pos rfl, if_neg (by decide), decide_eq_false (p := 0 ≤ a0 ∧ a0 ≤ 1099511627776 ∧ 0 ≤ a2 ∧ a2 ≤ 1099511627776 ∧ 0 ≤ a1 ∧ a1 ≤ 3) (fun q => h1 q.2.2.2.2), Bool.false_and]
    · rw [decide_eq_true h0, decide_eq_false h2, if_pos rfl, if_neg (by decide), decide_eq_false (p := 0 ≤ a0 ∧ a0 ≤ 1099511627776 ∧ 0 ≤ a2 ∧ a2 ≤ 1099511627776 ∧ 0 ≤ a1 ∧ a1 ≤ 3) (fun q => h2 ⟨q.2.2.1, q.2.2.2.1⟩), Bool.false_and]
  · rw [decide_eq_false h0, if_neg (by decide), decide_eq_false (p := 0 ≤ a0 ∧ a0 ≤ 1099511627776 ∧ 0 ≤ a2 ∧ a2 ≤ 1099511627776 ∧ 0 ≤ a1 ∧ a1 ≤ 3) (fun q => h0 ⟨q.1, q.2.1⟩), Bool.false_and]
theorem rightr_j0 (b : Bool) (a0 a1 a2 : Int) (a3 : ByteArray) (l : List S52) (hl : l.length ≤ 140737488351232) (k : Nat) (hk : 200000000000000 ≤ k) :
    auguryref05_Right.j0 k b a0 a1 a2 a3 l = some (!b && (decide (l.length ≤ 8) && decide (badI l l.length 0 < 0))) := by
  obtain ⟨k, rfl⟩ : ∃ m, k = m + 1 := ⟨k - 1, by omega⟩
  unfold auguryref05_Right.j0
  dsimp only
  cases b with
  | true => simp
  | false =>
    have hb : auguryref05_Right.l0 k 0 a0 a1 a2 a3 l = some (decide (badI l l.length 0 < 0) && decide (l.length ≤ 8)) := badr_l0 l hl a0 a1 a2 a3 l.length 0 k (by omega) (by omega)
    rw [if_neg (by decide), hb, Bool.and_comm]
    rfl
theorem rightr_eq (a0 a1 a2 : Int) (a3 : ByteArray) (l : List S52) (h3 : a3.size ≤ 140737488351232) (hl : l.length ≤ 140737488351232) (k : Nat) (hk : 300000000000000 ≤ k) :
    auguryref05_Right.f k a0 a1 a2 a3 l = some (rightB a0 a1 a2 a3 l) := by
  have hj : ∀ b, auguryref05_Right.j0 k b a0 a1 a2 a3 l = some (!b && (decide (l.length ≤ 8) && decide (badI l l.length 0 < 0))) := fun b => rightr_j0 b a0 a1 a2 a3 l hl k (by omega)
  unfold auguryref05_Right.f rightB
  simp only [hj, wordr_eq a3 (by omega) k (by omega), Option.bind_some, Bool.not_true, Bool.false_and, Bool.not_not]
  by_cases h : 0 ≤ a0 ∧ a0 ≤ 1099511627776 ∧ 0 ≤ a2 ∧ a2 ≤ 1099511627776 ∧ 0 ≤ a1 ∧ a1 ≤ 3
  · rw [if_neg (by omega), if_neg (by omega), if_neg (by omega), if_neg (by omega), if_neg (by omega), if_neg (by omega), decide_eq_true h, Bool.true_and]
  · rw [decide_eq_false h, Bool.false_and]
    repeat' split
    all_goals first | rfl | (exfalso; omega)
/-- The place of a name among schemas, and among fields. -/
def idx31 (l : List S31) (a : ByteArray) : Nat → Nat → Int
  | 0, _ => -1
  | d + 1, i => if (rd_T31 l i).f0.toList = a.toList then i else idx31 l a d (i + 1)
def idx55 (l : List S55) (a : ByteArray) : Nat → Nat → Int
  | 0, _ => -1
  | d + 1, i => if (rd_T55 l i).f0.toList = a.toList then i else idx55 l a d (i + 1)
theorem idx31_range (l : List S31) (a : ByteArray) : ∀ d i : Nat, idx31 l a d i = -1 ∨ (0 ≤ idx31 l a d i ∧ idx31 l a d i < i + d)
  | 0, _ => .inl rfl
  | d + 1, i => by
    unfold idx31
    split
    · exact .inr ⟨by omega, by omega⟩
    · rcases idx31_range l a d (i + 1) with h | h
      · exact .inl h
      · exact .inr ⟨h.1, by omega⟩
theorem idx55_range (l : List S55) (a : ByteArray) : ∀ d i : Nat, idx55 l a d i = -1 ∨ (0 ≤ idx55 l a d i ∧ idx55 l a d i < i + d)
  | 0, _ => .inl rfl
  | d + 1, i => by
    unfold idx55
    split
    · exact .inr ⟨by omega, by omega⟩
    · rcases idx55_range l a d (i + 1) with h | h
      · exact .inl h
      · exact .inr ⟨h.1, by omega⟩
theorem idx31_l0 (l : List S31) (a : ByteArray) (hl : l.length ≤ 140737488351232) : ∀ (d i k : Nat), i + d = l.length → d < k → api_Schema__f32.l0 k l a (l.length : Int) (i : Int) = some (idx31 l a d i)
  | 0, i, k, hi, hk => by
    obtain ⟨k, rfl⟩ : ∃ m, k = m + 1 := ⟨k - 1, by omega⟩
    unfold api_Schema__f32.l0 idx31
    rw [if_neg (by omega)]
  | d + 1, i, k, hi, hk => by
    obtain ⟨k, rfl⟩ : ∃ m, k = m + 1 := ⟨k - 1, by omega⟩
    unfold api_Schema__f32.l0 idx31
    rw [if_pos (by omega), if_pos (by omega), if_pos (by omega)]
    unfold event_Find_1.f
    simp only [Option.bind_some]
    by_cases h : (rd_T31 l i).f0.toList = a.toList
    · rw [if_pos (by rw [h]; exact beq_self_eq_true _), if_pos h]
    · rw [if_neg (fun q => h (beq_iff_eq.1 q)), if_neg h, wrap_nat (by omega)]
      exact idx31_l0 l a hl d (i + 1) k (by omega) (by omega)
theorem idx55_l0 (l : List S55) (a : ByteArray) (hl : l.length ≤ 140737488351232) : ∀ (d i k : Nat), i + d = l.length → d < k → api_Field__f34.l0 k l a (l.length : Int) (i : Int) = some (idx55 l a d i)
  | 0, i, k, hi, hk => by
    obtain ⟨k, rfl⟩ : ∃ m, k = m + 1 := ⟨k - 1, by omega⟩
    unfold api_Field__f34.l0 idx55
    rw [if_neg (by omega)]
  | d + 1, i, k, hi, hk => by
    obtain ⟨k, rfl⟩ : ∃ m, k = m + 1 := ⟨k - 1, by omega⟩
    unfold api_Field__f34.l0 idx55
    rw [if_pos (by omega), if_pos (by omega), if_pos (by omega)]
    unfold event_Field_1.f
    simp only [Option.bind_some]
    by_cases h : (rd_T55 l i).f0.toList = a.toList
    · rw [if_pos (by rw [h]; exact beq_self_eq_true _), if_pos h]
    · rw [if_neg (fun q => h (beq_iff_eq.1 q)), if_neg h, wrap_nat (by omega)]
      exact idx55_l0 l a hl d (i + 1) k (by omega) (by omega)
def findS (l : List S31) (a : ByteArray) : ByteArray × List S55 × Bool :=
  if idx31 l a l.length 0 < 0 then (⟨#[]⟩, [], false) else ((rd_T31 l (idx31 l a l.length 0)).f0, (rd_T31 l (idx31 l a l.length 0)).f1, true)
def fieldS (l : List S55) (a : ByteArray) : Int × Int :=
  if idx55 l a l.length 0 < 0 then (-1, 0) else (idx55 l a l.length 0, (rd_T55 l (idx55 l a l.length 0)).f1)
theorem find_eq (l : List S31) (a : ByteArray) (hl : l.length ≤ 140737488351232) (k : Nat) (hk : 200000000000000 ≤ k) : event_Find.f k l a = some (findS l a) := by
  unfold event_Find.f findS api_Schema__f32.f
  have hb : api_Schema__f32.l0 k l a (l.length : Int) 0 = some (idx31 l a l.length 0) := idx31_l0 l a hl l.length 0 k (by omega) (by omega)
  rw [hb, Option.bind_some]
  have := idx31_range l a l.length 0
  by_cases h : idx31 l a l.length 0 < 0
  · rw [if_pos h, if_pos h]
  · rw [if_neg h, if_pos (by omega), if_pos (by omega), if_neg h]
theorem findr_l0 (l : List S31) (a : ByteArray) (hl : l.length ≤ 140737488351232) : ∀ (d i k : Nat), i + d = l.length → d < k → auguryref05_Find.l0 k l a (i : Int) = some (if idx31 l a d i < 0 then (⟨#[]⟩, [], false) else ((rd_T31 l (idx31 l a d i)).f0, (rd_T31 l (idx31 l a d i)).f1, true))
  | 0, i, k, hi, hk => by
    obtain ⟨k, rfl⟩ : ∃ m, k = m + 1 := ⟨k - 1, by omega⟩
    unfold auguryref05_Find.l0 idx31
    rw [if_neg (by omega)]
    rfl
  | d + 1, i, k, hi, hk => by
    obtain ⟨k, rfl⟩ : ∃ m, k = m + 1 := ⟨k - 1, by omega⟩
    unfold auguryref05_Find.l0 idx31
    rw [if_pos (by omega), if_pos (by omega)]
    by_cases h : (rd_T31 l i).f0.toList = a.toList
    · rw [if_pos h, if_pos h, if_neg (by omega)]
    · rw [if_neg h, if_neg h, wrap_nat (by omega)]
      exact findr_l0 l a hl d (i + 1) k (by omega) (by omega)
theorem findr_eq (l : List S31) (a : ByteArray) (hl : l.length ≤ 140737488351232) (k : Nat) (hk : 200000000000000 ≤ k) : auguryref05_Find.f k l a = some (findS l a) :=
  findr_l0 l a hl l.length 0 k (by omega) (by omega)
theorem field_eq (n : ByteArray) (l : List S55) (a : ByteArray) (hl : l.length ≤ 140737488351232) (k : Nat) (hk : 200000000000000 ≤ k) : event_Field.f k n l a = some (fieldS l a) := by
  unfold event_Field.f fieldS api_Field__f34.f
  have hb : api_Field__f34.l0 k l a (l.length : Int) 0 = some (idx55 l a l.length 0) := idx55_l0 l a hl l.length 0 k (by omega) (by omega)
  rw [hb, Option.bind_some]
  have := idx55_range l a l.length 0
  by_cases h : idx55 l a l.length 0 < 0
  · rw [if_pos h, if_pos h]
  · rw [if_neg h, if_pos (by omega), if_pos (by omega), if_neg h]
theorem fieldr_l0 (n : ByteArray) (l : List S55) (a : ByteArray) (hl : l.length ≤ 140737488351232) : ∀ (d i k : Nat), i + d = l.length → d < k → auguryref05_Field.l0 k a (i : Int) n l = some (if idx55 l a d i < 0 then (-1, 0) else (idx55 l a d i, (rd_T55 l (idx55 l a d i)).f1))
  | 0, i, k, hi, hk => by
    obtain ⟨k, rfl⟩ : ∃ m, k = m + 1 := ⟨k - 1, by omega⟩
    unfold auguryref05_Field.l0 idx55
    rw [if_neg (by omega)]
    rfl
  | d + 1, i, k, hi, hk => by
    obtain ⟨k, rfl⟩ : ∃ m, k = m + 1 := ⟨k - 1, by omega⟩
    unfold auguryref05_Field.l0 idx55
    rw [if_pos (by omega), if_pos (by omega)]
    by_cases h : (rd_T55 l i).f0.toList = a.toList
    · rw [if_pos h, if_pos h, if_neg (by omega)]
    · rw [if_neg h, if_neg h, wrap_nat (by omega)]
      exact fieldr_l0 n l a hl d (i + 1) k (by omega) (by omega)
theorem fieldr_eq (n : ByteArray) (l : List S55) (a : ByteArray) (hl : l.length ≤ 140737488351232) (k : Nat) (hk : 200000000000000 ≤ k) : auguryref05_Field.f k n l a = some (fieldS l a) :=
  fieldr_l0 n l a hl l.length 0 k (by omega) (by omega)
/-- Are the kinds alike, from a place on. -/
def kindsB (v : List S52) (f : List S55) : Nat → Nat → Bool
  | 0, _ => true
  | d + 1, i => decide ((rd_T52 v i).f0 = (rd_T55 f i).f1) && kindsB v f d (i + 1)
theorem kinds_l0 (v : List S52) (f : List S55) (hl : v.length ≤ 140737488351232) (he : v.length = f.length) : ∀ (d i k : Nat), i + d = v.length → d < k → api_Field__f37.l0 k f v (v.length : Int) (i : Int) = some (kindsB v f d i)
  | 0, i, k, hi, hk => by
    obtain ⟨k, rfl⟩ : ∃ m, k = m + 1 := ⟨k - 1, by omega⟩
    unfold api_Field__f37.l0 kindsB
    rw [if_neg (by omega)]
  | d + 1, i, k, hi, hk => by
    obtain ⟨k, rfl⟩ : ∃ m, k = m + 1 := ⟨k - 1, by omega⟩
    unfold api_Field__f37.l0 kindsB
    rw [if_pos (by omega), if_pos (by omega), if_pos (by omega), if_pos (by omega)]
    unfold event_Fits_1.f
    simp only [Option.bind_some]
    by_cases h : (rd_T52 v i).f0 = (rd_T55 f i).f1
    · rw [if_pos (by rw [h]; exact beq_self_eq_true _), decide_eq_true h, Bool.true_and, wrap_nat (by omega)]
      exact kinds_l0 v f hl he d (i + 1) k (by omega) (by omega)
    · rw [if_neg (fun q => h (beq_iff_eq.1 q)), decide_eq_false h, Bool.false_and]
theorem kindsr_l0 (a0 a1 a2 : Int) (a3 n : ByteArray) (v : List S52) (f : List S55) (hl : v.length ≤ 140737488351232) (he : v.length = f.length) : ∀ (d i k : Nat), i + d = v.length → d < k → auguryref05_Fits.l0 k (i : Int) a0 a1 a2 a3 v n f = some (if kindsB v f d i = true then 0 else 42)
  | 0, i, k, hi, hk => by
    obtain ⟨k, rfl⟩ : ∃ m, k = m + 1 := ⟨k - 1, by omega⟩
    unfold auguryref05_Fits.l0 kindsB
    rw [if_neg (by omega)]
    rfl
  | d + 1, i, k, hi, hk => by
    obtain ⟨k, rfl⟩ : ∃ m, k = m + 1 := ⟨k - 1, by omega⟩
    unfold auguryref05_Fits.l0 kindsB
    rw [if_pos (by omega), if_pos (by omega), if_pos (by omega)]
    by_cases h : (rd_T52 v i).f0 = (rd_T55 f i).f1
    · rw [if_pos h, decide_eq_true h, Bool.true_and, wrap_nat (by omega)]
      exact kindsr_l0 a0 a1 a2 a3 n v f hl he d (i + 1) k (by omega) (by omega)
    · rw [if_neg h, decide_eq_false h, Bool.false_and]
      rfl
/-- Does an event fit schemas: 0, or the error. -/
def fitsS (l : List S31) (a0 a1 a2 : Int) (a3 : ByteArray) (v : List S52) : Int :=
  if rightB a0 a1 a2 a3 v = true then (if (findS l a3).2.2 = true then (if v.length = (findS l a3).2.1.length ∧ kindsB v (findS l a3).2.1 v.length 0 = true then 0 else 42) else 12) else 1
theorem fits_eq (l : List S31) (a0 a1 a2 : Int) (a3 : ByteArray) (v : List S52) (hl : l.length ≤ 140737488351232) (h3 : a3.size ≤ 140737488351232) (hv : v.length ≤ 140737488351232) (k : Nat) (hk : 300000000000000 ≤ k) :
    event_Fits.f k l a0 a1 a2 a3 v = some (fitsS l a0 a1 a2 a3 v) := by
  unfold event_Fits.f fitsS
  rw [right_eq' a0 a1 a2 a3 v h3 hv k hk, find_eq l a3 hl k (by omega)]
  simp only [Option.bind_some]
  cases rightB a0 a1 a2 a3 v with
  | false => rfl
  | true =>
    rw [if_pos rfl, if_pos rfl]
    cases (findS l a3).2.2 with
    | false => rfl
    | true =>
      rw [if_pos rfl, if_pos rfl]
      unfold api_Field__f37.f
      by_cases e : v.length = (findS l a3).2.1.length
      · have hb : api_Field__f37.l0 k (findS l a3).2.1 v (v.length : Int) 0 = some (kindsB v (findS l a3).2.1 v.length 0) := kinds_l0 v _ hv e v.length 0 k (by omega) (by omega)
        rw [if_pos (by omega), hb, Option.bind_some]
        cases kindsB v (findS l a3).2.1 v.length 0 with
        | true => rw [if_pos rfl, if_pos ⟨e, rfl⟩]
        | false => rw [if_neg (by decide), if_neg (fun q => absurd q.2 (by decide))]
      · rw [if_neg (by omega), if_neg (fun q => e q.1)]
        rfl
theorem fitsr_eq (l : List S31) (a0 a1 a2 : Int) (a3 : ByteArray) (v : List S52) (hl : l.length ≤ 140737488351232) (h3 : a3.size ≤ 140737488351232) (hv : v.length ≤ 140737488351232) (k : Nat) (hk : 300000000000000 ≤ k) :
    auguryref05_Fits.f k l a0 a1 a2 a3 v = some (fitsS l a0 a1 a2 a3 v) := by
  unfold auguryref05_Fits.f fitsS
  rw [rightr_eq a0 a1 a2 a3 v h3 hv k hk, findr_eq l a3 hl k (by omega)]
  simp only [Option.bind_some]
  cases rightB a0 a1 a2 a3 v with
  | false => rfl
  | true =>
    rw [if_pos rfl, if_pos rfl]
    cases (findS l a3).2.2 with
    | false => rfl
    | true =>
      rw [if_pos rfl, if_pos rfl]
      by_cases e : v.length = (findS l a3).2.1.length
      · have hb : auguryref05_Fits.l0 k 0 a0 a1 a2 a3 v (findS l a3).1 (findS l a3).2.1 = some (if kindsB v (findS l a3).2.1 v.length 0 = true then 0 else 42) := kindsr_l0 a0 a1 a2 a3 _ v _ hv e v.length 0 k (by omega) (by omega)
        rw [if_pos (by omega), hb]
        cases kindsB v (findS l a3).2.1 v.length 0 with
        | true => rw [if_pos rfl, if_pos ⟨e, rfl⟩]
        | false => rw [if_neg (by decide), if_neg (fun q => absurd q.2 (by decide))]
      · rw [if_neg (by omega), if_neg (fun q => e q.1)]
end Go.Proofs.Ytbnjhmcbkocdjaa.Pure
namespace Go.Proofs.Ytbnjhmcbkocdjaa.Pure
open Go.Proofs.Ytbnjhmcbkocdjaa.PAll
open Go.RowKit Go.Proofs.YtbnjhmcbkocdjaaW.PrintWords Go.Proofs.YtbnjhmcbkocdjaaW.PrintLast Go.Proofs.YtbnjhmcbkocdjaaW.PrintMore
set_option linter.unusedVariables false
set_option linter.unusedSimpArgs false
theorem dig_l0 : ∀ (d k : Nat) (n : Int) (acc : List Int), 0 ≤ n → n < 2 ^ (7 * (d + 1)) → d < k → acc.length + d < 1000 → event_digits.l0 k n acc = some (acc ++ digS d n) := by
  intro d
  induction d with
  | zero =>
    intro k n acc h0 h1 hk ha
    obtain ⟨k, rfl⟩ : ∃ m, k = m + 1 := ⟨k - 1, by omega⟩
    have h1 : n < 128 := h1
    unfold event_digits.l0 digS
    rw [if_neg (by omega), if_pos (by omega), Int.emod_eq_of_lt h0 (by omega)]
  | succ d ih =>
    intro k n acc h0 h1 hk ha
    obtain ⟨k, rfl⟩ : ∃ m, k = m + 1 := ⟨k - 1, by omega⟩
    unfold event_digits.l0 digS
    by_cases c : n > 127
    · rw [if_pos c, if_pos c, if_pos (by omega), or128 n h0, ih k (n / 128) _ (by omega) (by rw [pow7] at h1; omega) (by omega) (by simp; omega)]
      simp
    · rw [if_neg c, if_neg c, if_pos (by omega), Int.emod_eq_of_lt h0 (by omega)]
/-- A number's bytes. -/
def digE (n : Int) : List Int := digS 8 n
theorem digE_len (n : Int) : (digE n).length ≤ 9 := digS_length 8 n
theorem dig_eq (n : Int) (h0 : 0 ≤ n) (h1 : n < 9223372036854775807) (k : Nat) (hk : 20 ≤ k) : event_digits.f k n = some (digE n) := by
  unfold event_digits.f digE
  rw [dig_l0 8 k n [] h0 (by omega) (by omega) (by decide)]
  rfl
theorem digr_eq (n : Int) (h0 : 0 ≤ n) (h1 : n < 9223372036854775807) (k : Nat) (hk : 20 ≤ k) : auguryref04_Digits.f k n = some (digE n) := by
  unfold auguryref04_Digits.f digE
  rw [ref_digits_l0 8 k n [] h0 (by omega) h1 (by omega) (by decide)]
  rfl
/-- The values' bytes, from a place on. -/
def valsL (v : List S52) : Nat → Nat → List Int
  | 0, _ => []
  | d + 1, i => putS (rd_T52 v i).f0 (rd_T52 v i).f1 (rd_T52 v i).f2 ++ valsL v d (i + 1)
theorem putS_le (k n : Int) (s : ByteArray) : (putS k n s).length ≤ 140 := by
  unfold putS
  split
  · rename_i h
    rw [List.length_cons]
    split
    · have := digS_length 5 (zzE n)
      omega
    · split
      · have e : k = 2 := by assumption
        subst e
        have := (ok_text h).2
        have hb : (bytesOf s).length = s.size := by unfold bytesOf; rw [List.length_map, data_length]
        rw [List.length_cons, hb]
        omega
      · simp
  · simp
theorem vals_l2 (v : List S52) (hv : v.length ≤ 8) : ∀ (d i k : Nat) (acc : List Int), i + d = v.length → d + 20 < k → acc.length + 200 * d < 140737488355000 → event_Put.l2 k v (v.length : Int) (i : Int) acc = some (acc ++ valsL v d i)
  | 0, i, k, acc, hi, hk, ha => by
    obtain ⟨k, rfl⟩ : ∃ m, k = m + 1 := ⟨k - 1, by omega⟩
    unfold event_Put.l2 valsL
    rw [if_neg (by omega), List.append_nil]
  | d + 1, i, k, acc, hi, hk, ha => by
    obtain ⟨k, rfl⟩ : ∃ m, k = m + 1 := ⟨k - 1, by omega⟩
    have hp := putS_le (rd_T52 v i).f0 (rd_T52 v i).f1 (rd_T52 v i).f2
    unfold event_Put.l2 valsL
    rw [if_pos (by omega), if_pos (by omega), if_pos (by omega), put_eq k (by omega), Option.bind_some, if_pos (by omega), wrap_nat (by omega), vals_l2 v hv d (i + 1) k _ (by omega) (by omega) (by rw [List.length_append]; omega), List.append_assoc]
theorem valsr_l0 (a0 a1 a2 : Int) (a3 : ByteArray) (v : List S52) (hv : v.length ≤ 8) : ∀ (d i k : Nat) (acc : List Int), i + d = v.length → d + 20 < k → acc.length + 200 * d < 140737488355000 → auguryref05_Put.l0 k acc (i : Int) a0 a1 a2 a3 v = some (acc ++ valsL v d i)
  | 0, i, k, acc, hi, hk, ha => by
    obtain ⟨k, rfl⟩ : ∃ m, k = m + 1 := ⟨k - 1, by omega⟩
    unfold auguryref05_Put.l0 valsL
    rw [if_neg (by omega), List.append_nil]
  | d + 1, i, k, acc, hi, hk, ha => by
    obtain ⟨k, rfl⟩ : ∃ m, k = m + 1 := ⟨k - 1, by omega⟩
    have hp := putS_le (rd_T52 v i).f0 (rd_T52 v i).f1 (rd_T52 v i).f2
    unfold auguryref05_Put.l0 valsL
    rw [if_pos (by omega), if_pos (by omega), ref_put_eq k (by omega), Option.bind_some, if_pos (by omega), wrap_nat (by omega), valsr_l0 a0 a1 a2 a3 v hv d (i + 1) k _ (by omega) (by omega) (by rw [List.length_append]; omega), List.append_assoc]
/-- An event's bytes. -/
def putE (a0 a1 a2 : Int) (a3 : ByteArray) (v : List S52) : List Int :=
  if rightB a0 a1 a2 a3 v = true then digE a0 ++ digE a1 ++ digE a2 ++ digE (a3.size : Int) ++ bytesOf a3 ++ digE (v.length : Int) ++ valsL v v.length 0 else []
theorem bytesOf_len (s : ByteArray) : (bytesOf s).length = s.size := by unfold bytesOf; rw [List.length_map, data_length]
theorem right_facts {a0 a1 a2 : Int} {a3 : ByteArray} {v : List S52} (h : rightB a0 a1 a2 a3 v = true) : (0 ≤ a0 ∧ a0 ≤ 1099511627776 ∧ 0 ≤ a2 ∧ a2 ≤ 1099511627776 ∧ 0 ≤ a1 ∧ a1 ≤ 3) ∧ wordB a3 = true ∧ v.length ≤ 8 ∧ badI v v.length 0 < 0 := by
  unfold rightB at h
  simp only [Bool.and_eq_true, decide_eq_true_eq] at h
  exact h
theorem word_size {s : ByteArray} (h : wordB s = true) : 1 ≤ s.size ∧ s.size ≤ 16 := (of_decide_eq_true h).2
theorem rd_four (a b c d : Int) : rd [a, b, c, d] 0 = a ∧ rd [a, b, c, d] 1 = b ∧ rd [a, b, c, d] 2 = c ∧ rd [a, b, c, d] 3 = d := ⟨rfl, rfl, rfl, rfl⟩
theorem put_end (a0 a1 a2 : Int) (a3 : ByteArray) (v : List S52) (acc : List Int) (hv : v.length ≤ 8) (h3 : a3.size ≤ 16) (ha : acc.length < 100000) (k : Nat) (hk : 1000 ≤ k) (y : List Int) :
    event_Put.l0 (k + 1) y (y.length : Int) (y.length : Int) a0 a1 a2 a3 v acc = some (acc ++ bytesOf a3 ++ digE (v.length : Int) ++ valsL v v.length 0) := by
  have hb := bytesOf_len a3
  have hd := digE_len (v.length : Int)
  unfold event_Put.l0
  rw [if_neg (by omega), if_pos (by omega), Option.bind_some]
  obtain ⟨k, rfl⟩ : ∃ m, k = m + 2 := ⟨k - 2, by omega⟩
  have e0 : event_digits.f (k + 1) (v.length : Int) = some (digE (v.length : Int)) := dig_eq _ (by omega) (by omega) _ (by omega)
  have hw : wrap64 (0 + 1) = 1 := by decide +kernel
  have hl : event_Put.l2 k v (v.length : Int) 0 (acc ++ bytesOf a3 ++ digE (v.length : Int)) = some (acc ++ bytesOf a3 ++ digE (v.length : Int) ++ valsL v v.length 0) := vals_l2 v hv v.length 0 k _ (by omega) (by omega) (by simp only [List.length_append]; omega)
  unfold event_Put.l1
  rw [if_pos (show (0 : Int) < (([(v.length : Int)] : List Int).length : Int) from Int.one_pos), if_pos (by decide), if_pos (show (0 : Int) < (([(v.length : Int)] : List Int).length : Int) from Int.one_pos), show rd [(v.length : Int)] 0 = (v.length : Int) from rfl, e0, Option.bind_some, if_pos (by simp only [List.length_append]; omega), hw]
  unfold event_Put.l1
  rw [if_neg (show ¬ (1 : Int) < (([(v.length : Int)] : List Int).length : Int) from Int.lt_irrefl 1), hl]
theorem put_step (a0 a1 a2 : Int) (a3 : ByteArray) (v : List S52) (y : List Int) (i : Nat) (hi : i < y.length) (hy : y.length = 4) (acc : List Int) (n : Int) (hn : rd y (i : Int) = n) (h0 : 0 ≤ n) (h1 : n < 9223372036854775807) (ha : acc.length < 100000) (k : Nat) (hk : 1000 ≤ k) :
    event_Put.l0 (k + 1) y (y.length : Int) (i : Int) a0 a1 a2 a3 v acc = event_Put.l0 k y (y.length : Int) ((i + 1 : Nat) : Int) a0 a1 a2 a3 v (acc ++ digE n) := by
  have hd := digE_len n
  have e := dig_eq n h0 h1 k (by omega)
  conv => lhs; unfold event_Put.l0
  rw [if_pos (by omega), if_pos (by omega), if_pos (by omega), hn, e, Option.bind_some, if_pos (by omega), wrap_nat (by omega)]
theorem put_eqE (a0 a1 a2 : Int) (a3 : ByteArray) (v : List S52) (h3 : a3.size ≤ 140737488351232) (hv : v.length ≤ 140737488351232) (k : Nat) (hk : 300000000000000 ≤ k) :
    event_Put.f k a0 a1 a2 a3 v = some (putE a0 a1 a2 a3 v) := by
  unfold event_Put.f putE
  rw [right_eq' a0 a1 a2 a3 v h3 hv k hk, Option.bind_some]
  cases h : rightB a0 a1 a2 a3 v with
  | false => rfl
  | true =>
    rw [if_pos rfl, if_pos rfl, Option.bind_some]
    obtain ⟨hr, hw, hl, _⟩ := right_facts h
    have hs := word_size hw
    obtain ⟨k, rfl⟩ : ∃ m, k = m + 5 := ⟨k - 5, by omega⟩
    have d0 := digE_len a0
    have d1 := digE_len a1
    have d2 := digE_len a2
    have d3 := digE_len (a3.size : Int)
    have s0 := put_step a0 a1 a2 a3 v [a0, a1, a2, (a3.size : Int)] 0 (show 0 < 4 by decide) rfl [] a0 rfl (by omega) (by omega) (by decide) (k + 4) (by omega)
    have s1 := put_step a0 a1 a2 a3 v [a0, a1, a2, (a3.size : Int)] 1 (show 1 < 4 by decide) rfl ([] ++ digE a0) a1 rfl (by omega) (by omega) (by simp only [List.length_append, List.length_nil]; omega) (k + 3) (by omega)
    have s2 := put_step a0 a1 a2 a3 v [a0, a1, a2, (a3.size : Int)] 2 (show 2 < 4 by decide) rfl ([] ++ digE a0 ++ digE a1) a2 rfl (by omega) (by omega) (by simp only [List.length_append, List.length_nil]; omega) (k + 2) (by omega)
    have s3 := put_step a0 a1 a2 a3 v [a0, a1, a2, (a3.size : Int)] 3 (show 3 < 4 by decide) rfl ([] ++ digE a0 ++ digE a1 ++ digE a2) (a3.size : Int) rfl (by omega) (by omega) (by simp only [List.length_append, List.length_nil]; omega) (k + 1) (by omega)
    have s4 := put_end a0 a1 a2 a3 v ([] ++ digE a0 ++ digE a1 ++ digE a2 ++ digE (a3.size : Int)) hl hs.2 (by simp only [List.length_append, List.length_nil]; omega) k (by omega) [a0, a1, a2, (a3.size : Int)]
    exact s0.trans (s1.trans (s2.trans (s3.trans s4)))
theorem putr_eqE (a0 a1 a2 : Int) (a3 : ByteArray) (v : List S52) (h3 : a3.size ≤ 140737488351232) (hv : v.length ≤ 140737488351232) (k : Nat) (hk : 300000000000000 ≤ k) :
    auguryref05_Put.f k a0 a1 a2 a3 v = some (putE a0 a1 a2 a3 v) := by
  unfold auguryref05_Put.f putE
  rw [rightr_eq a0 a1 a2 a3 v h3 hv k hk, Option.bind_some]
  cases h : rightB a0 a1 a2 a3 v with
  | false => rfl
  | true =>
    rw [if_pos rfl, if_pos rfl]
    obtain ⟨hr, hw, hl, _⟩ := right_facts h
    have hs := word_size hw
    have d0 := digE_len a0
    have d1 := digE_len a1
    have d2 := digE_len a2
    have d3 := digE_len (a3.size : Int)
    have d4 := digE_len (v.length : Int)
    have db := bytesOf_len a3
    have hfin : auguryref05_Put.l0 k (digE a0 ++ digE a1 ++ digE a2 ++ digE (a3.size : Int) ++ bytesOf a3 ++ digE (v.length : Int)) 0 a0 a1 a2 a3 v = some (digE a0 ++ digE a1 ++ digE a2 ++ digE (a3.size : Int) ++ bytesOf a3 ++ digE (v.length : Int) ++ valsL v v.length 0) := valsr_l0 a0 a1 a2 a3 v hl v.length 0 k _ (by omega) (by omega) (by simp only [List.length_append]; omega)
    rw [digr_eq a0 (by omega) (by omega) k (by omega), Option.bind_some, digr_eq a1 (by omega) (by omega) k (by omega), Option.bind_some, if_pos (by omega), Option.bind_some, digr_eq a2 (by omega) (by omega) k (by omega), Option.bind_some, if_pos (by simp only [List.length_append]; omega), Option.bind_some, digr_eq (a3.size : Int) (by omega) (by omega) k (by omega), Option.bind_some, if_pos (by simp only [List.length_append]; omega), Option.bind_some, if_pos (by simp only [List.length_append]; omega), Option.bind_some, digr_eq (v.length : Int) (by omega) (by omega) k (by omega), Option.bind_some, if_pos (by simp only [List.length_append]; omega), hfin]
end Go.Proofs.Ytbnjhmcbkocdjaa.Pure
namespace Go.Proofs.Ytbnjhmcbkocdjaa.PAll
open Go.RowKit Go.Proofs.YtbnjhmcbkocdjaaW.PrintWords Go.Proofs.YtbnjhmcbkocdjaaW.PrintLast Go.Proofs.YtbnjhmcbkocdjaaW.PrintMore
set_option linter.unusedVariables false
set_option linter.unusedSimpArgs false
def numL : Nat → Bool → List Int → Option (Int × Nat × Bool)
  | 0, _, _ => none
  | _ + 1, _, [] => none
  | d + 1, first, b :: t => if b < 128 then some (b % 128, 1, first || decide (b > 0)) else
    match numL d false t with
    | none => none
    | some (m, j, fl) => some (b % 128 + 128 * m, j + 1, fl)
theorem numG_L (l : List Int) : ∀ (d i : Nat) (n : Int), numG l d (i : Int) n = (numL d (decide (i = 0)) (l.drop i)).map fun r => (n + r.1 * 2 ^ (7 * i), ((i + r.2.1 : Nat) : Int), r.2.2)
  | 0, i, n => rfl
  | d + 1, i, n => by
    unfold numG
    by_cases c : i < l.length
    · rw [if_pos (by omega), List.drop_eq_getElem_cons c, numL]
      have e : rd l (i : Int) = l[i] := by
        unfold rd
        rw [Int.toNat_natCast, List.getD_eq_getElem?_getD, List.getElem?_eq_getElem c]
        rfl
      rw [e, show (7 * (i : Int)).toNat = 7 * i by omega]
      by_cases h : l[i] < 128
      · rw [if_pos h, if_pos h]
        simp only [Option.map_some]
        congr 3
        · simp
      · rw [if_neg h, if_neg h, show (i : Int) + 1 = ((i + 1 : Nat) : Int) by omega, numG_L l d (i + 1)]
        rw [show decide (i + 1 = 0) = false by simp]
        cases numL d false (l.drop (i + 1)) with
        | none => rfl
        | some r =>
          obtain ⟨m, j, fl⟩ := r
          simp only [Option.map_some]
          have e2 : (2 : Int) ^ (7 * (i + 1)) = 128 * 2 ^ (7 * i) := pow7 i
          have e3 : n + l[i] % 128 * 2 ^ (7 * i) + m * 2 ^ (7 * (i + 1)) = n + (l[i] % 128 + 128 * m) * 2 ^ (7 * i) := by
            rw [e2, Int.add_mul, Int.add_assoc, Int.mul_comm 128 (2 ^ (7 * i)), ← Int.mul_assoc m, Int.mul_comm (m * 2 ^ (7 * i)) 128, ← Int.mul_assoc]
          rw [e3, show i + 1 + j = i + (j + 1) by omega]
    · rw [if_neg (by omega), List.drop_eq_nil_of_le (by omega)]
      rfl
theorem digS_nil (d : Nat) (n : Int) : digS d n ≠ [] := by
  cases d <;> unfold digS <;> (try split) <;> simp
theorem num_dig (d : Nat) : ∀ (D : Nat) (n : Int) (first : Bool) (rest : List Int), d < D → 0 ≤ n → n < 2 ^ (7 * (d + 1)) → numL D first (digS d n ++ rest) = some (n, (digS d n).length, first || decide (n > 0)) := by
  induction d with
  | zero =>
    intro D n first rest hd h0 h1
    obtain ⟨D, rfl⟩ : ∃ m, D = m + 1 := ⟨D - 1, by omega⟩
    have h1 : n < 128 := h1
    rw [digS, List.singleton_append, numL, if_pos h1, show n % 128 = n by omega]
    rfl
  | succ d ih =>
    intro D n first rest hd h0 h1
    obtain ⟨D, rfl⟩ : ∃ m, D = m + 1 := ⟨D - 1, by omega⟩
    rw [digS]
    by_cases c : n > 127
    · have hx : n / 128 < 2 ^ (7 * (d + 1)) := by rw [pow7] at h1; omega
      rw [if_pos c, List.cons_append, numL, if_neg (by omega), ih D (n / 128) false rest (by omega) (by omega) hx]
      have d1 : decide (n / 128 > 0) = true := decide_eq_true (by omega)
      have d2 : decide (n > 0) = true := decide_eq_true (by omega)
      rw [d1, d2]
      simp only [List.length_cons, Bool.or_true]
      congr 2
      omega
    · rw [if_neg c, List.singleton_append, numL, if_pos (by omega), show n % 128 = n by omega]
      rfl
theorem num_cut : ∀ (d D j : Nat) (n : Int) (first : Bool), j < (digS d n).length → 0 ≤ n → numL D first ((digS d n).take j) = none
  | 0, D, j, n, first, hj, h0 => by
    have : j = 0 := by simp [digS] at hj; omega
    subst this
    cases D <;> rfl
  | d + 1, D, j, n, first, hj, h0 => by
    cases D with
    | zero => rfl
    | succ D =>
      rw [digS] at hj ⊢
      by_cases c : n > 127
      · rw [if_pos c] at hj ⊢
        cases j with
        | zero => rfl
        | succ j =>
          rw [List.take_succ_cons, numL, if_neg (by omega), num_cut d D j (n / 128) false (by simpa using hj) (by omega)]
      · rw [if_neg c] at hj ⊢
        have : j = 0 := by simp at hj; omega
        subst this
        rfl
theorem num_inv : ∀ (d : Nat) (first : Bool) (l : List Int), Bytes l → ∀ m j, numL (d + 1) first l = some (m, j, true) → 0 ≤ m ∧ m < 2 ^ (7 * (d + 1)) ∧ (first = false → 0 < m) ∧ 1 ≤ j ∧ j ≤ l.length ∧ digS d m = l.take j
  | d, first, [], hb, m, j, h => by cases h
  | d, first, b :: t, hb, m, j, h => by
    have b0 := hb b (by simp)
    rw [numL] at h
    by_cases c : b < 128
    · rw [if_pos c] at h
      injection h with h
      injection h with h1 h
      injection h with h2 h3
      subst h1 h2
      have e : b % 128 = b := by omega
      rw [e]
      have hp : (128 : Int) ≤ 2 ^ (7 * (d + 1)) := by
        rw [pow7]
        have : (0 : Int) < 2 ^ (7 * d) := Int.pow_pos (by decide)
        omega
      refine ⟨by omega, by omega, fun hf => ?_, by omega, by simp, ?_⟩
      · subst hf
        simpa using h3
      · cases d with
        | zero => rfl
        | succ d => rw [digS, if_neg (by omega)]; rfl
    · rw [if_neg c] at h
      cases d with
      | zero => cases h
      | succ d =>
        cases e : numL (d + 1) false t with
        | none => rw [e] at h; cases h
        | some r =>
          obtain ⟨m', j', fl⟩ := r
          rw [e] at h
          injection h with h
          injection h with h1 h
          injection h with h2 h3
          subst h1 h2 h3
          obtain ⟨i1, i2, i3, i4, i5, i6⟩ := num_inv d false t (fun x hx => hb x (by simp [hx])) m' j' e
          have i3 := i3 rfl
          rw [pow7]
          refine ⟨by omega, by omega, fun _ => by omega, by omega, by simp; omega, ?_⟩
          rw [digS, if_pos (by omega), List.take_succ_cons, show (b % 128 + 128 * m') / 128 = m' by omega, i6, show (b % 128 + 128 * m') % 128 + 128 = b by omega]
theorem dig_more (d : Nat) : ∀ (n : Int), 0 ≤ n → n < 2 ^ (7 * (d + 1)) → digS (d + 1) n = digS d n := by
  induction d with
  | zero =>
    intro n h0 h1
    have h1 : n < 128 := h1
    have e : digS (0 + 1) n = if n > 127 then (n % 128 + 128) :: digS 0 (n / 128) else [n] := rfl
    rw [e, if_neg (by omega), digS]
  | succ d ih =>
    intro n h0 h1
    rw [digS]
    conv => rhs; rw [digS]
    by_cases c : n > 127
    · have hx : n / 128 < 2 ^ (7 * (d + 1)) := by rw [pow7] at h1; omega
      rw [if_pos c, if_pos c, ih (n / 128) (by omega) hx]
    · rw [if_neg c, if_neg c]
theorem zz_zzE (n : Int) : zz (zzE n) = n := by
  unfold zz zzE
  split <;> split <;> omega
theorem zzE_zz (m : Int) (h : 0 ≤ m) : zzE (zz m) = m := by
  unfold zz zzE
  split <;> split <;> omega
end Go.Proofs.Ytbnjhmcbkocdjaa.PAll
namespace Go.Proofs.Ytbnjhmcbkocdjaa.Pure
open Go.RowKit Go.Proofs.Ytbnjhmcbkocdjaa.PAll Go.Proofs.YtbnjhmcbkocdjaaW.PrintWords Go.Proofs.YtbnjhmcbkocdjaaW.PrintLast
def zero5 : Int × Int × ByteArray × Int × Bool := (0, 0, ⟨#[]⟩, 0, false)
def textAt (l : List Int) : ByteArray := strOfNums ((l.take (2 + rd l 1).toNat).drop 2)
/-- What bytes are read as. -/
def getS (l : List Int) : Int × Int × ByteArray × Int × Bool :=
  if l.length < 2 then zero5 else
  if rd l 0 = 1 then (match numL 7 true (l.drop 1) with
    | some (m, j, true) => if okVal 1 (zz m) ⟨#[]⟩ = true then (1, zz m, ⟨#[]⟩, 1 + (j : Int), true) else zero5
    | _ => zero5) else
  if rd l 0 = 2 then (if 2 + rd l 1 ≤ (l.length : Int) then (if okVal 2 0 (textAt l) = true then (2, 0, textAt l, 2 + rd l 1, true) else zero5) else zero5) else
  if rd l 0 = 3 then (if okVal 3 (rd l 1) ⟨#[]⟩ = true then (3, rd l 1, ⟨#[]⟩, 2, true) else zero5) else zero5
theorem get_S (l : List Int) (hb : Bytes l) (hl : l.length ≤ 1000000) (k : Nat) (hk : 15 < k) : value_Get.f k l = some (getS l) := by
  have h0 := rd_byte hb 0
  have h1 := rd_byte hb 1
  have w0 : wrap64 (rd l 0) = rd l 0 := wrap_in (by omega) (by omega)
  have w1 : wrap64 (rd l 1) = rd l 1 := wrap_in (by omega) (by omega)
  have w2 : wrap64 (2 + rd l 1) = 2 + rd l 1 := wrap_in (by omega) (by omega)
  have hd := bytes_drop hb 1
  have hld : (l.drop 1).length ≤ 140737488355328 := by rw [List.length_drop]; omega
  unfold value_Get.f getS
  simp only [w0, w1, w2, right_ok, Option.bind_some]
  by_cases c1 : l.length < 2
  · rw [if_pos (by omega), if_pos c1]; rfl
  rw [if_neg (by omega), if_neg c1, if_pos (show 0 < (l.length : Int) by omega)]
  by_cases c2 : rd l 0 = 1
  · rw [if_pos c2, if_pos c2, if_pos (show 1 ≤ (l.length : Int) by omega), value_number_eq _ hd hld k (by omega), Option.bind_some]
    have hg := numG_L (l.drop 1) 7 0 0
    simp only [decide_true, List.drop_zero, Nat.mul_zero, Int.pow_zero, Int.mul_one, Int.zero_add, Nat.zero_add, Int.natCast_zero] at hg
    rw [hg]
    cases e : numL 7 true (l.drop 1) with
    | none => rfl
    | some r =>
      obtain ⟨m, j, fl⟩ := r
      have hgb := hg
      rw [e] at hgb
      obtain ⟨b0, b1, b2, b3, _⟩ := numG_bound (l.drop 1) 7 0 0 (by omega) (by omega) (by omega) (by decide) m j fl hgb
      simp only [Option.map_some, Option.getD_some]
      cases fl with
      | false => rfl
      | true =>
        rw [if_pos rfl, zz_eq m b0 b1, wrap_in (n := 1 + (j : Int)) (by omega) (by omega), c2]
        cases h : okVal 1 (zz m) ⟨#[]⟩ <;> simp [h, zero5]
  rw [if_neg c2, if_neg c2]
  by_cases c5 : rd l 0 = 2
  · rw [if_pos c5, if_pos c5, if_pos (show 1 < (l.length : Int) by omega), c5]
    by_cases c6 : 2 + rd l 1 ≤ (l.length : Int)
    · rw [if_pos c6, if_pos c6, if_pos (show 2 ≤ 2 + rd l 1 by omega)]
      unfold textAt
      cases okVal 2 0 (strOfNums (List.drop 2 (List.take (2 + rd l 1).toNat l))) <;> simp [zero5]
    · rw [if_neg c6, if_neg c6]; rfl
  rw [if_neg c5, if_neg c5]
  by_cases c7 : rd l 0 = 3
  · rw [if_pos c7, if_pos c7, if_pos (show 1 < (l.length : Int) by omega), c7]
    cases okVal 3 (rd l 1) ⟨#[]⟩ <;> simp [zero5]
  · rw [if_neg c7, if_neg c7]
    have : okVal (rd l 0) 0 ⟨#[]⟩ = false := by
      unfold okVal
      rw [if_neg c2, if_neg c5, if_neg c7]
    rw [this]
    rfl
theorem empty_of {s : ByteArray} (h : s.toList = []) : s = ⟨#[]⟩ := by
  have : s.data.toList = [] := by rw [← ByteArray.toList_eq]; exact h
  cases s with
  | mk d => rw [show d = #[] from Array.toList_inj.1 this]
theorem bytesOf_strOfNums {l : List Int} (h : Bytes l) : bytesOf (strOfNums l) = l := by
  unfold bytesOf strOfNums
  simp only [List.map_map]
  refine (List.map_congr_left (fun x hx => ?_)).trans (List.map_id l)
  have := h x hx
  simp only [Function.comp_apply, id_eq]
  rw [UInt8.toNat_ofNat']
  omega
theorem strOfNums_bytesOf (s : ByteArray) : strOfNums (bytesOf s) = s := by
  unfold bytesOf strOfNums
  rw [List.map_map]
  have : s.data.toList.map ((fun n : Int => UInt8.ofNat n.toNat) ∘ fun b : UInt8 => (b.toNat : Int)) = s.data.toList := by
    refine (List.map_congr_left (fun x _ => ?_)).trans (List.map_id _)
    simp
  rw [this]
theorem strOfNums_size (l : List Int) : (strOfNums l).size = l.length := by
  simp [strOfNums, ByteArray.size]
theorem bytesOf_bytes (s : ByteArray) : Bytes (bytesOf s) := by
  intro x hx
  obtain ⟨b, _, rfl⟩ := List.mem_map.1 hx
  have := b.toNat_lt
  omega
theorem dig_bytes (d : Nat) : ∀ (n : Int), 0 ≤ n → n < 2 ^ (7 * (d + 1)) → Bytes (digS d n) := by
  induction d with
  | zero =>
    intro n h0 h1 x hx
    have h1 : n < 128 := h1
    rw [digS, List.mem_singleton] at hx
    omega
  | succ d ih =>
    intro n h0 h1 x hx
    rw [digS] at hx
    by_cases c : n > 127
    · have hy : n / 128 < 2 ^ (7 * (d + 1)) := by rw [pow7] at h1; omega
      rw [if_pos c] at hx
      rcases List.mem_cons.1 hx with rfl | hx
      · omega
      · exact ih (n / 128) (by omega) hy x hx
    · rw [if_neg c, List.mem_singleton] at hx
      omega
theorem putS_int {n : Int} {s : ByteArray} (h : okVal 1 n s = true) : putS 1 n s = 1 :: digS 5 (zzE n) := by
  unfold putS
  rw [if_pos h, if_pos rfl]
theorem putS_text {n : Int} {s : ByteArray} (h : okVal 2 n s = true) : putS 2 n s = 2 :: (s.size : Int) :: bytesOf s := by
  unfold putS
  rw [if_pos h, if_neg (by decide), if_pos rfl]
theorem putS_bool {n : Int} {s : ByteArray} (h : okVal 3 n s = true) : putS 3 n s = [3, n] := by
  unfold putS
  rw [if_pos h, if_neg (by decide), if_neg (by decide)]
theorem putS_len {k n : Int} {s : ByteArray} (h : okVal k n s = true) : 2 ≤ (putS k n s).length ∧ (putS k n s).length ≤ 1000 := by
  unfold putS
  rw [if_pos h]
  rcases ok_kind h with rfl | rfl | rfl
  · rw [if_pos rfl]
    have := digS_length 5 (zzE n)
    have h2 : (digS 5 (zzE n)).length ≠ 0 := fun h => digS_nil _ _ (List.eq_nil_of_length_eq_zero h)
    simp only [List.length_cons]
    omega
  · have := ok_text h
    simp [bytesOf_length]
    omega
  · simp
theorem okInt_dig {n : Int} {s : ByteArray} (h : okVal 1 n s = true) : 0 ≤ zzE n ∧ zzE n < 2 ^ (7 * (5 + 1)) := by
  have := ok_int h
  have := zzE_lt n this.1 this.2.1
  have hp : (2 : Int) ^ (7 * (5 + 1)) = 4398046511104 := rfl
  omega
/-- What is put is got, with any bytes behind. -/
theorem get_put {k n : Int} {s : ByteArray} (h : okVal k n s = true) (more : List Int) : getS (putS k n s ++ more) = (k, n, s, ((putS k n s).length : Int), true) := by
  have hl := putS_len h
  unfold getS
  rw [if_neg (by rw [List.length_append]; omega)]
  rcases ok_kind h with rfl | rfl | rfl
  · have hz := okInt_dig h
    have he := empty_of (ok_int h).2.2
    subst he
    rw [putS_int h]
    have e0 : rd ((1 : Int) :: (digS 5 (zzE n) ++ more)) 0 = 1 := rfl
    rw [List.cons_append, e0, if_pos rfl, List.drop_succ_cons, List.drop_zero, num_dig 5 7 (zzE n) true more (by omega) hz.1 hz.2]
    simp only [Bool.true_or]
    rw [zz_zzE, if_pos h, List.length_cons, show 1 + ((digS 5 (zzE n)).length : Int) = (((digS 5 (zzE n)).length + 1 : Nat) : Int) by omega]
  · have ht := ok_text h
    rw [putS_text h]
    have e1 : rd ((2 : Int) :: (s.size : Int) :: bytesOf s ++ more) 1 = (s.size : Int) := rfl
    have et : textAt ((2 : Int) :: (s.size : Int) :: bytesOf s ++ more) = s := by
      unfold textAt
      rw [e1, show (2 + (s.size : Int)).toNat = s.size + 2 by omega]
      show strOfNums ((bytesOf s ++ more).take s.size) = s
      rw [List.take_left' (bytesOf_length s), strOfNums_bytesOf]
    have e0 : rd ((2 : Int) :: (s.size : Int) :: bytesOf s ++ more) 0 = 2 := rfl
    rw [e0, e1, et, if_neg (by decide), if_pos rfl, if_pos (by simp [bytesOf_length]; omega)]
    obtain ⟨rfl, _⟩ := ht
    rw [if_pos h]
    simp only [List.length_cons, bytesOf_length]
    rw [show 2 + (s.size : Int) = ((s.size + 1 + 1 : Nat) : Int) by omega]
  · have hb := ok_bool h
    have he := empty_of hb.2.2
    subst he
    rw [putS_bool h]
    have e0 : rd ([(3 : Int), n] ++ more) 0 = 3 := rfl
    have e1 : rd ([(3 : Int), n] ++ more) 1 = n := rfl
    rw [e0, e1, if_neg (by decide), if_neg (by decide), if_pos rfl, if_pos h]
    rfl
/-- What is cut is none. -/
theorem get_cut {k n : Int} {s : ByteArray} (h : okVal k n s = true) : getS ((putS k n s).take ((putS k n s).length - 1)) = zero5 := by
  have hl := putS_len h
  unfold getS
  by_cases c : ((putS k n s).take ((putS k n s).length - 1)).length < 2
  · rw [if_pos c]
  rw [if_neg c]
  rw [List.length_take] at c
  rcases ok_kind h with rfl | rfl | rfl
  · have hz := okInt_dig h
    rw [putS_int h] at hl c ⊢
    have hm := num_cut 5 7
    generalize hq : digS 5 (zzE n) = q at hl c ⊢
    obtain ⟨j, hj⟩ : ∃ j, ((1 : Int) :: q).length - 1 = j + 1 := ⟨((1 : Int) :: q).length - 2, by omega⟩
    rw [hj, List.take_succ_cons]
    have e0 : rd ((1 : Int) :: q.take j) 0 = 1 := rfl
    have hjl : j < q.length := by simp only [List.length_cons] at hj; omega
    rw [e0, if_pos rfl, List.drop_succ_cons, List.drop_zero, ← hq, hm j (zzE n) true (by rw [hq]; exact hjl) hz.1]
  · have ht := ok_text h
    rw [putS_text h] at hl c ⊢
    simp only [List.length_cons, bytesOf_length] at hl c ⊢
    obtain ⟨j, hj⟩ : ∃ j, s.size + 1 + 1 - 1 = j + 2 := ⟨s.size - 1, by omega⟩
    rw [hj, List.take_succ_cons, List.take_succ_cons]
    have e0 : rd ((2 : Int) :: (s.size : Int) :: (bytesOf s).take j) 0 = 2 := rfl
    have e1 : rd ((2 : Int) :: (s.size : Int) :: (bytesOf s).take j) 1 = (s.size : Int) := rfl
    rw [e0, e1, if_neg (by decide), if_pos rfl, if_neg (by simp [bytesOf_length]; omega)]
  · rw [putS_bool h] at c
    exact absurd c (by simp)
/-- What is got is put: it has the bytes that it was read of. -/
theorem put_get {l : List Int} (hb : Bytes l) {k n : Int} {s : ByteArray} {j : Int} (h : getS l = (k, n, s, j, true)) : okVal k n s = true ∧ 0 < j ∧ j ≤ (l.length : Int) ∧ putS k n s = l.take j.toNat := by
  unfold getS at h
  split at h
  · cases h
  rename_i c1
  obtain ⟨x0, x1, t, rfl⟩ : ∃ x0 x1 t, l = x0 :: x1 :: t := by
    match l, c1 with
    | x0 :: x1 :: t, _ => exact ⟨x0, x1, t, rfl⟩
    | [_], c => exact absurd (by simp) c
    | [], c => exact absurd (by simp) c
  have r0 : rd (x0 :: x1 :: t) 0 = x0 := rfl
  have r1 : rd (x0 :: x1 :: t) 1 = x1 := rfl
  have b1 := hb x1 (by simp)
  rw [r0, r1] at h
  split at h
  · rename_i c2
    subst c2
    split at h
    · rename_i m q e
      split at h
      · rename_i c3
        cases h
        obtain ⟨i1, i2, i3, i4, i5, i6⟩ := num_inv 6 true _ (bytes_drop hb 1) m q e
        have hok := okInt_dig c3
        rw [zzE_zz m i1] at hok
        rw [List.drop_succ_cons, List.drop_zero] at i5 i6
        refine ⟨c3, by omega, by rw [List.length_cons]; omega, ?_⟩
        unfold putS
        rw [if_pos c3, if_pos rfl, zzE_zz m i1, ← dig_more 5 m i1 hok.2, i6, show (1 + (q : Int)).toNat = q + 1 by omega, List.take_succ_cons]
      · cases h
    · cases h
  · split at h
    · rename_i c2 c3
      subst c3
      split at h
      · rename_i c4
        split at h
        · rename_i c5
          cases h
          refine ⟨c5, by omega, c4, ?_⟩
          have ht : textAt (2 :: x1 :: t) = strOfNums (t.take x1.toNat) := by
            unfold textAt
            rw [r1, show (2 + x1).toNat = x1.toNat + 2 by omega]
            rfl
          have hbt : Bytes (t.take x1.toNat) := fun x hx => hb x (by simp [List.mem_of_mem_take hx])
          unfold putS
          rw [if_pos c5, if_neg (by decide), if_pos rfl, ht, bytesOf_strOfNums hbt, strOfNums_size, show (2 + x1).toNat = x1.toNat + 2 by omega]
          rw [List.take_succ_cons, List.take_succ_cons, List.length_take]
          simp only [List.length_cons] at c4
          rw [show ((min x1.toNat t.length : Nat) : Int) = x1 by omega]
        · cases h
      · cases h
    · split at h
      · rename_i c4
        subst c4
        split at h
        · rename_i c5
          cases h
          refine ⟨c5, by omega, by simp; omega, ?_⟩
          unfold putS
          rw [if_pos c5, if_neg (by decide), if_neg (by decide)]
          rfl
        · cases h
      · cases h
theorem get_cases (l : List Int) : (getS l).2.2.2.2 = true ∨ getS l = zero5 := by
  unfold getS
  split
  · exact Or.inr rfl
  split
  · split
    · split
      · exact Or.inl rfl
      · exact Or.inr rfl
    · exact Or.inr rfl
  split
  · split
    · split
      · exact Or.inl rfl
      · exact Or.inr rfl
    · exact Or.inr rfl
  split
  · split
    · exact Or.inl rfl
    · exact Or.inr rfl
  · exact Or.inr rfl
theorem get_no {l : List Int} (h : (getS l).2.2.2.2 = false) : (getS l).2.2.2.1 = 0 := by
  rcases get_cases l with e | e
  · rw [h] at e
    cases e
  · rw [e]
    rfl
end Go.Proofs.Ytbnjhmcbkocdjaa.Pure
namespace Go.Proofs.Ytbnjhmcbkocdjaa.Pure
open Go.Proofs.Ytbnjhmcbkocdjaa.PAll
open Go.RowKit Go.Proofs.YtbnjhmcbkocdjaaW.PrintWords Go.Proofs.YtbnjhmcbkocdjaaW.PrintLast Go.Proofs.YtbnjhmcbkocdjaaW.PrintMore
set_option linter.unusedVariables false
set_option linter.unusedSimpArgs false
theorem i64_in {n : Int} (h0 : 0 ≤ n) (h1 : n < 2 ^ 63) : IntKind.i64.wrap n = n := by
  have : IntKind.i64.wrap n = wrap64 n := by rw [i64_w]
  rw [this, wrap_id (by omega) (by omega)]
theorem or_lowI (n m s : Nat) (hn : n < 2 ^ s) (hm : m < 128) (hs : s ≤ 49) : bits .or .i64 (n : Int) (((m * 2 ^ s : Nat)) : Int) = ((n + m * 2 ^ s : Nat) : Int) := by
  have h2 : 2 ^ s ≤ 2 ^ 49 := Nat.pow_le_pow_right (by decide) hs
  have h3 : m * 2 ^ s < 2 ^ 63 := by
    have : m * 2 ^ s ≤ 127 * 2 ^ 49 := Nat.mul_le_mul (by omega) h2
    omega
  rw [(bits_nat .i64 63 (by decide) (fun n h0 h1 => i64_in h0 h1) n (m * 2 ^ s) (by omega) h3).2]
  rw [Nat.or_comm, Nat.mul_comm, ← Nat.two_pow_add_eq_or_of_lt hn m, Nat.add_comm]
theorem bitsI (i n b : Int) (hi0 : 0 ≤ i) (hi : i ≤ 6) (hn0 : 0 ≤ n) (hn : n < 2 ^ (7 * i).toNat) (hb0 : 0 ≤ b) (hb : b < 256) :
    bits .or .i64 n (shl .i64 (wrap64 (bits .and .u8 b 127)) (wrap64 (7 * i))) = n + b % 128 * 2 ^ (7 * i).toNat := by
  have e1 : bits .and .u8 b 127 = b % 128 := bits_mask .u8 8 (by decide) wraps_u8 7 (by decide) b hb0 hb
  rw [e1, wrap_id (n := b % 128) (by omega) (by omega), wrap_id (n := 7 * i) (by omega) (by omega)]
  obtain ⟨m, hm⟩ := Int.eq_ofNat_of_zero_le (show 0 ≤ b % 128 by omega)
  obtain ⟨a, ha⟩ := Int.eq_ofNat_of_zero_le hn0
  obtain ⟨s, hs⟩ : ∃ s : Nat, (7 * i).toNat = s := ⟨_, rfl⟩
  rw [hs] at hn ⊢
  have hs6 : s ≤ 42 := by omega
  have hsm : min s 64 = s := by omega
  have h2 : 2 ^ s ≤ 2 ^ 42 := Nat.pow_le_pow_right (by decide) hs6
  have hlt : m * 2 ^ s < 2 ^ 63 := by
    have : m * 2 ^ s ≤ 127 * 2 ^ 42 := Nat.mul_le_mul (by omega) h2
    omega
  rw [hm, ha]
  unfold shl
  rw [hs]
  simp only [IntKind.bits, hsm]
  have ec : ((m : Int) * 2 ^ s) = ((m * 2 ^ s : Nat) : Int) := by push_cast; rfl
  rw [ec, i64_in (by omega) (by exact_mod_cast hlt)]
  have hn' : a < 2 ^ s := by
    rw [ha] at hn
    exact_mod_cast hn
  have := or_lowI a m s hn' (by omega) (by omega)
  rw [this]
  push_cast
  rfl
/-- What the reader's number is: the number, what is left, whether it is bad. -/
def numT (l : List Int) (b : Bool) (most : Int) : Option (Int × Int × Bool) → Int × List Int × Bool
  | some (m, j, true) => if m > most then (0, [], true) else (m, l.drop j.toNat, b)
  | _ => (0, [], true)
theorem numT_ok (l : List Int) (b : Bool) (most m j : Int) : numT l b most (some (m, j, true)) = if m > most then (0, [], true) else (m, l.drop j.toNat, b) := rfl
theorem rnum_l0 (l : List Int) (hb : Bytes l) (hl : l.length ≤ 140737488355328) (b : Bool) (most : Int) : ∀ (d k : Nat) (i n : Int), 0 ≤ i → i + d = 7 → 0 ≤ n → n < 2 ^ (7 * i).toNat → d < k →
    event_reader_num.l0 k l b most n (mn (l.length : Int) 7) i = some (numT l b most (numG l d i n)) := by
  intro d
  induction d with
  | zero =>
    intro k i n h0 h1 h2 h3 hk
    obtain ⟨k, rfl⟩ : ∃ m, k = m + 1 := ⟨k - 1, by omega⟩
    unfold event_reader_num.l0
    rw [if_neg (by unfold mn; split <;> omega)]
    rfl
  | succ d ih =>
    intro k i n h0 h1 h2 h3 hk
    obtain ⟨k, rfl⟩ : ∃ m, k = m + 1 := ⟨k - 1, by omega⟩
    have hby := rd_byte hb i
    have hbit := bitsI i n (rd l i) h0 (by omega) h2 h3 hby.1 hby.2
    have hs := step_lt i n (rd l i) h0 (by omega) h2 h3
    have w1 : wrap64 (i + 1) = i + 1 := wrap_id (by omega) (by omega)
    have w7 : wrap64 (7 * i) = 7 * i := wrap_id (by omega) (by omega)
    unfold event_reader_num.l0
    rw [numG, hbit, w1]
    by_cases c : i < (l.length : Int)
    · rw [if_pos (by unfold mn; split <;> omega), if_pos h0, if_pos c, if_pos (by rw [w7]; omega), if_pos c]
      by_cases c2 : rd l i < 128
      · rw [if_neg (by omega), if_pos c2]
        by_cases ci : i > 0
        · rw [if_pos ci]
          by_cases cz : rd l i = 0
          · rw [if_pos cz, show (decide (i = 0) || decide (rd l i > 0)) = false by simp; omega]
            rfl
          · rw [if_neg cz, show (decide (i = 0) || decide (rd l i > 0)) = true by simp; omega]
            rw [numT_ok]
            by_cases hm : n + rd l i % 128 * 2 ^ (7 * i).toNat > most
            · rw [if_pos hm, if_pos hm]
            · rw [if_neg hm, if_neg hm, if_pos (by omega), if_pos (by omega)]
        · rw [if_neg ci, show (decide (i = 0) || decide (rd l i > 0)) = true by simp; omega]
          rw [numT_ok]
          by_cases hm : n + rd l i % 128 * 2 ^ (7 * i).toNat > most
          · rw [if_pos hm, if_pos hm]
          · rw [if_neg hm, if_neg hm, if_pos (by omega), if_pos (by omega)]
      · rw [if_pos (by omega), if_neg c2]
        exact ih k (i + 1) _ (by omega) (by omega) hs.1 hs.2 (by omega)
    · rw [if_neg (by unfold mn; split <;> omega), if_neg c]
      rfl
/-- A number that bytes begin with, and what is behind it. -/
def numE (most : Int) (l : List Int) : Option (Int × List Int) :=
  match numL 7 true l with
  | some (m, j, true) => if m > most then none else some (m, l.drop j)
  | _ => none
theorem rnum_eq (l : List Int) (hb : Bytes l) (hl : l.length ≤ 140737488355328) (b : Bool) (most : Int) (k : Nat) (hk : 20 ≤ k) :
    event_reader_num.f k l b most = some (match numE most l with | some (m, r) => (m, r, b) | none => (0, [], true)) := by
  have h := rnum_l0 l hb hl b most 7 k 0 0 (by omega) (by omega) (by omega) (by decide) (by omega)
  unfold event_reader_num.f
  rw [h]
  have hg := numG_L l 7 0 0
  rw [show ((0 : Nat) : Int) = 0 from rfl] at hg
  rw [hg]
  unfold numE
  rw [show decide ((0 : Nat) = 0) = true from rfl, List.drop_zero]
  congr 1
  cases h7 : numL 7 true l with
  | none => rfl
  | some r =>
    obtain ⟨m, j, fl⟩ := r
    cases fl with
    | false => rfl
    | true =>
      show numT l b most (some (0 + m * 2 ^ (7 * 0), ((0 + j : Nat) : Int), true)) = _
      unfold numT
      simp only [Nat.mul_zero, Int.pow_zero, Int.mul_one, Int.zero_add, Nat.zero_add, Int.toNat_natCast]
      split <;> simp_all
theorem digE_six {n : Int} (h0 : 0 ≤ n) (h1 : n < 562949953421312) : digE n = digS 6 n := by
  unfold digE
  rw [dig_more 7 n h0 (by omega), dig_more 6 n h0 (by omega)]
theorem num_put {n most : Int} (h0 : 0 ≤ n) (h1 : n ≤ most) (hm : most < 562949953421312) (rest : List Int) : numE most (digE n ++ rest) = some (n, rest) := by
  unfold numE
  rw [digE_six h0 (by omega), num_dig 6 7 n true rest (by omega) h0 (by omega)]
  simp only [Bool.true_or]
  rw [if_neg (by omega), List.drop_left']
  rfl
theorem num_got {l : List Int} (hb : Bytes l) {most m : Int} {r : List Int} (h : numE most l = some (m, r)) : l = digE m ++ r ∧ 0 ≤ m ∧ m ≤ most := by
  unfold numE at h
  cases h7 : numL 7 true l with
  | none => rw [h7] at h; cases h
  | some q =>
    obtain ⟨m', j, fl⟩ := q
    rw [h7] at h
    cases fl with
    | false => cases h
    | true =>
      simp only at h
      split at h
      · cases h
      · simp only [Option.some.injEq, Prod.mk.injEq] at h
        obtain ⟨rfl, rfl⟩ := h
        obtain ⟨q1, q2, _, q4, q5, q6⟩ := num_inv 6 true l hb _ _ h7
        refine ⟨?_, q1, by omega⟩
        rw [digE_six q1 (by omega), q6, List.take_append_drop]
theorem num_nil (most : Int) : numE most [] = none := rfl
end Go.Proofs.Ytbnjhmcbkocdjaa.Pure
namespace Go.Proofs.Ytbnjhmcbkocdjaa.Pure
open Go.Proofs.Ytbnjhmcbkocdjaa.PAll
open Go.RowKit Go.Proofs.YtbnjhmcbkocdjaaW.PrintWords Go.Proofs.YtbnjhmcbkocdjaaW.PrintLast Go.Proofs.YtbnjhmcbkocdjaaW.PrintMore
set_option linter.unusedVariables false
set_option linter.unusedSimpArgs false
/-- Values that bytes begin with, and what is behind them. -/
def valsE : Nat → List Int → Option (List S52 × List Int)
  | 0, l => some ([], l)
  | d + 1, l => match getS l with
    | (k, n, s, j, true) => (valsE d (l.drop j.toNat)).map fun r => (⟨k, n, s⟩ :: r.1, r.2)
    | _ => none
def putV (x : S52) : List Int := putS x.f0 x.f1 x.f2
def okV (x : S52) : Prop := okVal x.f0 x.f1 x.f2 = true
theorem vals_put : ∀ (v : List S52) (rest : List Int), (∀ x ∈ v, okV x) → valsE v.length (v.flatMap putV ++ rest) = some (v, rest)
  | [], rest, _ => rfl
  | x :: v, rest, h => by
    have hx : okVal x.f0 x.f1 x.f2 = true := h x (List.mem_cons_self ..)
    rw [List.flatMap_cons, List.append_assoc, List.length_cons]
    unfold valsE
    rw [show putV x = putS x.f0 x.f1 x.f2 from rfl, get_put hx]
    simp only
    rw [Int.toNat_natCast, List.drop_left' rfl, vals_put v rest (fun y hy => h y (List.mem_cons_of_mem _ hy))]
    rfl
theorem vals_got : ∀ (d : Nat) (l : List Int) (v : List S52) (r : List Int), Bytes l → valsE d l = some (v, r) → l = v.flatMap putV ++ r ∧ (∀ x ∈ v, okV x) ∧ v.length = d
  | 0, l, v, r, hb, h => by
    simp only [valsE, Option.some.injEq, Prod.mk.injEq] at h
    obtain ⟨rfl, rfl⟩ := h
    exact ⟨rfl, fun x hx => absurd hx (by simp), rfl⟩
  | d + 1, l, v, r, hb, h => by
    unfold valsE at h
    cases hg : getS l with
    | mk k q =>
      obtain ⟨n, s, j, is⟩ := q
      rw [hg] at h
      cases is with
      | false => cases h
      | true =>
        simp only [Option.map_eq_some_iff] at h
        obtain ⟨⟨v', r'⟩, h1, h2⟩ := h
        obtain ⟨g1, g2, g3, g4⟩ := put_get hb hg
        obtain ⟨i1, i2, i3⟩ := vals_got d _ v' r' (bytes_drop hb _) h1
        simp only [Prod.mk.injEq] at h2
        obtain ⟨rfl, rfl⟩ := h2
        refine ⟨?_, ?_, by rw [List.length_cons, i3]⟩
        · rw [List.flatMap_cons, List.append_assoc, ← i1]
          show l = putS k n s ++ _
          rw [g4, List.take_append_drop]
        · intro x hx
          rcases List.mem_cons.1 hx with rfl | hx
          · exact g1
          · exact i2 x hx
/-- What bytes are read as: an event, and what is behind it. -/
def decE (l : List Int) : Option ((Int × Int × Int × ByteArray × List S52) × List Int) :=
  (numE 1099511627776 l).bind fun p0 => (numE 3 p0.2).bind fun p1 => (numE 1099511627776 p1.2).bind fun p2 => (numE 16 p2.2).bind fun p3 =>
    if p3.1 > (p3.2.length : Int) then none else (numE 8 (p3.2.drop p3.1.toNat)).bind fun p4 => (valsE p4.1.toNat p4.2).map fun q => ((p0.1, p1.1, p2.1, strOfNums (p3.2.take p3.1.toNat), q.1), q.2)
/-- An event's bytes, right or not. -/
def rawE (a0 a1 a2 : Int) (a3 : ByteArray) (v : List S52) : List Int := digE a0 ++ digE a1 ++ digE a2 ++ digE (a3.size : Int) ++ bytesOf a3 ++ digE (v.length : Int) ++ v.flatMap putV
theorem dec_put {a0 a1 a2 : Int} {a3 : ByteArray} {v : List S52} (h0 : 0 ≤ a0 ∧ a0 ≤ 1099511627776 ∧ 0 ≤ a2 ∧ a2 ≤ 1099511627776 ∧ 0 ≤ a1 ∧ a1 ≤ 3) (h3 : a3.size ≤ 16) (hv : v.length ≤ 8) (ho : ∀ x ∈ v, okV x) (rest : List Int) :
    decE (rawE a0 a1 a2 a3 v ++ rest) = some ((a0, a1, a2, a3, v), rest) := by
  have hb := bytesOf_len a3
  unfold decE rawE
  simp only [List.append_assoc]
  rw [num_put (by omega) (by omega) (by omega), Option.bind_some, num_put (by omega) (by omega) (by omega), Option.bind_some, num_put (by omega) (by omega) (by omega), Option.bind_some, num_put (by omega) (by omega) (by omega), Option.bind_some]
  simp only [Int.toNat_natCast]
  rw [if_neg (by rw [List.length_append]; omega), List.drop_left' hb, List.take_left' hb, num_put (by omega) (by omega) (by omega), Option.bind_some]
  simp only [Int.toNat_natCast]
  rw [vals_put v rest ho, strOfNums_bytesOf]
  rfl
theorem dec_got {l : List Int} (hb : Bytes l) {a0 a1 a2 : Int} {a3 : ByteArray} {v : List S52} {r : List Int} (h : decE l = some ((a0, a1, a2, a3, v), r)) :
    l = rawE a0 a1 a2 a3 v ++ r ∧ (∀ x ∈ v, okV x) := by
  unfold decE at h
  obtain ⟨⟨m0, r0⟩, e0, h⟩ := Option.bind_eq_some_iff.1 h
  obtain ⟨⟨m1, r1⟩, e1, h⟩ := Option.bind_eq_some_iff.1 h
  obtain ⟨⟨m2, r2⟩, e2, h⟩ := Option.bind_eq_some_iff.1 h
  obtain ⟨⟨m3, r3⟩, e3, h⟩ := Option.bind_eq_some_iff.1 h
  simp only at e1 e2 e3 h
  split at h
  · cases h
  · rename_i hn
    obtain ⟨⟨m4, r4⟩, e4, h⟩ := Option.bind_eq_some_iff.1 h
    simp only [Option.map_eq_some_iff] at h
    obtain ⟨⟨v', r'⟩, e5, h⟩ := h
    simp only [Prod.mk.injEq] at h
    obtain ⟨⟨rfl, rfl, rfl, rfl, rfl⟩, rfl⟩ := h
    obtain ⟨f0, _, _⟩ := num_got hb e0
    have b0 : Bytes r0 := fun x hx => hb x (by rw [f0]; exact List.mem_append_right _ hx)
    obtain ⟨f1, _, _⟩ := num_got b0 e1
    have b1 : Bytes r1 := fun x hx => b0 x (by rw [f1]; exact List.mem_append_right _ hx)
    obtain ⟨f2, _, _⟩ := num_got b1 e2
    have b2 : Bytes r2 := fun x hx => b1 x (by rw [f2]; exact List.mem_append_right _ hx)
    obtain ⟨f3, g3, _⟩ := num_got b2 e3
    have b3 : Bytes r3 := fun x hx => b2 x (by rw [f3]; exact List.mem_append_right _ hx)
    obtain ⟨f4, g4, _⟩ := num_got (bytes_drop b3 _) e4
    have b4 : Bytes r4 := fun x hx => bytes_drop b3 _ x (by rw [f4]; exact List.mem_append_right _ hx)
    obtain ⟨f5, f6, f7⟩ := vals_got _ _ _ _ b4 e5
    refine ⟨?_, f6⟩
    have bt : Bytes (r3.take m3.toNat) := fun x hx => b3 x (List.mem_of_mem_take hx)
    have hsz : ((strOfNums (r3.take m3.toNat)).size : Int) = m3 := by
      rw [strOfNums_size, List.length_take]
      omega
    have hlen : (v'.length : Int) = m4 := by rw [f7]; omega
    unfold rawE
    rw [hsz, hlen, bytesOf_strOfNums bt]
    simp only [List.append_assoc]
    rw [← f5, ← f4, List.take_append_drop, ← f3, ← f2, ← f1]
    exact f0
def none6 : Int × Int × Int × ByteArray × List S52 × Bool := (0, 0, 0, ⟨#[]⟩, [], false)
/-- What the program reads of bytes. -/
def getE (l : List Int) : Int × Int × Int × ByteArray × List S52 × Bool :=
  match decE l with
  | some ((a0, a1, a2, a3, v), []) => if rightB a0 a1 a2 a3 v = true then (a0, a1, a2, a3, v, true) else none6
  | _ => none6
theorem get_l0 (a0 a1 a2 : Int) (a3 : ByteArray) (h3 : a3.size ≤ 140737488351232) : ∀ (d i N k : Nat) (l : List Int) (acc : List S52), Bytes l → l.length ≤ 9001 → i + d = N → N ≤ 8 → acc.length = i → d + 300000000000001 ≤ k →
    event_Get.l0 k (N : Int) (i : Int) l false a0 a1 a2 a3 acc = some (match valsE d l with | some (v, []) => if rightB a0 a1 a2 a3 (acc ++ v) = true then (a0, a1, a2, a3, acc ++ v, true) else none6 | _ => none6)
  | 0, i, N, k, l, acc, hb, hl, hi, hN, ha, hk => by
    obtain ⟨k, rfl⟩ : ∃ m, k = m + 1 := ⟨k - 1, by omega⟩
    unfold event_Get.l0
    rw [if_neg (by omega), if_neg (by decide)]
    unfold valsE
    cases l with
    | cons b t =>
      rw [if_pos (by rw [List.length_cons]; omega)]
      rfl
    | nil =>
      rw [if_neg (by decide), right_eq' a0 a1 a2 a3 acc h3 (by omega) k (by omega), Option.bind_some]
      simp only [List.append_nil]
      split <;> rfl
  | d + 1, i, N, k, l, acc, hb, hl, hi, hN, ha, hk => by
    obtain ⟨k, rfl⟩ : ∃ m, k = m + 1 := ⟨k - 1, by omega⟩
    unfold event_Get.l0
    rw [if_pos (by omega), get_S l hb (by omega) k (by omega), Option.bind_some]
    unfold valsE
    cases hg : getS l with
    | mk kk q =>
      obtain ⟨n, s, j, is⟩ := q
      cases is with
      | false => rfl
      | true =>
        obtain ⟨g1, g2, g3, g4⟩ := put_get hb hg
        dsimp only
        rw [if_pos rfl, Option.bind_some, if_pos (by rw [List.length_singleton]; omega), if_pos (by omega), if_pos (by omega), wrap_nat (by omega)]
        rw [get_l0 a0 a1 a2 a3 h3 d (i + 1) N k (l.drop j.toNat) (acc ++ [(⟨kk, n, s⟩ : S52)]) (bytes_drop hb _) (by rw [List.length_drop]; omega) (by omega) hN (by rw [List.length_append, List.length_singleton]; omega) (by omega)]
        cases valsE d (l.drop j.toNat) with
        | none => rfl
        | some r =>
          obtain ⟨v, r⟩ := r
          cases r with
          | nil =>
            have e : acc ++ [(⟨kk, n, s⟩ : S52)] ++ v = acc ++ (⟨kk, n, s⟩ :: v) := by rw [List.append_assoc, List.singleton_append]
            simp only [Option.map_some, e]
          | cons b t => rfl
theorem get_bad (a0 a1 a2 : Int) (a3 : ByteArray) (k : Nat) : event_Get.l0 (k + 1) 0 0 [] true a0 a1 a2 a3 [] = some none6 := by
  unfold event_Get.l0
  rw [if_neg (by decide), if_pos rfl]
  rfl
theorem rbad (b : Bool) (most : Int) (k : Nat) (hk : 20 ≤ k) : event_reader_num.f k [] b most = some (0, [], true) := rnum_eq [] (fun x hx => absurd hx (by simp)) (by simp) b most k hk
theorem get_fin (a0 a1 a2 : Int) (k : Nat) (hk : 20 ≤ k) :
    ((event_reader_num.f k (([] : List Int).drop (0 : Int).toNat) true 8).bind fun bt254 => event_Get.l0 k bt254.1 0 bt254.2.1 bt254.2.2 a0 a1 a2 (strOfNums (([] : List Int).take (0 : Int).toNat)) []) = some none6 := by
  obtain ⟨k, rfl⟩ : ∃ m, k = m + 1 := ⟨k - 1, by omega⟩
  rw [List.drop_nil, rbad _ _ _ (by omega), Option.bind_some]
  exact get_bad _ _ _ _ k
theorem get_eqE (l : List Int) (hb : Bytes l) (hl : l.length ≤ 9001) (k : Nat) (hk : 300000000000100 ≤ k) : event_Get.f k l = some (getE l) := by
  unfold event_Get.f getE decE
  rw [rnum_eq l hb (by omega) _ _ k (by omega), Option.bind_some]
  cases e0 : numE 1099511627776 l with
  | none =>
    simp only [Option.bind_none]
    rw [rbad _ _ k (by omega), Option.bind_some, rbad _ _ k (by omega), Option.bind_some, rbad _ _ k (by omega), Option.bind_some, if_neg (by decide), if_pos (by decide), if_pos (by decide)]
    exact get_fin _ _ _ k (by omega)
  | some p0 =>
    obtain ⟨m0, r0⟩ := p0
    obtain ⟨f0, _, _⟩ := num_got hb e0
    have l0 : r0.length ≤ 9001 := by rw [f0, List.length_append] at hl; omega
    have b0 : Bytes r0 := fun x hx => hb x (by rw [f0]; exact List.mem_append_right _ hx)
    simp only [Option.bind_some]
    rw [rnum_eq r0 b0 (by omega) _ _ k (by omega), Option.bind_some]
    cases e1 : numE 3 r0 with
    | none =>
      simp only [Option.bind_none]
      rw [rbad _ _ k (by omega), Option.bind_some, rbad _ _ k (by omega), Option.bind_some, if_neg (by decide), if_pos (by decide), if_pos (by decide)]
      exact get_fin _ _ _ k (by omega)
    | some p1 =>
      obtain ⟨m1, r1⟩ := p1
      obtain ⟨f1, _, _⟩ := num_got b0 e1
      have l1 : r1.length ≤ 9001 := by rw [f1, List.length_append] at l0; omega
      have b1 : Bytes r1 := fun x hx => b0 x (by rw [f1]; exact List.mem_append_right _ hx)
      simp only [Option.bind_some]
      rw [rnum_eq r1 b1 (by omega) _ _ k (by omega), Option.bind_some]
      cases e2 : numE 1099511627776 r1 with
      | none =>
        simp only [Option.bind_none]
        rw [rbad _ _ k (by omega), Option.bind_some, if_neg (by decide), if_pos (by decide), if_pos (by decide)]
        exact get_fin _ _ _ k (by omega)
      | some p2 =>
        obtain ⟨m2, r2⟩ := p2
        obtain ⟨f2, _, _⟩ := num_got b1 e2
        have l2 : r2.length ≤ 9001 := by rw [f2, List.length_append] at l1; omega
        have b2 : Bytes r2 := fun x hx => b1 x (by rw [f2]; exact List.mem_append_right _ hx)
        simp only [Option.bind_some]
        rw [rnum_eq r2 b2 (by omega) _ _ k (by omega), Option.bind_some]
        cases e3 : numE 16 r2 with
        | none =>
          simp only [Option.bind_none]
          rw [if_neg (by decide), if_pos (by decide), if_pos (by decide)]
          exact get_fin _ _ _ k (by omega)
        | some p3 =>
          obtain ⟨m3, r3⟩ := p3
          obtain ⟨f3, g3, g3'⟩ := num_got b2 e3
          have l3 : r3.length ≤ 9001 := by rw [f3, List.length_append] at l2; omega
          have b3 : Bytes r3 := fun x hx => b2 x (by rw [f3]; exact List.mem_append_right _ hx)
          simp only [Option.bind_some]
          by_cases c : m3 > (r3.length : Int)
          · rw [if_pos c, if_pos c]
            rfl
          · rw [if_neg c, if_neg c, if_pos g3, if_pos (by omega), rnum_eq _ (bytes_drop b3 _) (by rw [List.length_drop]; omega) _ _ k (by omega), Option.bind_some]
            cases e4 : numE 8 (r3.drop m3.toNat) with
            | none =>
              obtain ⟨k, rfl⟩ : ∃ m, k = m + 1 := ⟨k - 1, by omega⟩
              exact get_bad _ _ _ _ k
            | some p4 =>
              obtain ⟨m4, r4⟩ := p4
              obtain ⟨f4, g4, g4'⟩ := num_got (bytes_drop b3 _) e4
              have b4 : Bytes r4 := fun x hx => bytes_drop b3 _ x (by rw [f4]; exact List.mem_append_right _ hx)
              have l4 : r4.length ≤ 9001 := by
                have : (r3.drop m3.toNat).length = (digE m4).length + r4.length := by rw [f4, List.length_append]
                rw [List.length_drop] at this
                omega
              obtain ⟨N, rfl⟩ := Int.eq_ofNat_of_zero_le g4
              have hs : (strOfNums (r3.take m3.toNat)).size ≤ 140737488351232 := by rw [strOfNums_size, List.length_take]; omega
              have := get_l0 m0 m1 m2 (strOfNums (r3.take m3.toNat)) hs N 0 N k r4 [] b4 l4 (by omega) (by omega) rfl (by omega)
              simp only [Option.bind_some, Int.toNat_natCast]
              rw [show ((0 : Nat) : Int) = 0 from rfl] at this
              rw [this]
              cases valsE N r4 with
              | none => rfl
              | some q =>
                obtain ⟨v, r⟩ := q
                cases r with
                | nil => rfl
                | cons b t => rfl
end Go.Proofs.Ytbnjhmcbkocdjaa.Pure
namespace Go.Proofs.Ytbnjhmcbkocdjaa.Pure
open Go.Proofs.Ytbnjhmcbkocdjaa.PAll
open Go.RowKit Go.Proofs.YtbnjhmcbkocdjaaW.PrintWords Go.Proofs.YtbnjhmcbkocdjaaW.PrintLast Go.Proofs.YtbnjhmcbkocdjaaW.PrintMore
set_option linter.unusedVariables false
set_option linter.unusedSimpArgs false
theorem rd52 (l : List S52) (i : Nat) (h : i < l.length) : rd_T52 l (i : Int) = l[i] := by
  unfold rd_T52
  rw [Int.toNat_natCast, List.getD_eq_getElem?_getD, List.getElem?_eq_getElem h]
  rfl
theorem vals_flat (v : List S52) : ∀ d i : Nat, i + d = v.length → valsL v d i = (v.drop i).flatMap putV
  | 0, i, h => by
    rw [List.drop_of_length_le (by omega)]
    rfl
  | d + 1, i, h => by
    unfold valsL
    rw [List.drop_eq_getElem_cons (by omega), List.flatMap_cons, rd52 v i (by omega), vals_flat v d (i + 1) (by omega)]
    rfl
theorem bad_ok (v : List S52) : ∀ d i : Nat, i + d = v.length → (badI v d i < 0 ↔ ∀ x ∈ v.drop i, okV x)
  | 0, i, h => by
    rw [List.drop_of_length_le (by omega)]
    unfold badI
    simp
  | d + 1, i, h => by
    unfold badI
    rw [List.drop_eq_getElem_cons (by omega), rd52 v i (by omega)]
    have ih := bad_ok v d (i + 1) (by omega)
    by_cases c : okVal v[i].f0 v[i].f1 v[i].f2 = true
    · rw [if_pos c, ih]
      constructor
      · intro q x hx
        rcases List.mem_cons.1 hx with rfl | hx
        · exact c
        · exact q x hx
      · exact fun q x hx => q x (List.mem_cons_of_mem _ hx)
    · rw [if_neg c]
      constructor
      · intro q; omega
      · exact fun q => absurd (q _ (List.mem_cons_self ..)) c
theorem put_raw {a0 a1 a2 : Int} {a3 : ByteArray} {v : List S52} (h : rightB a0 a1 a2 a3 v = true) : putE a0 a1 a2 a3 v = rawE a0 a1 a2 a3 v := by
  unfold putE rawE
  rw [if_pos h, vals_flat v v.length 0 (by omega), List.drop_zero]
theorem right_ok_all {a0 a1 a2 : Int} {a3 : ByteArray} {v : List S52} (h : rightB a0 a1 a2 a3 v = true) : ∀ x ∈ v, okV x := by
  have := (bad_ok v v.length 0 (by omega)).1 (right_facts h).2.2.2
  rwa [List.drop_zero] at this
theorem digE_bytes {n : Int} (h0 : 0 ≤ n) (h1 : n < 562949953421312) : Bytes (digE n) := by
  rw [digE_six h0 h1]
  exact dig_bytes 6 n h0 (by omega)
theorem bytes_append {a b : List Int} (ha : Bytes a) (hb : Bytes b) : Bytes (a ++ b) := fun x hx => by
  rcases List.mem_append.1 hx with h | h
  · exact ha x h
  · exact hb x h
theorem bytes_cons {a : Int} {b : List Int} (h0 : 0 ≤ a) (h1 : a < 256) (hb : Bytes b) : Bytes (a :: b) := fun x hx => by
  rcases List.mem_cons.1 hx with rfl | h
  · exact ⟨h0, h1⟩
  · exact hb x h
theorem bytes_nil : Bytes [] := fun x hx => absurd hx (by simp)
theorem putV_bytes {x : S52} (h : okV x) : Bytes (putV x) := by
  unfold okV at h
  unfold putV
  rcases ok_kind h with e | e | e
  · rw [e] at h ⊢
    rw [putS_int h]
    exact bytes_cons (by decide) (by decide) (dig_bytes 5 _ (okInt_dig h).1 (okInt_dig h).2)
  · rw [e] at h ⊢
    rw [putS_text h]
    exact bytes_cons (by decide) (by decide) (bytes_cons (by omega) (by have := (ok_text h).2; omega) (bytesOf_bytes _))
  · rw [e] at h ⊢
    rw [putS_bool h]
    have := ok_bool h
    exact bytes_cons (by decide) (by decide) (bytes_cons (by omega) (by omega) bytes_nil)
theorem flat_bytes : ∀ (v : List S52), (∀ x ∈ v, okV x) → Bytes (v.flatMap putV)
  | [], _ => bytes_nil
  | x :: v, h => by
    rw [List.flatMap_cons]
    exact bytes_append (putV_bytes (h x (List.mem_cons_self ..))) (flat_bytes v (fun y hy => h y (List.mem_cons_of_mem _ hy)))
theorem flat_len : ∀ (v : List S52), (v.flatMap putV).length ≤ 140 * v.length
  | [] => by simp
  | x :: v => by
    have := putS_le x.f0 x.f1 x.f2
    have := flat_len v
    rw [List.flatMap_cons, List.length_append, List.length_cons]
    show (putS x.f0 x.f1 x.f2).length + _ ≤ _
    omega
theorem raw_facts {a0 a1 a2 : Int} {a3 : ByteArray} {v : List S52} (h : rightB a0 a1 a2 a3 v = true) : Bytes (rawE a0 a1 a2 a3 v) ∧ 0 < (rawE a0 a1 a2 a3 v).length ∧ (rawE a0 a1 a2 a3 v).length ≤ 5000 := by
  obtain ⟨hr, hw, hl, _⟩ := right_facts h
  have hs := word_size hw
  have hf := flat_len v
  have d0 := digE_len a0
  have d1 := digE_len a1
  have d2 := digE_len a2
  have d3 := digE_len (a3.size : Int)
  have d4 := digE_len (v.length : Int)
  have hb := bytesOf_len a3
  unfold rawE
  refine ⟨?_, ?_, ?_⟩
  · exact bytes_append (bytes_append (bytes_append (bytes_append (bytes_append (bytes_append (digE_bytes (by omega) (by omega)) (digE_bytes (by omega) (by omega))) (digE_bytes (by omega) (by omega))) (digE_bytes (by omega) (by omega))) (bytesOf_bytes _)) (digE_bytes (by omega) (by omega))) (flat_bytes v (right_ok_all h))
  · simp only [List.length_append]
    omega
  · simp only [List.length_append]
    omega
theorem dec_right {a0 a1 a2 : Int} {a3 : ByteArray} {v : List S52} (h : rightB a0 a1 a2 a3 v = true) (rest : List Int) : decE (rawE a0 a1 a2 a3 v ++ rest) = some ((a0, a1, a2, a3, v), rest) := by
  obtain ⟨hr, hw, hl, _⟩ := right_facts h
  exact dec_put hr (word_size hw).2 hl (right_ok_all h) rest
/-- What is read of bytes: all of them, or nothing. -/
theorem get_all {l : List Int} (hb : Bytes l) : getE l = none6 ∨ ∃ a0 a1 a2 a3 v, getE l = (a0, a1, a2, a3, v, true) ∧ rightB a0 a1 a2 a3 v = true ∧ l = rawE a0 a1 a2 a3 v := by
  unfold getE
  cases h : decE l with
  | none => exact .inl rfl
  | some q =>
    obtain ⟨⟨a0, a1, a2, a3, v⟩, r⟩ := q
    cases r with
    | cons b t => exact .inl rfl
    | nil =>
      cases hr : rightB a0 a1 a2 a3 v with
      | false => exact .inl (by simp [hr])
      | true =>
        refine .inr ⟨a0, a1, a2, a3, v, by simp [hr], hr, ?_⟩
        have := (dec_got hb h).1
        rwa [List.append_nil] at this
theorem get_right {a0 a1 a2 : Int} {a3 : ByteArray} {v : List S52} (h : rightB a0 a1 a2 a3 v = true) : getE (rawE a0 a1 a2 a3 v) = (a0, a1, a2, a3, v, true) := by
  have := dec_right h []
  rw [List.append_nil] at this
  unfold getE
  rw [this]
  simp [h]
theorem get_more {a0 a1 a2 : Int} {a3 : ByteArray} {v : List S52} (h : rightB a0 a1 a2 a3 v = true) (b : Int) : getE (rawE a0 a1 a2 a3 v ++ [b]) = none6 := by
  unfold getE
  rw [dec_right h [b]]
theorem get_cut6 {a0 a1 a2 : Int} {a3 : ByteArray} {v : List S52} (h : rightB a0 a1 a2 a3 v = true) (c : Nat) (hc : c < (rawE a0 a1 a2 a3 v).length) : getE ((rawE a0 a1 a2 a3 v).take c) = none6 := by
  have hb : Bytes ((rawE a0 a1 a2 a3 v).take c) := fun x hx => (raw_facts h).1 x (List.mem_of_mem_take hx)
  rcases get_all hb with q | ⟨b0, b1, b2, b3, u, _, g2, g3⟩
  · exact q
  · exfalso
    have e1 := dec_right h []
    have e2 := dec_right g2 ((rawE a0 a1 a2 a3 v).drop c)
    rw [← g3, List.take_append_drop] at e2
    rw [List.append_nil, e2] at e1
    simp only [Option.some.injEq, Prod.mk.injEq] at e1
    have := congrArg List.length e1.2
    rw [List.length_drop] at this
    simp at this
    omega
theorem same4_l0 (v : List S52) (hv : v.length ≤ 140737488351232) : ∀ (d i k : Nat), i + d = v.length → d < k → auguryref04_Same.l0 k v v (i : Int) = some true
  | 0, i, k, hi, hk => by
    obtain ⟨k, rfl⟩ : ∃ m, k = m + 1 := ⟨k - 1, by omega⟩
    unfold auguryref04_Same.l0
    rw [if_neg (by omega)]
  | d + 1, i, k, hi, hk => by
    obtain ⟨k, rfl⟩ : ∃ m, k = m + 1 := ⟨k - 1, by omega⟩
    unfold auguryref04_Same.l0
    rw [if_pos (by omega), if_pos (by omega), if_pos (by omega), if_neg (by simp), wrap_nat (by omega)]
    exact same4_l0 v hv d (i + 1) k (by omega) (by omega)
theorem sameone (a0 a1 a2 : Int) (a3 : ByteArray) (v : List S52) (hv : v.length ≤ 140737488351232) (k : Nat) (hk : 200000000000000 ≤ k) : auguryref05_SameOne.f k a0 a1 a2 a3 v a0 a1 a2 a3 v = some true := by
  unfold auguryref05_SameOne.f auguryref04_Same.f
  have h : auguryref04_Same.l0 k v v 0 = some true := same4_l0 v hv v.length 0 k (by omega) (by omega)
  rw [if_pos rfl, if_pos rfl, if_pos rfl, if_pos rfl, if_pos rfl, h]
  rfl
theorem back_j1 (l : List Int) (hb : Bytes l) (hl : l.length ≤ 9000) (k : Nat) (hk : 400000000000000 ≤ k) : augurylaw05_EventBack.j1 (k + 1) l true = some true := by
  unfold augurylaw05_EventBack.j1
  dsimp only
  rw [get_eqE l hb (by omega) k (by omega), Option.bind_some]
  rcases get_all hb with q | ⟨a0, a1, a2, a3, v, g1, g2, g3⟩
  · rw [q]
    have := sameone 0 0 0 ⟨#[]⟩ [] (by decide) k (by omega)
    simp only [none6, Bool.false_eq_true, if_false, if_true]
    rw [this]
    rfl
  · rw [g1]
    obtain ⟨hr, hw, hv, _⟩ := right_facts g2
    have hs := word_size hw
    have hf := raw_facts g2
    simp only [if_true]
    rw [put_eqE a0 a1 a2 a3 v (by omega) (by omega) k (by omega), Option.bind_some, put_raw g2, ← g3, if_pos rfl, if_pos (by rw [← g3] at hf; omega)]
theorem back_j0 (l : List Int) (hb : Bytes l) (hl : l.length ≤ 9000) (a0 a1 a2 : Int) (a3 : ByteArray) (v : List S52) (h3 : a3.size ≤ 140737488351232) (hv : v.length ≤ 140737488351232) (cut more : Int) (hc : 0 ≤ cut ∧ cut < 65536) (hm : 0 ≤ more ∧ more < 256) (k : Nat) (hk : 500000000000000 ≤ k) :
    augurylaw05_EventBack.j0 (k + 2) l cut more true false a0 a1 a2 a3 v = some true := by
  have hj := back_j1 l hb hl k (by omega)
  unfold augurylaw05_EventBack.j0
  dsimp only
  rw [if_neg (by decide), put_eqE a0 a1 a2 a3 v h3 hv (k + 1) (by omega), Option.bind_some]
  cases hr : rightB a0 a1 a2 a3 v with
  | false =>
    have : putE a0 a1 a2 a3 v = [] := by unfold putE; rw [hr]; rfl
    rw [this, if_neg (by decide)]
    exact hj
  | true =>
    obtain ⟨f1, f2, f3⟩ := raw_facts hr
    rw [put_raw hr]
    generalize hx : rawE a0 a1 a2 a3 v = x at *
    have hw : wrap64 cut = cut := wrap_id (by omega) (by omega)
    have ht : Int.tmod cut (x.length : Int) = cut % (x.length : Int) := Int.tmod_eq_emod_of_nonneg hc.1
    have t0 : 0 ≤ cut % (x.length : Int) := Int.emod_nonneg _ (by omega)
    have t1 : cut % (x.length : Int) < (x.length : Int) := Int.emod_lt_of_pos _ (by omega)
    have gx : getE x = (a0, a1, a2, a3, v, true) := by rw [← hx]; exact get_right hr
    have gc : getE (x.take (cut % (x.length : Int)).toNat) = none6 := by
      have := get_cut6 hr (cut % (x.length : Int)).toNat (by rw [hx]; omega)
      rwa [hx] at this
    have gm : getE (x ++ [more]) = none6 := by
      have := get_more hr more
      rwa [hx] at this
    have bc : Bytes (x.take (cut % (x.length : Int)).toNat) := fun y hy => f1 y (List.mem_of_mem_take hy)
    rw [if_pos (by omega), get_eqE x f1 (by omega) (k + 1) (by omega), Option.bind_some, if_neg (by omega), hw, ht, if_pos t0, if_pos (by omega), get_eqE _ bc (by rw [List.length_take]; omega) (k + 1) (by omega), Option.bind_some, Option.bind_some, if_pos (by simp only [List.length_nil]; omega), Option.bind_some, List.nil_append, if_pos (by omega), get_eqE _ (bytes_append f1 (bytes_cons hm.1 hm.2 bytes_nil)) (by rw [List.length_append, List.length_singleton]; omega) (k + 1) (by omega), Option.bind_some, gx, gc, gm]
    simp only [none6, if_true]
    rw [sameone a0 a1 a2 a3 v hv (k + 1) (by omega), Option.bind_some]
    simp only [Bool.false_eq_true, if_false, if_true]
    exact hj
theorem EventBack : augurylaw05_EventBack.Pure := by
  intro x l cut more hx hl hc hm
  have hb : Bytes l := bytes_of_wf hl.2
  have hc2 : 0 ≤ cut ∧ cut < 65536 := by
    simp [Lit.wf, IntKind.min, IntKind.max, IntKind.bits, IntKind.signed] at hc
    omega
  have hm2 : 0 ≤ more ∧ more < 256 := by
    simp [Lit.wf, IntKind.min, IntKind.max, IntKind.bits, IntKind.signed] at hm
    omega
  obtain ⟨bx, gx⟩ := great_ex x.f0 x.f1 x.f2 x.f3 x.f4 (ok_len hx)
  have h3 : x.f3.size ≤ 140737488351232 := hx.2.2.2.1
  have hv : x.f4.length ≤ 140737488351232 := hx.2.2.2.2.1
  obtain ⟨k, hk⟩ : ∃ k : Nat, 500000000000000 ≤ k := ⟨_, Nat.le_refl _⟩
  refine ⟨k + 2, ?_⟩
  have hj : ∀ g, (g = false → l.length ≤ 9000) → augurylaw05_EventBack.j0 (k + 2) l cut more true g x.f0 x.f1 x.f2 x.f3 x.f4 = some true := by
    intro g hg
    cases g with
    | true =>
      unfold augurylaw05_EventBack.j0
      rfl
    | false => exact back_j0 l hb (hg rfl) _ _ _ _ _ h3 hv cut more hc2 hm2 k hk
  unfold augurylaw05_EventBack.f
  rw [leO_ge augurylaw05_head.mono head_ok (by omega), Option.bind_some, gx _ (by omega), Option.bind_some]
  split
  · exact hj true (fun h => absurd h (by decide))
  · exact hj _ (fun h => by have := of_decide_eq_false h; omega)
end Go.Proofs.Ytbnjhmcbkocdjaa.Pure
