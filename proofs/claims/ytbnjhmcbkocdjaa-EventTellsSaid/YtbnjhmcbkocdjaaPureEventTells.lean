/- The law EventTells, of values alone: whether events fit, schemas and fields of names, and bytes, are the document's. -/
import Derived.Test.YtbnjhmcbkocdjaaPAllx10
import Derived.Test.YtbnjhmcbkocdjaaPAllx11
import Derived.Test.YtbnjhmcbkocdjaaPAllx12
import Derived.Test.YtbnjhmcbkocdjaaPAllx13
import Derived.Test.YtbnjhmcbkocdjaaPAllx14
import Derived.Test.YtbnjhmcbkocdjaaPAllx15
import Derived.Test.YtbnjhmcbkocdjaaPAllx16
import Derived.Test.YtbnjhmcbkocdjaaPAllx17
import Derived.Test.YtbnjhmcbkocdjaaPAllx18
import Derived.Test.YtbnjhmcbkocdjaaPAllx19
import Derived.Test.YtbnjhmcbkocdjaaPAllx20
import Derived.Test.YtbnjhmcbkocdjaaPAllx22
import Derived.Test.YtbnjhmcbkocdjaaPAllx23
import Derived.Test.YtbnjhmcbkocdjaaPAllx25
import Derived.Test.YtbnjhmcbkocdjaaPAllx26
import Derived.Test.YtbnjhmcbkocdjaaPAllx3
import Derived.Test.YtbnjhmcbkocdjaaPAllx30
import Derived.Test.YtbnjhmcbkocdjaaPAllx31
import Derived.Test.YtbnjhmcbkocdjaaPAllx32
import Derived.Test.YtbnjhmcbkocdjaaPAllx33
import Derived.Test.YtbnjhmcbkocdjaaPAllx34
import Derived.Test.YtbnjhmcbkocdjaaPAllx35
import Derived.Test.YtbnjhmcbkocdjaaPAllx36
import Derived.Test.YtbnjhmcbkocdjaaPAllx37
import Derived.Test.YtbnjhmcbkocdjaaPAllx38
import Derived.Test.YtbnjhmcbkocdjaaPAllx39
import Derived.Test.YtbnjhmcbkocdjaaPAllx4
import Derived.Test.YtbnjhmcbkocdjaaPAllx40
import Derived.Test.YtbnjhmcbkocdjaaPAllx41
import Derived.Test.YtbnjhmcbkocdjaaPAllx42
import Derived.Test.YtbnjhmcbkocdjaaPAllx43
import Derived.Test.YtbnjhmcbkocdjaaPAllx44
import Derived.Test.YtbnjhmcbkocdjaaPAllx45
import Derived.Test.YtbnjhmcbkocdjaaPAllx46
import Derived.Test.YtbnjhmcbkocdjaaPAllx47
import Derived.Test.YtbnjhmcbkocdjaaPAllx48
import Derived.Test.YtbnjhmcbkocdjaaPAllx5
import Derived.Test.YtbnjhmcbkocdjaaPAllx6
import Derived.Test.YtbnjhmcbkocdjaaPAllx7
import Derived.Test.YtbnjhmcbkocdjaaPAllx8
import Derived.Test.YtbnjhmcbkocdjaaPAllx9
import Derived.Laws.BitsLemmas
import Derived.Lib.Strings
namespace Go.Proofs.Ytbnjhmcbkocdjaa.Pure
open Go.Proofs.Ytbnjhmcbkocdjaa.PAll
open Go.RowKit Go.Proofs.YtbnjhmcbkocdjaaW.PrintWords Go.Proofs.YtbnjhmcbkocdjaaW.PrintLast Go.Proofs.YtbnjhmcbkocdjaaW.PrintMore
set_option linter.unusedVariables false
set_option linter.unusedSimpArgs false
theorem leO_le {α : Type} {f : Nat → Option α} (hm : ∀ k, LeO (f k) (f (k + 1))) {x : α} {k : Nat} (h : f k = some x) : ∀ d, f (k + d) = some x
  | 0 => h
  | d + 1 => hm _ _ (leO_le hm h d)
theorem leO_ge {α : Type} {f : Nat → Option α} (hm : ∀ k, LeO (f k) (f (k + 1))) {x : α} {k j : Nat} (h : f k = some x) (hj : k ≤ j) : f j = some x := by
  obtain ⟨d, rfl⟩ := Nat.exists_eq_add_of_le hj
  exact leO_le hm h d
theorem wrap_id {n : Int} (h0 : -9223372036854775808 ≤ n) (h1 : n ≤ 9223372036854775807) : wrap64 n = n := by unfold wrap64; omega
theorem head_ok : augurylaw05_head.f 40 = some true := by kernel_rfl
theorem read_word (f : Ieee.Format) (neg : Bool) (r : Nat) (h : r ≤ f.infRung) : (f.read (f.word neg r)).order (f.read (f.word neg r)) = some .eq := by
  have hb := f.infRung_lt
  have hw : f.word neg r % f.signWeight = r := by
    unfold Ieee.Format.word
    cases neg
    · simp only [Bool.false_eq_true, if_false]
      first | exact Nat.mod_eq_of_lt (by omega) | (rw [Nat.zero_add]; exact Nat.mod_eq_of_lt (by omega))
    · simp only [if_true]
      first | (rw [Nat.add_mod_left]; exact Nat.mod_eq_of_lt (by omega)) | (rw [Nat.add_mod_right]; exact Nat.mod_eq_of_lt (by omega))
  unfold Ieee.Format.read
  simp only [hw]
  by_cases h1 : r < f.binade
  · rw [if_pos h1]
    simp [Ieee.Datum.order]
  · rw [if_neg h1]
    by_cases h2 : r < f.infRung
    · rw [if_pos h2]
      simp [Ieee.Datum.order]
    · rw [if_neg h2, if_pos (by omega)]
      simp [Ieee.Datum.order]
theorem order_nearest (f : Ieee.Format) (neg : Bool) (mag : Nat) (place : Int) : f.order (f.nearest neg mag place) (f.nearest neg mag place) = some .eq := by
  unfold Ieee.Format.order Ieee.Format.nearest
  split
  · exact read_word f neg 0 (Nat.zero_le _)
  · exact read_word f neg _ (Nat.min_le_right _ _)
theorem flEq_ofInt (n : Int) : flEq (floatOfInt .f64 n) (floatOfInt .f64 n) = true := by
  unfold flEq floatOfInt
  have h : (FloatKind.f64.format.order (FloatKind.f64.nearest n) (FloatKind.f64.nearest n)) = some .eq := order_nearest _ _ _ _
  rw [h]; rfl
/-- Is one ahead of another one. -/
def lessE (a0 a1 a2 b0 b1 b2 : Int) : Bool := if a0 = b0 then (if a1 = b1 then decide (a2 < b2) else decide (a1 < b1)) else decide (a0 < b0)
theorem less_eq (k : Nat) (a0 a1 a2 : Int) (a3 : ByteArray) (a4 : List S52) (b0 b1 b2 : Int) (b3 : ByteArray) (b4 : List S52) :
    event_Less.f (k + 1) a0 a1 a2 a3 a4 b0 b1 b2 b3 b4 = some (lessE a0 a1 a2 b0 b1 b2) := by
  unfold event_Less.f event_when.f lessE
  simp only [Option.bind_some, event_Less.j0]
  by_cases h0 : a0 = b0
  · subst h0
    by_cases h1 : a1 = b1
    · subst h1
      simp [flEq_ofInt]
    · have : (a1 == b1) = false := by simp [h1]
      simp [h1]
  · simp [h0]
theorem great_l0 (a0 a1 a2 : Int) (a3 : ByteArray) (l : List S52) (hl : l.length ≤ 9223372036854775807) : ∀ (d : Nat) (n i : Int), 0 ≤ i → i + d = l.length → ∃ b, augurylaw05_GreatEvent.l0 (d + 1) n i a0 a1 a2 a3 l = some b
  | 0, n, i, h0, h1 => by
    unfold augurylaw05_GreatEvent.l0
    rw [if_neg (by omega)]
    exact ⟨_, rfl⟩
  | d + 1, n, i, h0, h1 => by
    unfold augurylaw05_GreatEvent.l0
    rw [if_pos (by omega), if_pos h0, wrap_id (n := i + 1) (by omega) (by omega)]
    split
    · exact great_l0 a0 a1 a2 a3 l hl d _ (i + 1) (by omega) (by omega)
    · exact ⟨_, rfl⟩
theorem great_ex (a0 a1 a2 : Int) (a3 : ByteArray) (l : List S52) (hl : l.length ≤ 9223372036854775807) : ∃ b, ∀ k, l.length + 1 ≤ k → augurylaw05_GreatEvent.f k a0 a1 a2 a3 l = some b := by
  obtain ⟨b, hb⟩ := great_l0 a0 a1 a2 a3 l hl l.length (wrap64 ((a3.size : Int) + (l.length : Int))) 0 (Int.le_refl _) (by omega)
  exact ⟨b, fun k hk => leO_ge (f := fun k => augurylaw05_GreatEvent.f k a0 a1 a2 a3 l) (fun k => augurylaw05_GreatEvent.mono _ _ _ _ _ k) hb hk⟩
theorem ok_len {x : S25} (h : ok25 x) : x.f4.length ≤ 9223372036854775807 := by
  have := h.2.2.2.2.1
  omega
end Go.Proofs.Ytbnjhmcbkocdjaa.Pure
namespace Go.Proofs.Ytbnjhmcbkocdjaa.Pure
open Go.Proofs.Ytbnjhmcbkocdjaa.PAll
open Go.RowKit Go.Proofs.YtbnjhmcbkocdjaaW.PrintWords Go.Proofs.YtbnjhmcbkocdjaaW.PrintLast Go.Proofs.YtbnjhmcbkocdjaaW.PrintMore
set_option linter.unusedVariables false
set_option linter.unusedSimpArgs false
def okc (c : Int) (i : Nat) : Prop := (97 ≤ c ∧ c ≤ 122) ∨ (0 < i ∧ (c = 95 ∨ (48 ≤ c ∧ c ≤ 57)))
instance (c : Int) (i : Nat) : Decidable (okc c i) := by unfold okc; exact inferInstance
def WordP (s : ByteArray) : Prop := (∀ j, j < s.size → okc (bt s j) j) ∧ 1 ≤ s.size ∧ s.size ≤ 16
instance (s : ByteArray) : Decidable (WordP s) := by unfold WordP; exact inferInstance
def wordB (s : ByteArray) : Bool := decide (WordP s)
theorem toList_nil (s : ByteArray) : s.toList = ([] : List UInt8) ↔ s.size = 0 := by
  rw [ByteArray.toList_eq]
  rw [show s.size = s.data.toList.length from (by rw [Array.length_toList]; rfl)]
  exact List.length_eq_zero_iff.symm
theorem word_bad {s : ByteArray} {i : Nat} (hi : i < s.size) (h : ¬ okc (bt s i) i) : wordB s = false := by
  unfold wordB
  exact decide_eq_false fun q => h (q.1 i hi)
theorem word_l0 (s : ByteArray) (hs : s.size ≤ 9223372036854775807) : ∀ (d i : Nat), i + d = s.size → (∀ j, j < i → okc (bt s j) j) → ∀ k, 2 * d + 1 ≤ k → event_Word.l0 k s (s.size : Int) (i : Int) = some (wordB s)
  | 0, i, hi, hp, k, hk => by
    obtain ⟨k, rfl⟩ : ∃ m, k = m + 1 := ⟨k - 1, by omega⟩
    unfold event_Word.l0
    rw [if_neg (by omega)]
    by_cases h0 : s.toList = ([] : List UInt8)
    · rw [if_pos h0]
      have h1 := (toList_nil s).1 h0
      congr 1
      unfold wordB
      exact (decide_eq_false fun q => by have := q.2.1; omega).symm
    · rw [if_neg h0]
      have h1 : ¬ s.size = 0 := fun q => h0 ((toList_nil s).2 q)
      congr 1
      unfold wordB
      rw [decide_eq_decide]
      constructor
      · intro h
        exact ⟨fun j hj => hp j (by omega), by omega, by omega⟩
      · intro h
        have := h.2.2
        omega
  | d + 1, i, hi, hp, k, hk => by
    obtain ⟨k, rfl⟩ : ∃ m, k = m + 2 := ⟨k - 2, by omega⟩
    have ih : okc (bt s i) i → event_Word.l0 k s (s.size : Int) (wrap64 ((i : Int) + 1)) = some (wordB s) := by
      intro h
      rw [wrap_id (n := (i : Int) + 1) (by omega) (by omega)]
      refine word_l0 s hs d (i + 1) (by omega) (fun j hj => ?_) k (by omega)
      by_cases e : j = i
      · subst e; exact h
      · exact hp j (by omega)
    unfold event_Word.l0
    rw [if_pos (by omega), if_pos (by omega), if_pos (by omega)]
    have key : ∀ b : Bool, (b = true → 97 ≤ bt s i ∧ bt s i ≤ 122) → (b = false → ¬ (97 ≤ bt s i ∧ bt s i ≤ 122)) → event_Word.j1 (k + 1) s (i : Int) (bt s (i : Int)) (s.size : Int) (i : Int) b = some (wordB s) := by
      intro b h1 h2
      unfold event_Word.j1
      cases b with
      | true =>
        rw [if_pos rfl]
        exact ih (.inl (h1 rfl))
      | false =>
        rw [if_neg (by decide)]
        have h2 := h2 rfl
        by_cases h3 : (i : Int) > 0
        · rw [if_pos h3]
          by_cases h4 : bt s i = 95
          · rw [if_pos h4]
            exact ih (.inr ⟨by omega, .inl h4⟩)
          · rw [if_neg h4]
            by_cases h5 : bt s i ≥ 48
            · rw [if_pos h5]
              by_cases h6 : bt s i ≤ 57
              · rw [if_pos h6]
                exact ih (.inr ⟨by omega, .inr ⟨h5, h6⟩⟩)
              · rw [if_neg h6, word_bad (i := i) (by omega) (by unfold okc; omega)]
            · rw [if_neg h5, word_bad (i := i) (by omega) (by unfold okc; omega)]
        · rw [if_neg h3, word_bad (i := i) (by omega) (by unfold okc; omega)]
    by_cases h7 : bt s i ≥ 97
    · rw [if_pos h7]
      exact key _ (fun h => ⟨h7, of_decide_eq_true h⟩) (fun h q => by have := of_decide_eq_false h; omega)
    · rw [if_neg h7]
      exact key _ (fun h => by cases h) (fun _ q => by omega)
theorem word_eq (s : ByteArray) (hs : s.size ≤ 9223372036854775807) (k : Nat) (hk : 2 * s.size + 1 ≤ k) : event_Word.f k s = some (wordB s) :=
  word_l0 s hs s.size 0 (by omega) (fun j hj => by omega) k hk
theorem wordr_l0 (s : ByteArray) (hs : s.size ≤ 9223372036854775807) : ∀ (d i : Nat), i + d = s.size → (∀ j, j < i → okc (bt s j) j) → ∀ k, d + 1 ≤ k → auguryref05_Word.l0 k s (i : Int) = some (wordB s)
  | 0, i, hi, hp, k, hk => by
    obtain ⟨k, rfl⟩ : ∃ m, k = m + 1 := ⟨k - 1, by omega⟩
    unfold auguryref05_Word.l0
    rw [if_neg (by omega)]
    by_cases h0 : (s.size : Int) ≥ 1
    · rw [if_pos h0]
      congr 1
      unfold wordB
      rw [decide_eq_decide]
      constructor
      · intro h
        exact ⟨fun j hj => hp j (by omega), by omega, by omega⟩
      · intro h
        have := h.2.2
        omega
    · rw [if_neg h0]
      congr 1
      unfold wordB
      exact (decide_eq_false fun q => by have := q.2.1; omega).symm
  | d + 1, i, hi, hp, k, hk => by
    obtain ⟨k, rfl⟩ : ∃ m, k = m + 1 := ⟨k - 1, by omega⟩
    have ih : okc (bt s i) i → auguryref05_Word.l0 k s (wrap64 ((i : Int) + 1)) = some (wordB s) := by
      intro h
      rw [wrap_id (n := (i : Int) + 1) (by omega) (by omega)]
      refine wordr_l0 s hs d (i + 1) (by omega) (fun j hj => ?_) k (by omega)
      by_cases e : j = i
      · subst e; exact h
      · exact hp j (by omega)
    have bad : ¬ okc (bt s i) i → some false = some (wordB s) := fun h => by rw [word_bad (i := i) (by omega) h]
    unfold auguryref05_Word.l0
    rw [if_pos (by omega), if_pos (by omega)]
    split
    · split
      · exact ih (.inl ⟨by omega, by omega⟩)
      · split
        · exact bad (by unfold okc; omega)
        · split
          · exact ih (.inr ⟨by omega, .inl (by omega)⟩)
          · split
            · exact bad (by unfold okc; omega)
            · split
              · exact bad (by unfold okc; omega)
              · exact ih (.inr ⟨by omega, .inr ⟨by omega, by omega⟩⟩)
    · split
      · exact bad (by unfold okc; omega)
      · split
        · exact ih (.inr ⟨by omega, .inl (by omega)⟩)
        · split
          · exact bad (by unfold okc; omega)
          · split
            · exact bad (by unfold okc; omega)
            · exact ih (.inr ⟨by omega, .inr ⟨by omega, by omega⟩⟩)
theorem wordr_eq (s : ByteArray) (hs : s.size ≤ 9223372036854775807) (k : Nat) (hk : s.size + 1 ≤ k) : auguryref05_Word.f k s = some (wordB s) :=
  wordr_l0 s hs s.size 0 (by omega) (fun j hj => by omega) k hk
end Go.Proofs.Ytbnjhmcbkocdjaa.Pure
namespace Go.Proofs.Ytbnjhmcbkocdjaa.PAll
open Go.RowKit Go.Proofs.YtbnjhmcbkocdjaaW.PrintWords Go.Proofs.YtbnjhmcbkocdjaaW.PrintLast Go.Proofs.YtbnjhmcbkocdjaaW.PrintMore
set_option linter.unusedVariables false
set_option linter.unusedSimpArgs false

def Bytes (l : List Int) : Prop := ∀ x ∈ l, 0 ≤ x ∧ x < 256
theorem bytes_of_wf {l : List Int} (h : ∀ x ∈ l, (Lit.int .u8 x).wf = true) : Bytes l := by
  intro x hx
  have := h x hx
  simp [Lit.wf, IntKind.min, IntKind.max, IntKind.bits, IntKind.signed] at this
  omega
theorem rd_byte {l : List Int} (h : Bytes l) (i : Int) : 0 ≤ rd l i ∧ rd l i < 256 := by
  unfold rd
  by_cases hi : i.toNat < l.length
  · rw [List.getD_eq_getElem?_getD, List.getElem?_eq_getElem hi]
    exact h _ (List.getElem_mem hi)
  · rw [List.getD_eq_getElem?_getD, List.getElem?_eq_none (by omega)]
    decide
theorem bytes_drop {l : List Int} (h : Bytes l) (n : Nat) : Bytes (l.drop n) := fun x hx => h x (List.mem_of_mem_drop hx)
theorem wrap_in {n : Int} (h0 : -9223372036854775808 ≤ n) (h1 : n ≤ 9223372036854775807) : wrap64 n = n := by unfold wrap64; omega
theorem wrap_u64 (n : Int) : IntKind.u64.wrap n = n % 18446744073709551616 := by simp [IntKind.wrap, IntKind.bits, IntKind.signed]
theorem u64_in {n : Int} (h0 : 0 ≤ n) (h1 : n < 2 ^ 63) : IntKind.u64.wrap n = n := by
  rw [wrap_u64]
  omega
theorem or_low (n m s : Nat) (hn : n < 2 ^ s) (hm : m < 128) (hs : s ≤ 49) : bits .or .u64 (n : Int) (((m * 2 ^ s : Nat)) : Int) = ((n + m * 2 ^ s : Nat) : Int) := by
  have h2 : 2 ^ s ≤ 2 ^ 49 := Nat.pow_le_pow_right (by decide) hs
  have h3 : m * 2 ^ s < 2 ^ 63 := by
    have : m * 2 ^ s ≤ 127 * 2 ^ 49 := Nat.mul_le_mul (by omega) h2
    omega
  rw [(bits_nat .u64 63 (by decide) (fun n h0 h1 => u64_in h0 h1) n (m * 2 ^ s) (by omega) h3).2]
  rw [Nat.or_comm, Nat.mul_comm, ← Nat.two_pow_add_eq_or_of_lt hn m, Nat.add_comm]
theorem bitsE (i n b : Int) (hi0 : 0 ≤ i) (hi : i ≤ 6) (hn0 : 0 ≤ n) (hn : n < 2 ^ (7 * i).toNat) (hb0 : 0 ≤ b) (hb : b < 256) :
    bits .or .u64 n (shl .u64 (IntKind.u64.wrap (bits .and .u8 b 127)) (wrap64 (7 * i))) = n + b % 128 * 2 ^ (7 * i).toNat := by
  have e1 : bits .and .u8 b 127 = b % 128 := bits_mask .u8 8 (by decide) wraps_u8 7 (by decide) b hb0 hb
  rw [e1, u64_in (by omega) (by omega), wrap_in (by omega) (by omega)]
  obtain ⟨m, hm⟩ := Int.eq_ofNat_of_zero_le (show 0 ≤ b % 128 by omega)
  obtain ⟨a, ha⟩ := Int.eq_ofNat_of_zero_le hn0
  obtain ⟨s, hs⟩ : ∃ s : Nat, (7 * i).toNat = s := ⟨_, rfl⟩
  rw [hs] at hn ⊢
  have hs6 : s ≤ 42 := by omega
  have hsm : min s 64 = s := by omega
  have h2 : 2 ^ s ≤ 2 ^ 42 := Nat.pow_le_pow_right (by decide) hs6
  have hlt : m * 2 ^ s < 2 ^ 63 := by
    have : m * 2 ^ s ≤ 127 * 2 ^ 42 := Nat.mul_le_mul (by omega) h2
    omega
  rw [hm, ha]
  unfold shl
  rw [hs]
  simp only [IntKind.bits, hsm]
  have ec : ((m : Int) * 2 ^ s) = ((m * 2 ^ s : Nat) : Int) := by push_cast; rfl
  rw [ec, u64_in (by omega) (by exact_mod_cast hlt)]
  have hn' : a < 2 ^ s := by
    rw [ha] at hn
    exact_mod_cast hn
  have := or_low a m s hn' (by omega) (by omega)
  rw [this]
  push_cast
  rfl

/-- The number of the digits from i on, up to the seventh. -/
def numG (l : List Int) : Nat → Int → Int → Option (Int × Int × Bool)
  | 0, _, _ => none
  | d + 1, i, n => if i < (l.length : Int) then (if rd l i < 128 then some (n + rd l i % 128 * 2 ^ (7 * i).toNat, i + 1, decide (i = 0) || decide (rd l i > 0)) else numG l d (i + 1) (n + rd l i % 128 * 2 ^ (7 * i).toNat)) else none

theorem step_lt (i n b : Int) (hi0 : 0 ≤ i) (hi : i ≤ 6) (hn0 : 0 ≤ n) (hn : n < 2 ^ (7 * i).toNat) :
    0 ≤ n + b % 128 * 2 ^ (7 * i).toNat ∧ n + b % 128 * 2 ^ (7 * i).toNat < 2 ^ (7 * (i + 1)).toNat := by
  have e : (7 * (i + 1)).toNat = (7 * i).toNat + 7 := by omega
  rw [e, Int.pow_add]
  obtain ⟨p, hp⟩ : ∃ p : Int, (2 : Int) ^ (7 * i).toNat = p := ⟨_, rfl⟩
  rw [hp] at hn ⊢
  have h1 : 0 ≤ b % 128 := by omega
  have h2 : b % 128 ≤ 127 := by omega
  have h3 : 0 ≤ b % 128 * p := Int.mul_nonneg h1 (by omega)
  have h4 : b % 128 * p ≤ 127 * p := Int.mul_le_mul_of_nonneg_right h2 (by omega)
  omega
theorem pow_small (i : Int) (hi : i ≤ 7) : (2 : Int) ^ (7 * i).toNat ≤ 562949953421312 := by
  have h : 2 ^ (7 * i).toNat ≤ 562949953421312 := Nat.le_trans (show 2 ^ (7 * i).toNat ≤ 2 ^ 49 from Nat.pow_le_pow_right (by decide) (by omega)) (by decide)
  rw [show ((2 : Int) ^ (7 * i).toNat) = ((2 ^ (7 * i).toNat : Nat) : Int) from (Int.natCast_pow 2 _).symm]
  exact Int.ofNat_le.2 h

theorem numG_bound (l : List Int) : ∀ (d : Nat) (i n : Int), 0 ≤ i → i + d = 7 → 0 ≤ n → n < 2 ^ (7 * i).toNat → ∀ m j fl, numG l d i n = some (m, j, fl) → 0 ≤ m ∧ m < 562949953421312 ∧ 1 ≤ j ∧ j ≤ 7 ∧ j ≤ l.length := by
  intro d
  induction d with
  | zero => intro i n _ _ _ _ m j fl h; simp [numG] at h
  | succ d ih =>
    intro i n hi0 hid hn0 hn m j fl h
    have hs := step_lt i n (rd l i) hi0 (by omega) hn0 hn
    have hp := pow_small (i + 1) (by omega)
    rw [numG] at h
    by_cases c : i < (l.length : Int)
    · rw [if_pos c] at h
      by_cases c2 : rd l i < 128
      · rw [if_pos c2] at h
        simp only [Option.some.injEq, Prod.mk.injEq] at h
        obtain ⟨rfl, rfl, rfl⟩ := h
        exact ⟨hs.1, by omega, by omega, by omega, by omega⟩
      · rw [if_neg c2] at h
        exact ih (i + 1) _ (by omega) (by omega) hs.1 hs.2 m j fl h
    · rw [if_neg c] at h; cases h

theorem number_l0 (l : List Int) (hb : Bytes l) (hl : l.length ≤ 140737488355328) : ∀ (d k : Nat) (i n : Int), 0 ≤ i → i + d = 7 → 0 ≤ n → n < 2 ^ (7 * i).toNat → d < k →
    value_number.l0 k l n (mn (l.length : Int) 7) i = some ((numG l d i n).getD (0, 0, false)) := by
  intro d
  induction d with
  | zero =>
    intro k i n hi0 hid hn0 hn hk
    obtain ⟨k, rfl⟩ : ∃ m, k = m + 1 := ⟨k - 1, by omega⟩
    simp only [value_number.l0]
    rw [if_neg (by unfold mn; split <;> omega)]
    rfl
  | succ d ih =>
    intro k i n hi0 hid hn0 hn hk
    obtain ⟨k, rfl⟩ : ∃ m, k = m + 1 := ⟨k - 1, by omega⟩
    have hby := rd_byte hb i
    have hs := step_lt i n (rd l i) hi0 (by omega) hn0 hn
    simp only [value_number.l0]
    by_cases c : i < (l.length : Int)
    · rw [if_pos (by unfold mn; split <;> omega), if_pos hi0, if_pos c, wrap_in (n := 7 * i) (by omega) (by omega), if_pos (by omega)]
      have hE := bitsE i n (rd l i) hi0 (by omega) hn0 hn hby.1 hby.2
      rw [wrap_in (n := 7 * i) (by omega) (by omega)] at hE
      rw [hE, wrap_in (n := i + 1) (by omega) (by omega), numG, if_pos c]
      by_cases c2 : rd l i < 128
      · rw [if_pos c2, if_pos c2]
        by_cases c3 : i = 0
        · rw [if_pos c3]; simp [c3]
        · rw [if_neg c3]; simp [c3]
      · rw [if_neg c2, if_neg c2]
        exact ih k (i + 1) _ (by omega) (by omega) hs.1 hs.2 (by omega)
    · rw [if_neg (by unfold mn; split <;> omega), numG, if_neg c]
      rfl

/-- What the document's loop tells of it. -/
def numR (most : Int) : Option (Int × Int × Bool) → Int × Int × Bool
  | none => (0, 0, false)
  | some (m, j, fl) => if m > most then (0, 0, false) else if fl = true then (m, j, true) else (0, 0, false)

theorem number_ref (l : List Int) (hb : Bytes l) (most : Int) (hl : l.length ≤ 140737488355328) : ∀ (d k : Nat) (i n : Int), 0 ≤ i → i + d = 7 → 0 ≤ n → n < 2 ^ (7 * i).toNat → 2 * d + 1 < k →
    auguryref04_Number.l0 k l most n (2 ^ (7 * i).toNat) i = some (numR most (numG l d i n)) := by
  intro d
  induction d with
  | zero =>
    intro k i n hi0 hid hn0 hn hk
    obtain ⟨k, rfl⟩ : ∃ m, k = m + 2 := ⟨k - 2, by omega⟩
    simp only [auguryref04_Number.l0]
    have e7 : decide (i < 7) = false := decide_eq_false (by omega)
    rw [e7]
    by_cases c : i < (l.length : Int)
    · rw [if_pos c]; simp [auguryref04_Number.j1, numG, numR]
    · rw [if_neg c]; simp [auguryref04_Number.j1, numG, numR]
  | succ d ih =>
    intro k i n hi0 hid hn0 hn hk
    obtain ⟨k, rfl⟩ : ∃ m, k = m + 2 := ⟨k - 2, by omega⟩
    have hby := rd_byte hb i
    have hs := step_lt i n (rd l i) hi0 (by omega) hn0 hn
    have hp := pow_small (i + 1) (by omega)
    simp only [auguryref04_Number.l0]
    have e7 : decide (i < 7) = true := decide_eq_true (by omega)
    rw [e7]
    by_cases c : i < (l.length : Int)
    · rw [if_pos c]
      have ht : Int.tmod (rd l i) 128 = rd l i % 128 := Int.tmod_eq_emod_of_nonneg hby.1
      have hm0 : 0 ≤ rd l i % 128 * 2 ^ (7 * i).toNat := by have := hs.1; have h1 : 0 ≤ rd l i % 128 := by omega
                                                            exact Int.mul_nonneg h1 (by omega)
      have w1 : wrap64 (rd l i % 128) = rd l i % 128 := wrap_in (by omega) (by omega)
      have w2 : wrap64 (rd l i % 128 * 2 ^ (7 * i).toNat) = rd l i % 128 * 2 ^ (7 * i).toNat := wrap_in (by omega) (by omega)
      have w3 : wrap64 (n + rd l i % 128 * 2 ^ (7 * i).toNat) = n + rd l i % 128 * 2 ^ (7 * i).toNat := wrap_in (by omega) (by omega)
      have w4 : wrap64 (i + 1) = i + 1 := wrap_in (by omega) (by omega)
      have e8 : (2 : Int) ^ (7 * (i + 1)).toNat = 2 ^ (7 * i).toNat * 128 := by
        rw [show (7 * (i + 1)).toNat = (7 * i).toNat + 7 by omega, Int.pow_add]; rfl
      have w5 : wrap64 ((2 : Int) ^ (7 * i).toNat * 128) = 2 ^ (7 * (i + 1)).toNat := by rw [← e8]; exact wrap_in (by omega) (by omega)
      simp only [auguryref04_Number.j1, if_true, ht, w1, w2, w3, w4, w5]
      rw [if_pos hi0, if_pos c, numG, if_pos c]
      by_cases c2 : rd l i < 128
      · rw [if_pos c2, if_pos c2]
        simp only [numR]
        by_cases c4 : n + rd l i % 128 * 2 ^ (7 * i).toNat > most
        · rw [if_pos c4, if_pos c4]
        · rw [if_neg c4, if_neg c4]
          by_cases c5 : i > 0
          · rw [if_pos c5]
            by_cases c6 : rd l i = 0
            · rw [if_pos c6]
              have : (decide (i = 0) || decide (rd l i > 0)) = false := by simp [c6]; omega
              rw [this]; simp
            · rw [if_neg c6]
              have : (decide (i = 0) || decide (rd l i > 0)) = true := by simp; omega
              rw [this]; simp
          · rw [if_neg c5]
            have : (decide (i = 0) || decide (rd l i > 0)) = true := by simp; omega
            rw [this]; simp
      · rw [if_neg c2, if_neg c2]
        exact ih k (i + 1) _ (by omega) (by omega) hs.1 hs.2 (by omega)
    · rw [if_neg c, numG, if_neg c]
      simp [auguryref04_Number.j1, numR]

theorem value_number_eq (l : List Int) (hb : Bytes l) (hl : l.length ≤ 140737488355328) (k : Nat) (hk : 7 < k) : value_number.f k l = some ((numG l 7 0 0).getD (0, 0, false)) := by
  unfold value_number.f
  exact number_l0 l hb hl 7 k 0 0 (by omega) (by omega) (by omega) (by decide) hk
theorem ref_number_eq (l : List Int) (hb : Bytes l) (hl : l.length ≤ 140737488355328) (most : Int) (k : Nat) (hk : 15 < k) : auguryref04_Number.f k l most = some (numR most (numG l 7 0 0)) := by
  unfold auguryref04_Number.f
  exact number_ref l hb most hl 7 k 0 0 (by omega) (by omega) (by omega) (by decide) hk
end Go.Proofs.Ytbnjhmcbkocdjaa.PAll
namespace Go.Proofs.Ytbnjhmcbkocdjaa.PAll
open Go.RowKit Go.Proofs.YtbnjhmcbkocdjaaW.PrintWords Go.Proofs.YtbnjhmcbkocdjaaW.PrintLast Go.Proofs.YtbnjhmcbkocdjaaW.PrintMore
set_option linter.unusedVariables false
set_option linter.unusedSimpArgs false

theorem right_eq (k n : Int) (s : ByteArray) : value_Right.f k n s = auguryref04_Right.f k n s := by
  unfold value_Right.f auguryref04_Right.f
  by_cases h1 : k = 1
  · simp [h1]
  · by_cases h2 : k = 2
    · simp [h2]
    · by_cases h3 : k = 3 <;> simp [h1, h2, h3]
/-- May that be a value? -/
def okVal (k n : Int) (s : ByteArray) : Bool :=
  if k = 1 then decide (-1099511627776 ≤ n) && (decide (n ≤ 1099511627776) && (s.toList == ([] : List UInt8)))
  else if k = 2 then decide (n = 0) && decide ((s.size : Int) ≤ 64)
  else if k = 3 then decide (0 ≤ n) && (decide (n ≤ 1) && (s.toList == ([] : List UInt8))) else false
theorem right_ok (k n : Int) (s : ByteArray) : value_Right.f k n s = some (okVal k n s) := by
  unfold value_Right.f okVal
  by_cases h1 : k = 1
  · rw [if_pos h1, if_pos h1]
    by_cases a : n ≥ -1099511627776
    · rw [if_pos a, decide_eq_true (show -1099511627776 ≤ n from a), Bool.true_and]
      by_cases b : n ≤ 1099511627776
      · rw [if_pos b, decide_eq_true b, Bool.true_and]
      · rw [if_neg b, decide_eq_false b, Bool.false_and]
    · rw [if_neg a, decide_eq_false (show ¬ -1099511627776 ≤ n from a), Bool.false_and]
  · rw [if_neg h1, if_neg h1]
    by_cases h3 : k = 3
    · have h2 : ¬ k = 2 := by omega
      rw [if_pos h3, if_neg h2, if_pos h3]
      by_cases a : n ≥ 0
      · rw [if_pos a, decide_eq_true (show 0 ≤ n from a), Bool.true_and]
        by_cases b : n ≤ 1
        · rw [if_pos b, decide_eq_true b, Bool.true_and]
        · rw [if_neg b, decide_eq_false b, Bool.false_and]
      · rw [if_neg a, decide_eq_false (show ¬ 0 ≤ n from a), Bool.false_and]
    · rw [if_neg h3]
      by_cases h2 : k = 2
      · rw [if_pos h2, if_pos h2]
        by_cases a : n = 0
        · rw [if_pos a, decide_eq_true a, Bool.true_and]
        · rw [if_neg a, decide_eq_false a, Bool.false_and]
      · rw [if_neg h2, if_neg h2, if_neg h3]
theorem ref_right_ok (k n : Int) (s : ByteArray) : auguryref04_Right.f k n s = some (okVal k n s) := (right_eq k n s).symm.trans (right_ok k n s)

theorem i64_toNat (x : Int) : (BitVec.ofInt 64 x).toNat = (x % 18446744073709551616).toNat := by
  rw [BitVec.toNat_ofInt]
  rfl
theorem xor_zero (x : Int) (h0 : 0 ≤ x) (h1 : x < 4611686018427387904) : bits .xor .i64 x 0 = x := by
  have e : bits .xor .i64 x 0 = IntKind.i64.wrap ((BitVec.ofInt 64 x ^^^ BitVec.ofInt 64 0).toNat : Int) := rfl
  rw [e, show BitVec.ofInt 64 0 = 0#64 from rfl, BitVec.xor_zero, i64_toNat, IntKind.wrap_i64]
  omega
theorem xor_ones (x : Int) (h0 : 0 ≤ x) (h1 : x < 4611686018427387904) : bits .xor .i64 x (-1) = -x - 1 := by
  have e : bits .xor .i64 x (-1) = IntKind.i64.wrap ((BitVec.ofInt 64 x ^^^ BitVec.ofInt 64 (-1)).toNat : Int) := rfl
  rw [e, show BitVec.ofInt 64 (-1) = BitVec.allOnes 64 from rfl, BitVec.xor_allOnes, BitVec.toNat_not, i64_toNat, IntKind.wrap_i64]
  omega
theorem and_one (m : Int) (h0 : 0 ≤ m) (h1 : m < 2 ^ 63) : bits .and .u64 m 1 = m % 2 :=
  bits_mask .u64 63 (by decide) (fun n a b => u64_in a b) 1 (by decide) m h0 h1
/-- A number out of its digits' sum. -/
def zz (m : Int) : Int := if m % 2 = 1 then -(m / 2) - 1 else m / 2
theorem zz_eq (m : Int) (h0 : 0 ≤ m) (h1 : m < 562949953421312) : bits .xor .i64 (wrap64 (m / 2)) (wrap64 (-(wrap64 (bits .and .u64 m 1)))) = zz m := by
  rw [and_one m h0 (by omega), wrap_in (n := m / 2) (by omega) (by omega), wrap_in (n := m % 2) (by omega) (by omega)]
  unfold zz
  by_cases h : m % 2 = 1
  · rw [if_pos h, h, wrap_in (n := -1) (by omega) (by omega), xor_ones _ (by omega) (by omega)]
  · rw [if_neg h, show m % 2 = 0 by omega, show wrap64 (-0) = 0 from by unfold wrap64; omega]
    exact xor_zero _ (by omega) (by omega)

theorem get_eq (l : List Int) (hb : Bytes l) (hl : l.length ≤ 1000000) (k : Nat) (hk : 15 < k) : ∃ r, value_Get.f k l = some r ∧ auguryref04_Get.f k l = some r := by
  have h0 := rd_byte hb 0
  have h1 := rd_byte hb 1
  have w0 : wrap64 (rd l 0) = rd l 0 := wrap_in (by omega) (by omega)
  have w1 : wrap64 (rd l 1) = rd l 1 := wrap_in (by omega) (by omega)
  have w2 : wrap64 (2 + rd l 1) = 2 + rd l 1 := wrap_in (by omega) (by omega)
  have w3 : wrap64 ((l.length : Int) - 2) = (l.length : Int) - 2 := wrap_in (by omega) (by omega)
  have hd := bytes_drop hb 1
  have hld : (l.drop 1).length ≤ 140737488355328 := by rw [List.length_drop]; omega
  unfold value_Get.f auguryref04_Get.f
  simp only [w0, w1, w2, w3, right_ok, ref_right_ok, Option.bind_some]
  by_cases c1 : (l.length : Int) < 2
  · simp only [if_pos c1]; exact ⟨_, rfl, rfl⟩
  simp only [if_neg c1]
  rw [if_pos (show 0 < (l.length : Int) by omega), if_pos (show 0 < (l.length : Int) by omega)]
  by_cases c2 : rd l 0 = 1
  · simp only [if_pos c2]
    rw [if_pos (show 1 ≤ (l.length : Int) by omega), if_pos (show 1 ≤ (l.length : Int) by omega)]
    rw [value_number_eq _ hd hld k (by omega), ref_number_eq _ hd hld _ k hk]
    simp only [Option.bind_some]
    cases hg : numG (l.drop 1) 7 0 0 with
    | none => simp [numR]
    | some t =>
      obtain ⟨m, j, fl⟩ := t
      obtain ⟨b0, b1, b2, b3, _⟩ := numG_bound (l.drop 1) 7 0 0 (by omega) (by omega) (by omega) (by decide) m j fl hg
      simp only [Option.getD_some, numR]
      rw [zz_eq m b0 b1, wrap_in (n := 1 + j) (by omega) (by omega)]
      cases fl with
      | false =>
        simp only [Bool.false_eq_true, if_false]
        by_cases c3 : m > 2199023255552
        · simp [if_pos c3]
        · simp [if_neg c3]
      | true =>
        simp only [if_true]
        by_cases c3 : m > 2199023255552
        · simp only [if_pos c3, Bool.false_eq_true, if_false]
          have : okVal (rd l 0) (zz m) ⟨#[]⟩ = false := by
            rw [c2]
            unfold okVal zz
            rw [if_pos rfl]
            by_cases c4 : m % 2 = 1
            · rw [if_pos c4]; simp; omega
            · rw [if_neg c4]; simp; omega
          rw [this]
          exact ⟨_, rfl, rfl⟩
        · simp only [if_neg c3, if_true]
          have t2 : Int.tmod m 2 = m % 2 := Int.tmod_eq_emod_of_nonneg b0
          have t3 : Int.tdiv m 2 = m / 2 := Int.tdiv_eq_ediv_of_nonneg b0
          rw [t2, t3, wrap_in (n := m / 2) (by omega) (by omega), wrap_in (n := -(m / 2)) (by omega) (by omega), wrap_in (n := -(m / 2) - 1) (by omega) (by omega), wrap_in (n := 1 + j) (by omega) (by omega)]
          by_cases c4 : m % 2 = 1
          · rw [if_pos c4, show zz m = -(m / 2) - 1 from if_pos c4]
            cases okVal (rd l 0) (-(m / 2) - 1) ⟨#[]⟩ <;> exact ⟨_, rfl, rfl⟩
          · rw [if_neg c4, show zz m = m / 2 from if_neg c4]
            cases okVal (rd l 0) (m / 2) ⟨#[]⟩ <;> exact ⟨_, rfl, rfl⟩
  simp only [if_neg c2]
  by_cases c5 : rd l 0 = 2
  · simp only [if_pos c5]
    rw [if_pos (show 1 < (l.length : Int) by omega), if_pos (show 1 < (l.length : Int) by omega)]
    by_cases c6 : 2 + rd l 1 ≤ (l.length : Int)
    · rw [if_pos c6, if_pos (show 2 ≤ 2 + rd l 1 by omega), if_neg (show ¬ rd l 1 > (l.length : Int) - 2 by omega), if_pos (show 2 ≤ 2 + rd l 1 by omega), if_pos c6]
      cases okVal (rd l 0) 0 (strOfNums (List.drop 2 (List.take (2 + rd l 1).toNat l))) <;> exact ⟨_, rfl, rfl⟩
    · rw [if_neg c6, if_pos (show rd l 1 > (l.length : Int) - 2 by omega)]
      exact ⟨_, rfl, rfl⟩
  simp only [if_neg c5]
  by_cases c7 : rd l 0 = 3
  · simp only [if_pos c7]
    rw [if_pos (show 1 < (l.length : Int) by omega)]
    cases okVal (rd l 0) (rd l 1) ⟨#[]⟩ <;> exact ⟨_, rfl, rfl⟩
  · simp only [if_neg c7]
    cases okVal (rd l 0) 0 ⟨#[]⟩ <;> exact ⟨_, rfl, rfl⟩
end Go.Proofs.Ytbnjhmcbkocdjaa.PAll
namespace Go.Proofs.Ytbnjhmcbkocdjaa.PAll
open Go.RowKit Go.Proofs.YtbnjhmcbkocdjaaW.PrintWords Go.Proofs.YtbnjhmcbkocdjaaW.PrintLast Go.Proofs.YtbnjhmcbkocdjaaW.PrintMore
set_option linter.unusedVariables false
set_option linter.unusedSimpArgs false

theorem ok_int {n : Int} {s : ByteArray} (h : okVal 1 n s = true) : -1099511627776 ≤ n ∧ n ≤ 1099511627776 ∧ s.toList = [] := by
  unfold okVal at h
  rw [if_pos rfl] at h
  simp at h
  exact ⟨h.1, h.2.1, by simpa using h.2.2⟩
theorem ok_text {n : Int} {s : ByteArray} (h : okVal 2 n s = true) : n = 0 ∧ s.size ≤ 64 := by
  unfold okVal at h
  rw [if_neg (by decide), if_pos rfl] at h
  simp at h
  exact ⟨h.1, by omega⟩
theorem ok_bool {n : Int} {s : ByteArray} (h : okVal 3 n s = true) : 0 ≤ n ∧ n ≤ 1 ∧ s.toList = [] := by
  unfold okVal at h
  rw [if_neg (by decide), if_neg (by decide), if_pos rfl] at h
  simp at h
  exact ⟨h.1, h.2.1, by simpa using h.2.2⟩
theorem ok_kind {k n : Int} {s : ByteArray} (h : okVal k n s = true) : k = 1 ∨ k = 2 ∨ k = 3 := by
  unfold okVal at h
  by_cases h1 : k = 1
  · exact .inl h1
  · by_cases h2 : k = 2
    · exact .inr (.inl h2)
    · by_cases h3 : k = 3
      · exact .inr (.inr h3)
      · simp [h1, h2, h3] at h
theorem ok_of_int {n : Int} (h : -1099511627776 ≤ n ∧ n ≤ 1099511627776) : okVal 1 n ⟨#[]⟩ = true := by
  unfold okVal
  rw [if_pos rfl, decide_eq_true h.1, decide_eq_true h.2, ByteArray.toList_eq]
  rfl
theorem not_ok_int {n : Int} (h : ¬ (-1099511627776 ≤ n ∧ n ≤ 1099511627776)) (s : ByteArray) : okVal 1 n s = false := by
  cases c : okVal 1 n s with
  | false => rfl
  | true => have := ok_int c; omega

/-! The digits. -/
def digS : Nat → Int → List Int
  | 0, n => [n]
  | d + 1, n => if n > 127 then (n % 128 + 128) :: digS d (n / 128) else [n]
theorem or128 (n : Int) (h0 : 0 ≤ n) : bits .or .u8 (n % 256) 128 = n % 128 + 128 := by
  have h : ∀ x : Fin 256, bits .or .u8 (x.val : Int) 128 = (x.val : Int) % 128 + 128 := by decide +kernel
  obtain ⟨m, hm⟩ := Int.eq_ofNat_of_zero_le (show 0 ≤ n % 256 by omega)
  have := h ⟨m, by omega⟩
  simp only at this
  rw [hm, this]
  omega
theorem digS_length (d : Nat) : ∀ n, (digS d n).length ≤ d + 1 := by
  induction d with
  | zero => intro n; simp [digS]
  | succ d ih =>
    intro n
    unfold digS
    split
    · have := ih (n / 128); simp; omega
    · simp
theorem pow7 (d : Nat) : (2 : Int) ^ (7 * (d + 1)) = 128 * 2 ^ (7 * d) := by
  rw [show 7 * (d + 1) = 7 * d + 7 by omega, Int.pow_add, Int.mul_comm]; rfl
theorem put_l0 : ∀ (d k : Nat) (n : Int) (acc : List Int), 0 ≤ n → n < 2 ^ (7 * (d + 1)) → d < k → acc.length + d < 1000 → value_Put.l0 k acc n = some (acc ++ digS d n) := by
  intro d
  induction d with
  | zero =>
    intro k n acc h0 h1 hk ha
    obtain ⟨k, rfl⟩ : ∃ m, k = m + 1 := ⟨k - 1, by omega⟩
    have h2 : n < 128 := h1
    simp only [value_Put.l0, digS]
    rw [if_neg (by omega), if_pos (by omega), Int.emod_eq_of_lt h0 (by omega)]
  | succ d ih =>
    intro k n acc h0 h1 hk ha
    obtain ⟨k, rfl⟩ : ∃ m, k = m + 1 := ⟨k - 1, by omega⟩
    simp only [value_Put.l0, digS]
    by_cases c : n > 127
    · rw [if_pos c, if_pos (by omega), if_pos c, or128 n h0]
      have h2 : n / 128 < 2 ^ (7 * (d + 1)) := by rw [pow7] at h1; omega
      rw [ih k (n / 128) _ (by omega) h2 (by omega) (by simp; omega)]
      simp
    · rw [if_neg c, if_pos (by omega), if_neg c, Int.emod_eq_of_lt h0 (by omega)]
theorem ref_digits_l0 : ∀ (d k : Nat) (n : Int) (acc : List Int), 0 ≤ n → n < 2 ^ (7 * (d + 1)) → n < 9223372036854775807 → d < k → acc.length + d < 1000 → auguryref04_Digits.l0 k n acc = some (acc ++ digS d n) := by
  intro d
  induction d with
  | zero =>
    intro k n acc h0 h1 _ hk ha
    obtain ⟨k, rfl⟩ : ∃ m, k = m + 1 := ⟨k - 1, by omega⟩
    have h2 : n < 128 := h1
    simp only [auguryref04_Digits.l0, digS]
    rw [if_neg (by omega), if_pos (by omega), Int.emod_eq_of_lt h0 (by omega)]
  | succ d ih =>
    intro k n acc h0 h1 h3 hk ha
    obtain ⟨k, rfl⟩ : ∃ m, k = m + 1 := ⟨k - 1, by omega⟩
    simp only [auguryref04_Digits.l0, digS]
    by_cases c : n > 127
    · have t2 : Int.tmod n 128 = n % 128 := Int.tmod_eq_emod_of_nonneg h0
      have t3 : Int.tdiv n 128 = n / 128 := Int.tdiv_eq_ediv_of_nonneg h0
      rw [if_pos (by omega), if_pos (by omega), if_pos c, t2, t3, wrap_in (n := n / 128) (by omega) (by omega), Int.emod_eq_of_lt (a := n % 128 + 128) (by omega) (by omega)]
      have h2 : n / 128 < 2 ^ (7 * (d + 1)) := by rw [pow7] at h1; omega
      rw [ih k (n / 128) _ (by omega) h2 (by omega) (by omega) (by simp; omega)]
      simp
    · rw [if_neg (by omega), if_pos (by omega), if_neg c, Int.emod_eq_of_lt h0 (by omega)]

/-- A number, as it is written. -/
def zzE (n : Int) : Int := if n < 0 then -2 * n - 1 else 2 * n
theorem xor_gen0 (x : Int) (h0 : -4611686018427387904 ≤ x) (h1 : x < 4611686018427387904) : bits .xor .i64 x 0 = x := by
  have e : bits .xor .i64 x 0 = IntKind.i64.wrap ((BitVec.ofInt 64 x ^^^ BitVec.ofInt 64 0).toNat : Int) := rfl
  rw [e, show BitVec.ofInt 64 0 = 0#64 from rfl, BitVec.xor_zero, i64_toNat, IntKind.wrap_i64]
  omega
theorem xor_gen1 (x : Int) (h0 : -4611686018427387904 ≤ x) (h1 : x < 4611686018427387904) : bits .xor .i64 x (-1) = -x - 1 := by
  have e : bits .xor .i64 x (-1) = IntKind.i64.wrap ((BitVec.ofInt 64 x ^^^ BitVec.ofInt 64 (-1)).toNat : Int) := rfl
  rw [e, show BitVec.ofInt 64 (-1) = BitVec.allOnes 64 from rfl, BitVec.xor_allOnes, BitVec.toNat_not, i64_toNat, IntKind.wrap_i64]
  omega
theorem zzE_eq (n : Int) (h0 : -1099511627776 ≤ n) (h1 : n ≤ 1099511627776) : IntKind.u64.wrap (bits .xor .i64 (wrap64 (n * 2)) (n / 9223372036854775808)) = zzE n := by
  rw [wrap_in (n := n * 2) (by omega) (by omega)]
  unfold zzE
  by_cases c : n < 0
  · rw [if_pos c, show n / 9223372036854775808 = -1 by omega, xor_gen1 _ (by omega) (by omega), wrap_u64]; omega
  · rw [if_neg c, show n / 9223372036854775808 = 0 by omega, xor_gen0 _ (by omega) (by omega), wrap_u64]; omega
def putS (k n : Int) (s : ByteArray) : List Int :=
  if okVal k n s = true then k :: (if k = 1 then digS 5 (zzE n) else if k = 2 then (s.size : Int) :: bytesOf s else [n]) else []
theorem zzE_lt (n : Int) (h0 : -1099511627776 ≤ n) (h1 : n ≤ 1099511627776) : 0 ≤ zzE n ∧ zzE n ≤ 2199023255552 := by
  unfold zzE
  split <;> omega
theorem put_eq (k : Nat) (hk : 5 < k) (kd n : Int) (s : ByteArray) : value_Put.f k kd n s = some (putS kd n s) := by
  unfold value_Put.f putS
  rw [right_ok]
  simp only [Option.bind_some]
  cases c : okVal kd n s with
  | false => simp
  | true =>
    simp only [if_true]
    rcases ok_kind c with rfl | rfl | rfl
    · have b := ok_int c
      have b2 := zzE_lt n b.1 b.2.1
      have hp : (2 : Int) ^ (7 * (5 + 1)) = 4398046511104 := rfl
      rw [if_neg (by decide), if_neg (by decide), zzE_eq n b.1 b.2.1, put_l0 5 k _ _ b2.1 (by omega) hk (by simp)]
      rfl
    · have b := ok_text c
      rw [if_pos rfl, if_pos (by simp), if_pos (by simp; omega), if_neg (by decide), if_pos rfl]
      rw [Int.emod_eq_of_lt (a := (s.size : Int)) (by omega) (by omega)]
      rfl
    · have b := ok_bool c
      rw [if_neg (by decide), if_pos rfl, if_pos (by simp), if_neg (by decide), if_neg (by decide), Int.emod_eq_of_lt (a := n) (by omega) (by omega)]
      rfl
theorem ref_put_eq (k : Nat) (hk : 5 < k) (kd n : Int) (s : ByteArray) : auguryref04_Put.f k kd n s = some (putS kd n s) := by
  unfold auguryref04_Put.f putS
  rw [ref_right_ok]
  simp only [Option.bind_some]
  cases c : okVal kd n s with
  | false => simp
  | true =>
    simp only [if_true]
    rcases ok_kind c with rfl | rfl | rfl
    · have b := ok_int c
      have b2 := zzE_lt n b.1 b.2.1
      have hp : (2 : Int) ^ (7 * (5 + 1)) = 4398046511104 := rfl
      rw [if_pos rfl, if_pos rfl]
      by_cases q : n < 0
      · rw [if_pos q, wrap_in (n := -2 * n) (by omega) (by omega), wrap_in (n := -2 * n - 1) (by omega) (by omega)]
        have e : zzE n = -2 * n - 1 := if_pos q
        rw [← e]
        unfold auguryref04_Digits.f
        rw [ref_digits_l0 5 k _ _ b2.1 (by omega) (by omega) hk (by simp)]
        have := digS_length 5 (zzE n)
        simp only [Option.bind_some, List.nil_append]
        rw [if_pos (by simp; omega)]
        rfl
      · rw [if_neg q, wrap_in (n := 2 * n) (by omega) (by omega)]
        have e : zzE n = 2 * n := if_neg q
        rw [← e]
        unfold auguryref04_Digits.f
        rw [ref_digits_l0 5 k _ _ b2.1 (by omega) (by omega) hk (by simp)]
        have := digS_length 5 (zzE n)
        simp only [Option.bind_some, List.nil_append]
        rw [if_pos (by simp; omega)]
        rfl
    · have b := ok_text c
      rw [if_neg (by decide), if_pos rfl, if_pos (by simp), if_pos (by simp; omega), if_neg (by decide), if_pos rfl]
      rw [Int.emod_eq_of_lt (a := (s.size : Int)) (by omega) (by omega)]
      rfl
    · have b := ok_bool c
      rw [if_neg (by decide), if_neg (by decide), if_pos rfl, if_pos (by simp), if_neg (by decide), if_neg (by decide), Int.emod_eq_of_lt (a := n) (by omega) (by omega)]
      rfl

/-! Comparisons. -/
end Go.Proofs.Ytbnjhmcbkocdjaa.PAll
namespace Go.Proofs.Ytbnjhmcbkocdjaa.Pure
open Go.Proofs.Ytbnjhmcbkocdjaa.PAll
open Go.RowKit Go.Proofs.YtbnjhmcbkocdjaaW.PrintWords Go.Proofs.YtbnjhmcbkocdjaaW.PrintLast Go.Proofs.YtbnjhmcbkocdjaaW.PrintMore
set_option linter.unusedVariables false
set_option linter.unusedSimpArgs false
theorem wrap_nat {i : Nat} (h : i < 9223372036854775807) : wrap64 ((i : Int) + 1) = ((i + 1 : Nat) : Int) := by rw [wrap_id (by omega) (by omega)]; omega
/-- The first value that is none. -/
def badI (l : List S52) : Nat → Nat → Int
  | 0, _ => -1
  | d + 1, i => if okVal (rd_T52 l i).f0 (rd_T52 l i).f1 (rd_T52 l i).f2 = true then badI l d (i + 1) else i
theorem bad_l0 (l : List S52) (hl : l.length ≤ 140737488351232) : ∀ (d i k : Nat), i + d = l.length → d < k → api_Val__f52_55.l0 k l (l.length : Int) (i : Int) = some (badI l d i)
  | 0, i, k, hi, hk => by
    obtain ⟨k, rfl⟩ : ∃ m, k = m + 1 := ⟨k - 1, by omega⟩
    unfold api_Val__f52_55.l0 badI
    rw [if_neg (by omega)]
  | d + 1, i, k, hi, hk => by
    obtain ⟨k, rfl⟩ : ∃ m, k = m + 1 := ⟨k - 1, by omega⟩
    unfold api_Val__f52_55.l0 badI
    rw [if_pos (by omega), if_pos (by omega), if_pos (by omega)]
    unfold event_right_1.f
    simp only [right_ok, Option.bind_some]
    cases h : okVal (rd_T52 l i).f0 (rd_T52 l i).f1 (rd_T52 l i).f2 with
    | true =>
      simp only [Bool.not_true, Bool.false_eq_true, if_false, if_true]
      rw [wrap_nat (by omega)]
      exact bad_l0 l hl d (i + 1) k (by omega) (by omega)
    | false => simp
theorem badr_l0 (l : List S52) (hl : l.length ≤ 140737488351232) (a0 a1 a2 : Int) (a3 : ByteArray) : ∀ (d i k : Nat), i + d = l.length → d < k → auguryref05_Right.l0 k (i : Int) a0 a1 a2 a3 l = some (decide (badI l d i < 0) && decide (l.length ≤ 8))
  | 0, i, k, hi, hk => by
    obtain ⟨k, rfl⟩ : ∃ m, k = m + 1 := ⟨k - 1, by omega⟩
    unfold auguryref05_Right.l0 badI
    rw [if_neg (by omega)]
    simp
    omega
  | d + 1, i, k, hi, hk => by
    obtain ⟨k, rfl⟩ : ∃ m, k = m + 1 := ⟨k - 1, by omega⟩
    unfold auguryref05_Right.l0 badI
    rw [if_pos (by omega), if_pos (by omega)]
    simp only [ref_right_ok, Option.bind_some]
    cases h : okVal (rd_T52 l i).f0 (rd_T52 l i).f1 (rd_T52 l i).f2 with
    | true =>
      simp only [if_true]
      rw [wrap_nat (by omega)]
      exact badr_l0 l hl a0 a1 a2 a3 d (i + 1) k (by omega) (by omega)
    | false =>
      have : ¬ ((i : Int) < 0) := by omega
      simp [this]
def rightB (a0 a1 a2 : Int) (a3 : ByteArray) (l : List S52) : Bool :=
  decide (0 ≤ a0 ∧ a0 ≤ 1099511627776 ∧ 0 ≤ a2 ∧ a2 ≤ 1099511627776 ∧ 0 ≤ a1 ∧ a1 ≤ 3) && (wordB a3 && (decide (l.length ≤ 8) && decide (badI l l.length 0 < 0)))
theorem within_eq (a b : Int) : event_within.f a b = some (decide (0 ≤ a ∧ a ≤ b)) := by
  unfold event_within.f
  by_cases h : a ≥ 0
  · rw [if_pos h]
    congr 1
    rw [decide_eq_decide]
    exact ⟨fun q => ⟨h, q⟩, fun q => q.2⟩
  · rw [if_neg h]
    congr 1
    exact (decide_eq_false fun q => h q.1).symm
theorem right_eq' (a0 a1 a2 : Int) (a3 : ByteArray) (l : List S52) (h3 : a3.size ≤ 140737488351232) (hl : l.length ≤ 140737488351232) (k : Nat) (hk : 300000000000000 ≤ k) :
    event_right.f k a0 a1 a2 a3 l = some (rightB a0 a1 a2 a3 l) := by
  have hb : api_Val__f52_55.l0 k l (l.length : Int) 0 = some (badI l l.length 0) := bad_l0 l hl l.length 0 k (by omega) (by omega)
  unfold event_right.f rightB api_Val__f52_51.f api_Val__f52_55.f
  rw [within_eq, within_eq, within_eq, word_eq a3 (by omega) k (by omega), hb]
  simp only [Option.bind_some]
  by_cases h0 : 0 ≤ a0 ∧ a0 ≤ 1099511627776
  · by_cases h2 : 0 ≤ a2 ∧ a2 ≤ 1099511627776
    · by_cases h1 : 0 ≤ a1 ∧ a1 ≤ 3
      · rw [decide_eq_true h0, decide_eq_true h2, decide_eq_true h1, if_pos rfl, if_pos rfl, if_pos rfl, decide_eq_true (p := 0 ≤ a0 ∧ a0 ≤ 1099511627776 ∧ 0 ≤ a2 ∧ a2 ≤ 1099511627776 ∧ 0 ≤ a1 ∧ a1 ≤ 3) ⟨h0.1, h0.2, h2.1, h2.2, h1.1, h1.2⟩, Bool.true_and]
        cases wordB a3 with
        | false => rfl
        | true =>
          rw [if_pos rfl, Bool.true_and]
          by_cases h4 : (l.length : Int) ≤ 8
          · rw [if_pos h4, decide_eq_true (show l.length ≤ 8 by omega), Bool.true_and]
            congr 1
            rw [Bool.eq_iff_iff]
            simp
          · rw [if_neg h4, decide_eq_false (show ¬ l.length ≤ 8 by omega), Bool.false_and]
      · rw [decide_eq_true h0, decide_eq_true h2, decide_eq_false h1, if_pos rfl, if_pos rfl, if_neg (by decide), decide_eq_false (p := 0 ≤ a0 ∧ a0 ≤ 1099511627776 ∧ 0 ≤ a2 ∧ a2 ≤ 1099511627776 ∧ 0 ≤ a1 ∧ a1 ≤ 3) (fun q => h1 q.2.2.2.2), Bool.false_and]
    · rw [decide_eq_true h0, decide_eq_false h2, if_pos rfl, if_neg (by decide), decide_eq_false (p := 0 ≤ a0 ∧ a0 ≤ 1099511627776 ∧ 0 ≤ a2 ∧ a2 ≤ 1099511627776 ∧ 0 ≤ a1 ∧ a1 ≤ 3) (fun q => h2 ⟨q.2.2.1, q.2.2.2.1⟩), Bool.false_and]
  · rw [decide_eq_false h0, if_neg (by decide), decide_eq_false (p := 0 ≤ a0 ∧ a0 ≤ 1099511627776 ∧ 0 ≤ a2 ∧ a2 ≤ 1099511627776 ∧ 0 ≤ a1 ∧ a1 ≤ 3) (fun q => h0 ⟨q.1, q.2.1⟩), Bool.false_and]
theorem rightr_j0 (b : Bool) (a0 a1 a2 : Int) (a3 : ByteArray) (l : List S52) (hl : l.length ≤ 140737488351232) (k : Nat) (hk : 200000000000000 ≤ k) :
    auguryref05_Right.j0 k b a0 a1 a2 a3 l = some (!b && (decide (l.length ≤ 8) && decide (badI l l.length 0 < 0))) := by
  obtain ⟨k, rfl⟩ : ∃ m, k = m + 1 := ⟨k - 1, by omega⟩
  unfold auguryref05_Right.j0
  dsimp only
  cases b with
  | true => simp
  | false =>
    have hb : auguryref05_Right.l0 k 0 a0 a1 a2 a3 l = some (decide (badI l l.length 0 < 0) && decide (l.length ≤ 8)) := badr_l0 l hl a0 a1 a2 a3 l.length 0 k (by omega) (by omega)
    rw [if_neg (by decide), hb, Bool.and_comm]
    rfl
theorem rightr_eq (a0 a1 a2 : Int) (a3 : ByteArray) (l : List S52) (h3 : a3.size ≤ 140737488351232) (hl : l.length ≤ 140737488351232) (k : Nat) (hk : 300000000000000 ≤ k) :
    auguryref05_Right.f k a0 a1 a2 a3 l = some (rightB a0 a1 a2 a3 l) := by
  have hj : ∀ b, auguryref05_Right.j0 k b a0 a1 a2 a3 l = some (!b && (decide (l.length ≤ 8) && decide (badI l l.length 0 < 0))) := fun b => rightr_j0 b a0 a1 a2 a3 l hl k (by omega)
  unfold auguryref05_Right.f rightB
  simp only [hj, wordr_eq a3 (by omega) k (by omega), Option.bind_some, Bool.not_true, Bool.false_and, Bool.not_not]
  by_cases h : 0 ≤ a0 ∧ a0 ≤ 1099511627776 ∧ 0 ≤ a2 ∧ a2 ≤ 1099511627776 ∧ 0 ≤ a1 ∧ a1 ≤ 3
  · rw [if_neg (by omega), if_neg (by omega), if_neg (by omega), if_neg (by omega), if_neg (by omega), if_neg (by omega), decide_eq_true h, Bool.true_and]
  · rw [decide_eq_false h, Bool.false_and]
    repeat' split
    all_goals first | rfl | (exfalso; omega)
/-- The place of a name among schemas, and among fields. -/
def idx31 (l : List S31) (a : ByteArray) : Nat → Nat → Int
  | 0, _ => -1
  | d + 1, i => if (rd_T31 l i).f0.toList = a.toList then i else idx31 l a d (i + 1)
def idx55 (l : List S55) (a : ByteArray) : Nat → Nat → Int
  | 0, _ => -1
  | d + 1, i => if (rd_T55 l i).f0.toList = a.toList then i else idx55 l a d (i + 1)
theorem idx31_range (l : List S31) (a : ByteArray) : ∀ d i : Nat, idx31 l a d i = -1 ∨ (0 ≤ idx31 l a d i ∧ idx31 l a d i < i + d)
  | 0, _ => .inl rfl
  | d + 1, i => by
    unfold idx31
    split
    · exact .inr ⟨by omega, by omega⟩
    · rcases idx31_range l a d (i + 1) with h | h
      · exact .inl h
      · exact .inr ⟨h.1, by omega⟩
theorem idx55_range (l : List S55) (a : ByteArray) : ∀ d i : Nat, idx55 l a d i = -1 ∨ (0 ≤ idx55 l a d i ∧ idx55 l a d i < i + d)
  | 0, _ => .inl rfl
  | d + 1, i => by
    unfold idx55
    split
    · exact .inr ⟨by omega, by omega⟩
    · rcases idx55_range l a d (i + 1) with h | h
      · exact .inl h
      · exact .inr ⟨h.1, by omega⟩
theorem idx31_l0 (l : List S31) (a : ByteArray) (hl : l.length ≤ 140737488351232) : ∀ (d i k : Nat), i + d = l.length → d < k → api_Schema__f32.l0 k l a (l.length : Int) (i : Int) = some (idx31 l a d i)
  | 0, i, k, hi, hk => by
    obtain ⟨k, rfl⟩ : ∃ m, k = m + 1 := ⟨k - 1, by omega⟩
    unfold api_Schema__f32.l0 idx31
    rw [if_neg (by omega)]
  | d + 1, i, k, hi, hk => by
    obtain ⟨k, rfl⟩ : ∃ m, k = m + 1 := ⟨k - 1, by omega⟩
    unfold api_Schema__f32.l0 idx31
    rw [if_pos (by omega), if_pos (by omega), if_pos (by omega)]
    unfold event_Find_1.f
    simp only [Option.bind_some]
    by_cases h : (rd_T31 l i).f0.toList = a.toList
    · rw [if_pos (by rw [h]; exact beq_self_eq_true _), if_pos h]
    · rw [if_neg (fun q => h (beq_iff_eq.1 q)), if_neg h, wrap_nat (by omega)]
      exact idx31_l0 l a hl d (i + 1) k (by omega) (by omega)
theorem idx55_l0 (l : List S55) (a : ByteArray) (hl : l.length ≤ 140737488351232) : ∀ (d i k : Nat), i + d = l.length → d < k → api_Field__f34.l0 k l a (l.length : Int) (i : Int) = some (idx55 l a d i)
  | 0, i, k, hi, hk => by
    obtain ⟨k, rfl⟩ : ∃ m, k = m + 1 := ⟨k - 1, by omega⟩
    unfold api_Field__f34.l0 idx55
    rw [if_neg (by omega)]
  | d + 1, i, k, hi, hk => by
    obtain ⟨k, rfl⟩ : ∃ m, k = m + 1 := ⟨k - 1, by omega⟩
    unfold api_Field__f34.l0 idx55
    rw [if_pos (by omega), if_pos (by omega), if_pos (by omega)]
    unfold event_Field_1.f
    simp only [Option.bind_some]
    by_cases h : (rd_T55 l i).f0.toList = a.toList
    · rw [if_pos (by rw [h]; exact beq_self_eq_true _), if_pos h]
    · rw [if_neg (fun q => h (beq_iff_eq.1 q)), if_neg h, wrap_nat (by omega)]
      exact idx55_l0 l a hl d (i + 1) k (by omega) (by omega)
def findS (l : List S31) (a : ByteArray) : ByteArray × List S55 × Bool :=
  if idx31 l a l.length 0 < 0 then (⟨#[]⟩, [], false) else ((rd_T31 l (idx31 l a l.length 0)).f0, (rd_T31 l (idx31 l a l.length 0)).f1, true)
def fieldS (l : List S55) (a : ByteArray) : Int × Int :=
  if idx55 l a l.length 0 < 0 then (-1, 0) else (idx55 l a l.length 0, (rd_T55 l (idx55 l a l.length 0)).f1)
theorem find_eq (l : List S31) (a : ByteArray) (hl : l.length ≤ 140737488351232) (k : Nat) (hk : 200000000000000 ≤ k) : event_Find.f k l a = some (findS l a) := by
  unfold event_Find.f findS api_Schema__f32.f
  have hb : api_Schema__f32.l0 k l a (l.length : Int) 0 = some (idx31 l a l.length 0) := idx31_l0 l a hl l.length 0 k (by omega) (by omega)
  rw [hb, Option.bind_some]
  have := idx31_range l a l.length 0
  by_cases h : idx31 l a l.length 0 < 0
  · rw [if_pos h, if_pos h]
  · rw [if_neg h, if_pos (by omega), if_pos (by omega), if_neg h]
theorem findr_l0 (l : List S31) (a : ByteArray) (hl : l.length ≤ 140737488351232) : ∀ (d i k : Nat), i + d = l.length → d < k → auguryref05_Find.l0 k l a (i : Int) = some (if idx31 l a d i < 0 then (⟨#[]⟩, [], false) else ((rd_T31 l (idx31 l a d i)).f0, (rd_T31 l (idx31 l a d i)).f1, true))
  | 0, i, k, hi, hk => by
    obtain ⟨k, rfl⟩ : ∃ m, k = m + 1 := ⟨k - 1, by omega⟩
    unfold auguryref05_Find.l0 idx31
    rw [if_neg (by omega)]
    rfl
  | d + 1, i, k, hi, hk => by
    obtain ⟨k, rfl⟩ : ∃ m, k = m + 1 := ⟨k - 1, by omega⟩
    unfold auguryref05_Find.l0 idx31
    rw [if_pos (by omega), if_pos (by omega)]
    by_cases h : (rd_T31 l i).f0.toList = a.toList
    · rw [if_pos h, if_pos h, if_neg (by omega)]
    · rw [if_neg h, if_neg h, wrap_nat (by omega)]
      exact findr_l0 l a hl d (i + 1) k (by omega) (by omega)
theorem findr_eq (l : List S31) (a : ByteArray) (hl : l.length ≤ 140737488351232) (k : Nat) (hk : 200000000000000 ≤ k) : auguryref05_Find.f k l a = some (findS l a) :=
  findr_l0 l a hl l.length 0 k (by omega) (by omega)
theorem field_eq (n : ByteArray) (l : List S55) (a : ByteArray) (hl : l.length ≤ 140737488351232) (k : Nat) (hk : 200000000000000 ≤ k) : event_Field.f k n l a = some (fieldS l a) := by
  unfold event_Field.f fieldS api_Field__f34.f
  have hb : api_Field__f34.l0 k l a (l.length : Int) 0 = some (idx55 l a l.length 0) := idx55_l0 l a hl l.length 0 k (by omega) (by omega)
  rw [hb, Option.bind_some]
  have := idx55_range l a l.length 0
  by_cases h : idx55 l a l.length 0 < 0
  · rw [if_pos h, if_pos h]
  · rw [if_neg h, if_pos (by omega), if_pos (by omega), if_neg h]
theorem fieldr_l0 (n : ByteArray) (l : List S55) (a : ByteArray) (hl : l.length ≤ 140737488351232) : ∀ (d i k : Nat), i + d = l.length → d < k → auguryref05_Field.l0 k a (i : Int) n l = some (if idx55 l a d i < 0 then (-1, 0) else (idx55 l a d i, (rd_T55 l (idx55 l a d i)).f1))
  | 0, i, k, hi, hk => by
    obtain ⟨k, rfl⟩ : ∃ m, k = m + 1 := ⟨k - 1, by omega⟩
    unfold auguryref05_Field.l0 idx55
    rw [if_neg (by omega)]
    rfl
  | d + 1, i, k, hi, hk => by
    obtain ⟨k, rfl⟩ : ∃ m, k = m + 1 := ⟨k - 1, by omega⟩
    unfold auguryref05_Field.l0 idx55
    rw [if_pos (by omega), if_pos (by omega)]
    by_cases h : (rd_T55 l i).f0.toList = a.toList
    · rw [if_pos h, if_pos h, if_neg (by omega)]
    · rw [if_neg h, if_neg h, wrap_nat (by omega)]
      exact fieldr_l0 n l a hl d (i + 1) k (by omega) (by omega)
theorem fieldr_eq (n : ByteArray) (l : List S55) (a : ByteArray) (hl : l.length ≤ 140737488351232) (k : Nat) (hk : 200000000000000 ≤ k) : auguryref05_Field.f k n l a = some (fieldS l a) :=
  fieldr_l0 n l a hl l.length 0 k (by omega) (by omega)
/-- Are the kinds alike, from a place on. -/
def kindsB (v : List S52) (f : List S55) : Nat → Nat → Bool
  | 0, _ => true
  | d + 1, i => decide ((rd_T52 v i).f0 = (rd_T55 f i).f1) && kindsB v f d (i + 1)
theorem kinds_l0 (v : List S52) (f : List S55) (hl : v.length ≤ 140737488351232) (he : v.length = f.length) : ∀ (d i k : Nat), i + d = v.length → d < k → api_Field__f37.l0 k f v (v.length : Int) (i : Int) = some (kindsB v f d i)
  | 0, i, k, hi, hk => by
    obtain ⟨k, rfl⟩ : ∃ m, k = m + 1 := ⟨k - 1, by omega⟩
    unfold api_Field__f37.l0 kindsB
    rw [if_neg (by omega)]
  | d + 1, i, k, hi, hk => by
    obtain ⟨k, rfl⟩ : ∃ m, k = m + 1 := ⟨k - 1, by omega⟩
    unfold api_Field__f37.l0 kindsB
    rw [if_pos (by omega), if_pos (by omega), if_pos (by omega), if_pos (by omega)]
    unfold event_Fits_1.f
    simp only [Option.bind_some]
    by_cases h : (rd_T52 v i).f0 = (rd_T55 f i).f1
    · rw [if_pos (by rw [h]; exact beq_self_eq_true _), decide_eq_true h, Bool.true_and, wrap_nat (by omega)]
      exact kinds_l0 v f hl he d (i + 1) k (by omega) (by omega)
    · rw [if_neg (fun q => h (beq_iff_eq.1 q)), decide_eq_false h, Bool.false_and]
theorem kindsr_l0 (a0 a1 a2 : Int) (a3 n : ByteArray) (v : List S52) (f : List S55) (hl : v.length ≤ 140737488351232) (he : v.length = f.length) : ∀ (d i k : Nat), i + d = v.length → d < k → auguryref05_Fits.l0 k (i : Int) a0 a1 a2 a3 v n f = some (if kindsB v f d i = true then 0 else 42)
  | 0, i, k, hi, hk => by
    obtain ⟨k, rfl⟩ : ∃ m, k = m + 1 := ⟨k - 1, by omega⟩
    unfold auguryref05_Fits.l0 kindsB
    rw [if_neg (by omega)]
    rfl
  | d + 1, i, k, hi, hk => by
    obtain ⟨k, rfl⟩ : ∃ m, k = m + 1 := ⟨k - 1, by omega⟩
    unfold auguryref05_Fits.l0 kindsB
    rw [if_pos (by omega), if_pos (by omega), if_pos (by omega)]
    by_cases h : (rd_T52 v i).f0 = (rd_T55 f i).f1
    · rw [if_pos h, decide_eq_true h, Bool.true_and, wrap_nat (by omega)]
      exact kindsr_l0 a0 a1 a2 a3 n v f hl he d (i + 1) k (by omega) (by omega)
    · rw [if_neg h, decide_eq_false h, Bool.false_and]
      rfl
/-- Does an event fit schemas: 0, or the error. -/
def fitsS (l : List S31) (a0 a1 a2 : Int) (a3 : ByteArray) (v : List S52) : Int :=
  if rightB a0 a1 a2 a3 v = true then (if (findS l a3).2.2 = true then (if v.length = (findS l a3).2.1.length ∧ kindsB v (findS l a3).2.1 v.length 0 = true then 0 else 42) else 12) else 1
theorem fits_eq (l : List S31) (a0 a1 a2 : Int) (a3 : ByteArray) (v : List S52) (hl : l.length ≤ 140737488351232) (h3 : a3.size ≤ 140737488351232) (hv : v.length ≤ 140737488351232) (k : Nat) (hk : 300000000000000 ≤ k) :
    event_Fits.f k l a0 a1 a2 a3 v = some (fitsS l a0 a1 a2 a3 v) := by
  unfold event_Fits.f fitsS
  rw [right_eq' a0 a1 a2 a3 v h3 hv k hk, find_eq l a3 hl k (by omega)]
  simp only [Option.bind_some]
  cases rightB a0 a1 a2 a3 v with
  | false => rfl
  | true =>
    rw [if_pos rfl, if_pos rfl]
    cases (findS l a3).2.2 with
    | false => rfl
    | true =>
      rw [if_pos rfl, if_pos rfl]
      unfold api_Field__f37.f
      by_cases e : v.length = (findS l a3).2.1.length
      · have hb : api_Field__f37.l0 k (findS l a3).2.1 v (v.length : Int) 0 = some (kindsB v (findS l a3).2.1 v.length 0) := kinds_l0 v _ hv e v.length 0 k (by omega) (by omega)
        rw [if_pos (by omega), hb, Option.bind_some]
        cases kindsB v (findS l a3).2.1 v.length 0 with
        | true => rw [if_pos rfl, if_pos ⟨e, rfl⟩]
        | false => rw [if_neg (by decide), if_neg (fun q => absurd q.2 (by decide))]
      · rw [if_neg (by omega), if_neg (fun q => e q.1)]
        rfl
theorem fitsr_eq (l : List S31) (a0 a1 a2 : Int) (a3 : ByteArray) (v : List S52) (hl : l.length ≤ 140737488351232) (h3 : a3.size ≤ 140737488351232) (hv : v.length ≤ 140737488351232) (k : Nat) (hk : 300000000000000 ≤ k) :
    auguryref05_Fits.f k l a0 a1 a2 a3 v = some (fitsS l a0 a1 a2 a3 v) := by
  unfold auguryref05_Fits.f fitsS
  rw [rightr_eq a0 a1 a2 a3 v h3 hv k hk, findr_eq l a3 hl k (by omega)]
  simp only [Option.bind_some]
  cases rightB a0 a1 a2 a3 v with
  | false => rfl
  | true =>
    rw [if_pos rfl, if_pos rfl]
    cases (findS l a3).2.2 with
    | false => rfl
    | true =>
      rw [if_pos rfl, if_pos rfl]
      by_cases e : v.length = (findS l a3).2.1.length
      · have hb : auguryref05_Fits.l0 k 0 a0 a1 a2 a3 v (findS l a3).1 (findS l a3).2.1 = some (if kindsB v (findS l a3).2.1 v.length 0 = true then 0 else 42) := kindsr_l0 a0 a1 a2 a3 _ v _ hv e v.length 0 k (by omega) (by omega)
        rw [if_pos (by omega), hb]
        cases kindsB v (findS l a3).2.1 v.length 0 with
        | true => rw [if_pos rfl, if_pos ⟨e, rfl⟩]
        | false => rw [if_neg (by decide), if_neg (fun q => absurd q.2 (by decide))]
      · rw [if_neg (by omega), if_neg (fun q => e q.1)]
end Go.Proofs.Ytbnjhmcbkocdjaa.Pure
namespace Go.Proofs.Ytbnjhmcbkocdjaa.Pure
open Go.Proofs.Ytbnjhmcbkocdjaa.PAll
open Go.RowKit Go.Proofs.YtbnjhmcbkocdjaaW.PrintWords Go.Proofs.YtbnjhmcbkocdjaaW.PrintLast Go.Proofs.YtbnjhmcbkocdjaaW.PrintMore
set_option linter.unusedVariables false
set_option linter.unusedSimpArgs false
theorem rd55 (l : List S55) (i : Nat) (h : i < l.length) : rd_T55 l (i : Int) = l[i] := by
  unfold rd_T55
  rw [Int.toNat_natCast, List.getD_eq_getElem?_getD, List.getElem?_eq_getElem h]
  rfl
theorem toList_data (a b : ByteArray) : a.data.toList = b.data.toList ↔ a.toList = b.toList := by rw [ByteArray.toList_eq, ByteArray.toList_eq]
theorem cnt_pos (s : ByteArray) (ns : List ByteArray) : 0 < cntN s ns ↔ ∃ x ∈ ns, x.toList = s.toList := by
  unfold cntN
  rw [List.length_pos_iff_exists_mem]
  constructor
  · rintro ⟨x, hx⟩
    obtain ⟨h1, h2⟩ := List.mem_filter.1 hx
    exact ⟨x, h1, (toList_data _ _).1 (of_decide_eq_true h2)⟩
  · rintro ⟨x, h1, h2⟩
    exact ⟨x, List.mem_filter.2 ⟨h1, decide_eq_true ((toList_data _ _).2 h2)⟩⟩
/-- A name that stands twice. -/
theorem cnt_two (l : List S55) (i : Nat) (h : i < l.length) : 1 < cntN (rd_T55 l i).f0 ((l.take (i + 1)).map fun z => z.f0) ↔ ∃ j, j < i ∧ (rd_T55 l j).f0.toList = (rd_T55 l i).f0.toList := by
  rw [rd55 l i h, List.take_succ_eq_append_getElem h, List.map_append, List.map_cons, List.map_nil, cntN_snoc, if_pos rfl]
  have : 1 < cntN l[i].f0 ((l.take i).map fun z => z.f0) + 1 ↔ 0 < cntN l[i].f0 ((l.take i).map fun z => z.f0) := by omega
  rw [this, cnt_pos]
  constructor
  · rintro ⟨x, hx, e⟩
    obtain ⟨z, hz, rfl⟩ := List.mem_map.1 hx
    obtain ⟨j, hj, rfl⟩ := List.mem_iff_getElem.1 hz
    rw [List.length_take] at hj
    refine ⟨j, by omega, ?_⟩
    rw [rd55 l j (by omega)]
    rw [List.getElem_take] at e
    exact e
  · rintro ⟨j, hj, e⟩
    rw [rd55 l j (by omega)] at e
    refine ⟨_, List.mem_map.2 ⟨l[j], ?_, rfl⟩, e⟩
    exact List.mem_iff_getElem.2 ⟨j, by rw [List.length_take]; omega, List.getElem_take ..⟩
/-- Is a field none. -/
def badF (l : List S55) (i : Nat) : Prop := wordB (rd_T55 l i).f0 = false ∨ (rd_T55 l i).f1 < 1 ∨ (rd_T55 l i).f1 > 3 ∨ ∃ j, j < i ∧ (rd_T55 l j).f0.toList = (rd_T55 l i).f0.toList
theorem dup_l1 (n : ByteArray) (l : List S55) (hl : l.length ≤ 140737488351232) (i : Nat) (hi : i < l.length) (kk : Int) (k0 : Nat) (r : Bool) (hr : auguryref05_Schema.l0 k0 (wrap64 ((i : Int) + 1)) n l = some r) : ∀ (d j k : Nat), j + d = i → d + 1 + k0 ≤ k → ∃ q, auguryref05_Schema.l1 k (i : Int) (j : Int) n l (rd_T55 l i).f0 kk = some q ∧ (q = true ↔ ((∀ m, j ≤ m → m < i → ¬ (rd_T55 l m).f0.toList = (rd_T55 l i).f0.toList) ∧ r = true))
  | 0, j, k, hj, hk => by
    obtain ⟨k, rfl⟩ : ∃ m, k = m + 1 := ⟨k - 1, by omega⟩
    unfold auguryref05_Schema.l1
    rw [if_neg (by omega)]
    refine ⟨r, ?_, ?_⟩
    · obtain ⟨e, rfl⟩ := Nat.exists_eq_add_of_le (show k0 ≤ k by omega)
      exact leO_le (f := fun k => auguryref05_Schema.l0 k (wrap64 ((i : Int) + 1)) n l) (fun k => (auguryref05_Schema.mono_l k).1 _ _ _) hr e
    · exact ⟨fun h => ⟨fun m h1 h2 => by omega, h⟩, fun h => h.2⟩
  | d + 1, j, k, hj, hk => by
    obtain ⟨k, rfl⟩ : ∃ m, k = m + 1 := ⟨k - 1, by omega⟩
    unfold auguryref05_Schema.l1
    rw [if_pos (by omega), if_pos (by omega), if_pos (by omega)]
    by_cases e : (rd_T55 l j).f0.toList = (rd_T55 l i).f0.toList
    · rw [if_pos e]
      exact ⟨false, rfl, ⟨fun h => absurd h (by decide), fun h => absurd e (h.1 j (Nat.le_refl _) (by omega))⟩⟩
    · rw [if_neg e, wrap_nat (i := j) (by omega)]
      obtain ⟨q, h1, h2⟩ := dup_l1 n l hl i hi kk k0 r hr d (j + 1) k (by omega) (by omega)
      refine ⟨q, h1, h2.trans ⟨fun h => ⟨fun m g1 g2 => ?_, h.2⟩, fun h => ⟨fun m g1 g2 => h.1 m (by omega) g2, h.2⟩⟩⟩
      by_cases q : m = j
      · subst q; exact e
      · exact h.1 m (by omega) g2
def SchemaP (n : ByteArray) (l : List S55) (i : Nat) : Prop := (∀ m, i ≤ m → m < l.length → ¬ badF l m) ∧ wordB n = true ∧ l.length ≤ 8
theorem schema_end {n : ByteArray} {l : List S55} {i : Nat} (hi : i = l.length) : SchemaP n l i ↔ (wordB n = true ∧ l.length ≤ 8) := ⟨fun h => h.2, fun h => ⟨fun m h1 h2 => by omega, h⟩⟩
theorem schema_bad {n : ByteArray} {l : List S55} {i : Nat} (hi : i < l.length) (h : badF l i) : (false = true ↔ SchemaP n l i) := ⟨fun h => absurd h (by decide), fun q => absurd h (q.1 i (Nat.le_refl _) hi)⟩
theorem schema_step {n : ByteArray} {l : List S55} {i : Nat} (h : ¬ badF l i) : SchemaP n l (i + 1) ↔ SchemaP n l i := by
  constructor
  · intro q
    refine ⟨fun m h1 h2 => ?_, q.2⟩
    by_cases e : m = i
    · subst e; exact h
    · exact q.1 m (by omega) h2
  · intro q
    exact ⟨fun m h1 h2 => q.1 m (by omega) h2, q.2⟩
theorem schema_tail (n : ByteArray) (l : List S55) : ∃ b, (if wordB n = true then some (decide ((l.length : Int) ≤ 8)) else some false) = some b ∧ (b = true ↔ (wordB n = true ∧ l.length ≤ 8)) := by
  cases h : wordB n with
  | true => exact ⟨_, if_pos rfl, by rw [decide_eq_true_eq]; exact ⟨fun q => ⟨rfl, by omega⟩, fun q => by omega⟩⟩
  | false => exact ⟨_, if_neg (by decide), ⟨fun q => absurd q (by decide), fun q => absurd q.1 (by decide)⟩⟩
theorem schema_l0 (n : ByteArray) (l : List S55) (hl : l.length ≤ 140737488351232) (hn : n.size ≤ 140737488351232) (hf : ∀ i, i < l.length → (rd_T55 l i).f0.size ≤ 140737488351232) : ∀ (d i k : Nat), i + d = l.length → d + 300000000000000 ≤ k → ∃ b, event_Schema.l0 k n l (l.length : Int) (i : Int) = some b ∧ (b = true ↔ SchemaP n l i)
  | 0, i, k, hi, hk => by
    obtain ⟨k, rfl⟩ : ∃ m, k = m + 1 := ⟨k - 1, by omega⟩
    unfold event_Schema.l0
    rw [if_neg (by omega), word_eq n (by omega) k (by omega), Option.bind_some]
    obtain ⟨b, h1, h2⟩ := schema_tail n l
    exact ⟨b, h1, h2.trans (schema_end (by omega)).symm⟩
  | d + 1, i, k, hi, hk => by
    obtain ⟨k, rfl⟩ : ∃ m, k = m + 1 := ⟨k - 1, by omega⟩
    have hs := hf i (by omega)
    have hc := cnt_two l i (by omega)
    unfold event_Schema.l0
    rw [if_pos (by omega), if_pos (by omega), if_pos (by omega), if_pos (show (rd_T55 l i).f0.size ≤ maxLen by unfold maxLen; omega), word_eq _ (by omega) k (by omega), Option.bind_some, Int.toNat_natCast]
    cases hw : wordB (rd_T55 l i).f0 with
    | false => exact ⟨false, if_neg (by decide), schema_bad (by omega) (.inl hw)⟩
    | true =>
      rw [if_pos rfl]
      by_cases c : 1 < cntN (rd_T55 l i).f0 ((l.take (i + 1)).map fun z => z.f0)
      · rw [if_pos c]
        exact ⟨false, rfl, schema_bad (by omega) (.inr (.inr (.inr (hc.1 c))))⟩
      · rw [if_neg c]
        by_cases c1 : (rd_T55 l i).f1 < 1
        · rw [if_pos c1]
          exact ⟨false, rfl, schema_bad (by omega) (.inr (.inl c1))⟩
        · rw [if_neg c1]
          by_cases c3 : (rd_T55 l i).f1 > 3
          · rw [if_pos c3]
            exact ⟨false, rfl, schema_bad (by omega) (.inr (.inr (.inl c3)))⟩
          · rw [if_neg c3, wrap_nat (by omega)]
            obtain ⟨b, h1, h2⟩ := schema_l0 n l hl hn hf d (i + 1) k (by omega) (by omega)
            refine ⟨b, h1, h2.trans (schema_step ?_)⟩
            rintro (q | q | q | q)
            · rw [hw] at q; cases q
            · exact c1 q
            · exact c3 q
            · exact c (hc.2 q)
theorem schemar_l0 (n : ByteArray) (l : List S55) (hl : l.length ≤ 140737488351232) (hn : n.size ≤ 140737488351232) (hf : ∀ i, i < l.length → (rd_T55 l i).f0.size ≤ 140737488351232) : ∀ (d i k : Nat), i + d = l.length → d * (l.length + 10) + 300000000000000 ≤ k → ∃ b, auguryref05_Schema.l0 k (i : Int) n l = some b ∧ (b = true ↔ SchemaP n l i)
  | 0, i, k, hi, hk => by
    obtain ⟨k, rfl⟩ : ∃ m, k = m + 1 := ⟨k - 1, by omega⟩
    unfold auguryref05_Schema.l0
    rw [if_neg (by omega), wordr_eq n (by omega) k (by omega), Option.bind_some]
    obtain ⟨b, h1, h2⟩ := schema_tail n l
    exact ⟨b, h1, h2.trans (schema_end (by omega)).symm⟩
  | d + 1, i, k, hi, hk => by
    have hs := hf i (by omega)
    have hk' : d * (l.length + 10) + (l.length + 10) + 300000000000000 ≤ k := by rw [Nat.succ_mul] at hk; omega
    obtain ⟨k, rfl⟩ : ∃ m, k = m + 2 := ⟨k - 2, by omega⟩
    obtain ⟨k0, hk0⟩ : ∃ k0, k0 = d * (l.length + 10) + 300000000000000 := ⟨_, rfl⟩
    obtain ⟨b, h1, h2⟩ := schemar_l0 n l hl hn hf d (i + 1) k0 (by omega) (by omega)
    rw [← wrap_nat (i := i) (by omega)] at h1
    obtain ⟨q, g1, g2⟩ := dup_l1 n l hl i (by omega) (rd_T55 l i).f1 _ b h1 i 0 k (by omega) (by omega)
    have key : ∀ x : Bool, (x = true → badF l i) → (x = false → wordB (rd_T55 l i).f0 = true ∧ ¬ (rd_T55 l i).f1 < 1 ∧ ¬ (rd_T55 l i).f1 > 3) → ∃ b, auguryref05_Schema.j1 (k + 1) (i : Int) x n l (rd_T55 l i).f0 (rd_T55 l i).f1 = some b ∧ (b = true ↔ SchemaP n l i) := by
      intro x x1 x2
      unfold auguryref05_Schema.j1
      cases x with
      | true => exact ⟨false, if_pos rfl, schema_bad (by omega) (x1 rfl)⟩
      | false =>
        obtain ⟨y1, y2, y3⟩ := x2 rfl
        rw [if_neg (by decide)]
        refine ⟨q, g1, g2.trans ?_⟩
        by_cases c : ∀ m, 0 ≤ m → m < i → ¬ (rd_T55 l m).f0.toList = (rd_T55 l i).f0.toList
        · have nb : ¬ badF l i := by
            rintro (z | z | z | ⟨m, z1, z2⟩)
            · rw [y1] at z; cases z
            · exact y2 z
            · exact y3 z
            · exact c m (Nat.zero_le _) z1 z2
          exact ⟨fun h => (schema_step nb).1 (h2.1 h.2), fun h => ⟨c, h2.2 ((schema_step nb).2 h)⟩⟩
        · refine ⟨fun h => absurd h.1 c, fun h => ⟨fun m m1 m2 m3 => ?_, ?_⟩⟩
          · exact h.1 i (Nat.le_refl _) (by omega) (.inr (.inr (.inr ⟨m, m2, m3⟩)))
          · exact absurd (fun m m1 m2 m3 => h.1 i (Nat.le_refl _) (by omega) (.inr (.inr (.inr ⟨m, m2, m3⟩)))) c
    unfold auguryref05_Schema.l0
    rw [if_pos (by omega), if_pos (by omega), wordr_eq _ (by omega) (k + 1) (by omega), Option.bind_some]
    cases hw : wordB (rd_T55 l i).f0 with
    | false =>
      rw [if_neg (by decide)]
      exact key true (fun _ => .inl hw) (fun h => absurd h (by decide))
    | true =>
      rw [if_pos rfl]
      by_cases c1 : (rd_T55 l i).f1 < 1
      · rw [if_pos c1]
        exact key true (fun _ => .inr (.inl c1)) (fun h => absurd h (by decide))
      · rw [if_neg c1]
        exact key _ (fun h => .inr (.inr (.inl (of_decide_eq_true h)))) (fun h => ⟨hw, c1, of_decide_eq_false h⟩)
theorem schema_both (n : ByteArray) (l : List S55) (hl : l.length ≤ 140737488351232) (hn : n.size ≤ 140737488351232) (hf : ∀ i, i < l.length → (rd_T55 l i).f0.size ≤ 140737488351232) (k : Nat) (hk : l.length * (l.length + 10) + 500000000000000 ≤ k) :
    ∃ b, event_Schema.f k n l = some b ∧ auguryref05_Schema.f k n l = some b := by
  obtain ⟨a, h1, h2⟩ := schema_l0 n l hl hn hf l.length 0 k (by omega) (by omega)
  obtain ⟨b, h3, h4⟩ := schemar_l0 n l hl hn hf l.length 0 k (by omega) (by omega)
  refine ⟨a, ?_, ?_⟩
  · unfold event_Schema.f
    rw [if_pos (by unfold maxLen; omega)]
    exact h1
  · have : a = b := by rw [Bool.eq_iff_iff]; exact h2.trans h4.symm
    rw [this]
    exact h3
theorem same_l0 (n : ByteArray) (l : List S55) (hl : l.length ≤ 140737488351232) : ∀ (d i k : Nat), i + d = l.length → d < k → auguryref05_SameSchema.l0 k (i : Int) n l n l = some true
  | 0, i, k, hi, hk => by
    obtain ⟨k, rfl⟩ : ∃ m, k = m + 1 := ⟨k - 1, by omega⟩
    unfold auguryref05_SameSchema.l0
    rw [if_neg (by omega)]
  | d + 1, i, k, hi, hk => by
    obtain ⟨k, rfl⟩ : ∃ m, k = m + 1 := ⟨k - 1, by omega⟩
    unfold auguryref05_SameSchema.l0
    rw [if_pos (by omega), if_pos (by omega), if_pos (by omega), if_neg (by simp), wrap_nat (by omega)]
    exact same_l0 n l hl d (i + 1) k (by omega) (by omega)
theorem same_eq (n : ByteArray) (l : List S55) (hl : l.length ≤ 140737488351232) (k : Nat) (hk : 200000000000000 ≤ k) : auguryref05_SameSchema.f k n l n l = some true := by
  obtain ⟨k, rfl⟩ : ∃ m, k = m + 1 := ⟨k - 1, by omega⟩
  unfold auguryref05_SameSchema.f
  rw [if_pos rfl]
  unfold auguryref05_SameSchema.j0
  dsimp only
  rw [if_neg (by simp)]
  exact same_l0 n l hl l.length 0 k (by omega) (by omega)
end Go.Proofs.Ytbnjhmcbkocdjaa.Pure
namespace Go.Proofs.Ytbnjhmcbkocdjaa.Pure
open Go.Proofs.Ytbnjhmcbkocdjaa.PAll
open Go.RowKit Go.Proofs.YtbnjhmcbkocdjaaW.PrintWords Go.Proofs.YtbnjhmcbkocdjaaW.PrintLast Go.Proofs.YtbnjhmcbkocdjaaW.PrintMore
set_option linter.unusedVariables false
set_option linter.unusedSimpArgs false
theorem dig_l0 : ∀ (d k : Nat) (n : Int) (acc : List Int), 0 ≤ n → n < 2 ^ (7 * (d + 1)) → d < k → acc.length + d < 1000 → event_digits.l0 k n acc = some (acc ++ digS d n) := by
  intro d
  induction d with
  | zero =>
    intro k n acc h0 h1 hk ha
    obtain ⟨k, rfl⟩ : ∃ m, k = m + 1 := ⟨k - 1, by omega⟩
    have h1 : n < 128 := h1
    unfold event_digits.l0 digS
    rw [if_neg (by omega), if_pos (by omega), Int.emod_eq_of_lt h0 (by omega)]
  | succ d ih =>
    intro k n acc h0 h1 hk ha
    obtain ⟨k, rfl⟩ : ∃ m, k = m + 1 := ⟨k - 1, by omega⟩
    unfold event_digits.l0 digS
    by_cases c : n > 127
    · rw [if_pos c, if_pos c, if_pos (by omega), or128 n h0, ih k (n / 128) _ (by omega) (by rw [pow7] at h1; omega) (by omega) (by simp; omega)]
      simp
    · rw [if_neg c, if_neg c, if_pos (by omega), Int.emod_eq_of_lt h0 (by omega)]
/-- A number's bytes. -/
def digE (n : Int) : List Int := digS 8 n
theorem digE_len (n : Int) : (digE n).length ≤ 9 := digS_length 8 n
theorem dig_eq (n : Int) (h0 : 0 ≤ n) (h1 : n < 9223372036854775807) (k : Nat) (hk : 20 ≤ k) : event_digits.f k n = some (digE n) := by
  unfold event_digits.f digE
  rw [dig_l0 8 k n [] h0 (by omega) (by omega) (by decide)]
  rfl
theorem digr_eq (n : Int) (h0 : 0 ≤ n) (h1 : n < 9223372036854775807) (k : Nat) (hk : 20 ≤ k) : auguryref04_Digits.f k n = some (digE n) := by
  unfold auguryref04_Digits.f digE
  rw [ref_digits_l0 8 k n [] h0 (by omega) h1 (by omega) (by decide)]
  rfl
/-- The values' bytes, from a place on. -/
def valsL (v : List S52) : Nat → Nat → List Int
  | 0, _ => []
  | d + 1, i => putS (rd_T52 v i).f0 (rd_T52 v i).f1 (rd_T52 v i).f2 ++ valsL v d (i + 1)
theorem putS_len (k n : Int) (s : ByteArray) : (putS k n s).length ≤ 140 := by
  unfold putS
  split
  · rename_i h
    rw [List.length_cons]
    split
    · have := digS_length 5 (zzE n)
      omega
    · split
      · have e : k = 2 := by assumption
        subst e
        have := (ok_text h).2
        have hb : (bytesOf s).length = s.size := by unfold bytesOf; rw [List.length_map, data_length]
        rw [List.length_cons, hb]
        omega
      · simp
  · simp
theorem vals_l2 (v : List S52) (hv : v.length ≤ 8) : ∀ (d i k : Nat) (acc : List Int), i + d = v.length → d + 20 < k → acc.length + 200 * d < 140737488355000 → event_Put.l2 k v (v.length : Int) (i : Int) acc = some (acc ++ valsL v d i)
  | 0, i, k, acc, hi, hk, ha => by
    obtain ⟨k, rfl⟩ : ∃ m, k = m + 1 := ⟨k - 1, by omega⟩
    unfold event_Put.l2 valsL
    rw [if_neg (by omega), List.append_nil]
  | d + 1, i, k, acc, hi, hk, ha => by
    obtain ⟨k, rfl⟩ : ∃ m, k = m + 1 := ⟨k - 1, by omega⟩
    have hp := putS_len (rd_T52 v i).f0 (rd_T52 v i).f1 (rd_T52 v i).f2
    unfold event_Put.l2 valsL
    rw [if_pos (by omega), if_pos (by omega), if_pos (by omega), put_eq k (by omega), Option.bind_some, if_pos (by omega), wrap_nat (by omega), vals_l2 v hv d (i + 1) k _ (by omega) (by omega) (by rw [List.length_append]; omega), List.append_assoc]
theorem valsr_l0 (a0 a1 a2 : Int) (a3 : ByteArray) (v : List S52) (hv : v.length ≤ 8) : ∀ (d i k : Nat) (acc : List Int), i + d = v.length → d + 20 < k → acc.length + 200 * d < 140737488355000 → auguryref05_Put.l0 k acc (i : Int) a0 a1 a2 a3 v = some (acc ++ valsL v d i)
  | 0, i, k, acc, hi, hk, ha => by
    obtain ⟨k, rfl⟩ : ∃ m, k = m + 1 := ⟨k - 1, by omega⟩
    unfold auguryref05_Put.l0 valsL
    rw [if_neg (by omega), List.append_nil]
  | d + 1, i, k, acc, hi, hk, ha => by
    obtain ⟨k, rfl⟩ : ∃ m, k = m + 1 := ⟨k - 1, by omega⟩
    have hp := putS_len (rd_T52 v i).f0 (rd_T52 v i).f1 (rd_T52 v i).f2
    unfold auguryref05_Put.l0 valsL
    rw [if_pos (by omega), if_pos (by omega), ref_put_eq k (by omega), Option.bind_some, if_pos (by omega), wrap_nat (by omega), valsr_l0 a0 a1 a2 a3 v hv d (i + 1) k _ (by omega) (by omega) (by rw [List.length_append]; omega), List.append_assoc]
/-- An event's bytes. -/
def putE (a0 a1 a2 : Int) (a3 : ByteArray) (v : List S52) : List Int :=
  if rightB a0 a1 a2 a3 v = true then digE a0 ++ digE a1 ++ digE a2 ++ digE (a3.size : Int) ++ bytesOf a3 ++ digE (v.length : Int) ++ valsL v v.length 0 else []
theorem bytesOf_len (s : ByteArray) : (bytesOf s).length = s.size := by unfold bytesOf; rw [List.length_map, data_length]
theorem right_facts {a0 a1 a2 : Int} {a3 : ByteArray} {v : List S52} (h : rightB a0 a1 a2 a3 v = true) : (0 ≤ a0 ∧ a0 ≤ 1099511627776 ∧ 0 ≤ a2 ∧ a2 ≤ 1099511627776 ∧ 0 ≤ a1 ∧ a1 ≤ 3) ∧ wordB a3 = true ∧ v.length ≤ 8 ∧ badI v v.length 0 < 0 := by
  unfold rightB at h
  simp only [Bool.and_eq_true, decide_eq_true_eq] at h
  exact h
theorem word_size {s : ByteArray} (h : wordB s = true) : 1 ≤ s.size ∧ s.size ≤ 16 := (of_decide_eq_true h).2
theorem rd_four (a b c d : Int) : rd [a, b, c, d] 0 = a ∧ rd [a, b, c, d] 1 = b ∧ rd [a, b, c, d] 2 = c ∧ rd [a, b, c, d] 3 = d := ⟨rfl, rfl, rfl, rfl⟩
theorem put_end (a0 a1 a2 : Int) (a3 : ByteArray) (v : List S52) (acc : List Int) (hv : v.length ≤ 8) (h3 : a3.size ≤ 16) (ha : acc.length < 100000) (k : Nat) (hk : 1000 ≤ k) (y : List Int) :
    event_Put.l0 (k + 1) y (y.length : Int) (y.length : Int) a0 a1 a2 a3 v acc = some (acc ++ bytesOf a3 ++ digE (v.length : Int) ++ valsL v v.length 0) := by
  have hb := bytesOf_len a3
  have hd := digE_len (v.length : Int)
  unfold event_Put.l0
  rw [if_neg (by omega), if_pos (by omega), Option.bind_some]
  obtain ⟨k, rfl⟩ : ∃ m, k = m + 2 := ⟨k - 2, by omega⟩
  have e0 : event_digits.f (k + 1) (v.length : Int) = some (digE (v.length : Int)) := dig_eq _ (by omega) (by omega) _ (by omega)
  have hw : wrap64 (0 + 1) = 1 := by decide +kernel
  have hl : event_Put.l2 k v (v.length : Int) 0 (acc ++ bytesOf a3 ++ digE (v.length : Int)) = some (acc ++ bytesOf a3 ++ digE (v.length : Int) ++ valsL v v.length 0) := vals_l2 v hv v.length 0 k _ (by omega) (by omega) (by simp only [List.length_append]; omega)
  unfold event_Put.l1
  rw [if_pos (show (0 : Int) < (([(v.length : Int)] : List Int).length : Int) from Int.one_pos), if_pos (by decide), if_pos (show (0 : Int) < (([(v.length : Int)] : List Int).length : Int) from Int.one_pos), show rd [(v.length : Int)] 0 = (v.length : Int) from rfl, e0, Option.bind_some, if_pos (by simp only [List.length_append]; omega), hw]
  unfold event_Put.l1
  rw [if_neg (show ¬ (1 : Int) < (([(v.length : Int)] : List Int).length : Int) from Int.lt_irrefl 1), hl]
theorem put_step (a0 a1 a2 : Int) (a3 : ByteArray) (v : List S52) (y : List Int) (i : Nat) (hi : i < y.length) (hy : y.length = 4) (acc : List Int) (n : Int) (hn : rd y (i : Int) = n) (h0 : 0 ≤ n) (h1 : n < 9223372036854775807) (ha : acc.length < 100000) (k : Nat) (hk : 1000 ≤ k) :
    event_Put.l0 (k + 1) y (y.length : Int) (i : Int) a0 a1 a2 a3 v acc = event_Put.l0 k y (y.length : Int) ((i + 1 : Nat) : Int) a0 a1 a2 a3 v (acc ++ digE n) := by
  have hd := digE_len n
  have e := dig_eq n h0 h1 k (by omega)
  conv => lhs; unfold event_Put.l0
  rw [if_pos (by omega), if_pos (by omega), if_pos (by omega), hn, e, Option.bind_some, if_pos (by omega), wrap_nat (by omega)]
theorem put_eqE (a0 a1 a2 : Int) (a3 : ByteArray) (v : List S52) (h3 : a3.size ≤ 140737488351232) (hv : v.length ≤ 140737488351232) (k : Nat) (hk : 300000000000000 ≤ k) :
    event_Put.f k a0 a1 a2 a3 v = some (putE a0 a1 a2 a3 v) := by
  unfold event_Put.f putE
  rw [right_eq' a0 a1 a2 a3 v h3 hv k hk, Option.bind_some]
  cases h : rightB a0 a1 a2 a3 v with
  | false => rfl
  | true =>
    rw [if_pos rfl, if_pos rfl, Option.bind_some]
    obtain ⟨hr, hw, hl, _⟩ := right_facts h
    have hs := word_size hw
    obtain ⟨k, rfl⟩ : ∃ m, k = m + 5 := ⟨k - 5, by omega⟩
    have d0 := digE_len a0
    have d1 := digE_len a1
    have d2 := digE_len a2
    have d3 := digE_len (a3.size : Int)
    have s0 := put_step a0 a1 a2 a3 v [a0, a1, a2, (a3.size : Int)] 0 (show 0 < 4 by decide) rfl [] a0 rfl (by omega) (by omega) (by decide) (k + 4) (by omega)
    have s1 := put_step a0 a1 a2 a3 v [a0, a1, a2, (a3.size : Int)] 1 (show 1 < 4 by decide) rfl ([] ++ digE a0) a1 rfl (by omega) (by omega) (by simp only [List.length_append, List.length_nil]; omega) (k + 3) (by omega)
    have s2 := put_step a0 a1 a2 a3 v [a0, a1, a2, (a3.size : Int)] 2 (show 2 < 4 by decide) rfl ([] ++ digE a0 ++ digE a1) a2 rfl (by omega) (by omega) (by simp only [List.length_append, List.length_nil]; omega) (k + 2) (by omega)
    have s3 := put_step a0 a1 a2 a3 v [a0, a1, a2, (a3.size : Int)] 3 (show 3 < 4 by decide) rfl ([] ++ digE a0 ++ digE a1 ++ digE a2) (a3.size : Int) rfl (by omega) (by omega) (by simp only [List.length_append, List.length_nil]; omega) (k + 1) (by omega)
    have s4 := put_end a0 a1 a2 a3 v ([] ++ digE a0 ++ digE a1 ++ digE a2 ++ digE (a3.size : Int)) hl hs.2 (by simp only [List.length_append, List.length_nil]; omega) k (by omega) [a0, a1, a2, (a3.size : Int)]
    exact s0.trans (s1.trans (s2.trans (s3.trans s4)))
theorem putr_eqE (a0 a1 a2 : Int) (a3 : ByteArray) (v : List S52) (h3 : a3.size ≤ 140737488351232) (hv : v.length ≤ 140737488351232) (k : Nat) (hk : 300000000000000 ≤ k) :
    auguryref05_Put.f k a0 a1 a2 a3 v = some (putE a0 a1 a2 a3 v) := by
  unfold auguryref05_Put.f putE
  rw [rightr_eq a0 a1 a2 a3 v h3 hv k hk, Option.bind_some]
  cases h : rightB a0 a1 a2 a3 v with
  | false => rfl
  | true =>
    rw [if_pos rfl, if_pos rfl]
    obtain ⟨hr, hw, hl, _⟩ := right_facts h
    have hs := word_size hw
    have d0 := digE_len a0
    have d1 := digE_len a1
    have d2 := digE_len a2
    have d3 := digE_len (a3.size : Int)
    have d4 := digE_len (v.length : Int)
    have db := bytesOf_len a3
    have hfin : auguryref05_Put.l0 k (digE a0 ++ digE a1 ++ digE a2 ++ digE (a3.size : Int) ++ bytesOf a3 ++ digE (v.length : Int)) 0 a0 a1 a2 a3 v = some (digE a0 ++ digE a1 ++ digE a2 ++ digE (a3.size : Int) ++ bytesOf a3 ++ digE (v.length : Int) ++ valsL v v.length 0) := valsr_l0 a0 a1 a2 a3 v hl v.length 0 k _ (by omega) (by omega) (by simp only [List.length_append]; omega)
    rw [digr_eq a0 (by omega) (by omega) k (by omega), Option.bind_some, digr_eq a1 (by omega) (by omega) k (by omega), Option.bind_some, if_pos (by omega), Option.bind_some, digr_eq a2 (by omega) (by omega) k (by omega), Option.bind_some, if_pos (by simp only [List.length_append]; omega), Option.bind_some, digr_eq (a3.size : Int) (by omega) (by omega) k (by omega), Option.bind_some, if_pos (by simp only [List.length_append]; omega), Option.bind_some, if_pos (by simp only [List.length_append]; omega), Option.bind_some, digr_eq (v.length : Int) (by omega) (by omega) k (by omega), Option.bind_some, if_pos (by simp only [List.length_append]; omega), hfin]
end Go.Proofs.Ytbnjhmcbkocdjaa.Pure
namespace Go.Proofs.Ytbnjhmcbkocdjaa.Pure
open Go.Proofs.Ytbnjhmcbkocdjaa.PAll
open Go.RowKit Go.Proofs.YtbnjhmcbkocdjaaW.PrintWords Go.Proofs.YtbnjhmcbkocdjaaW.PrintLast Go.Proofs.YtbnjhmcbkocdjaaW.PrintMore
set_option linter.unusedVariables false
set_option linter.unusedSimpArgs false
theorem rd31 (l : List S31) (i : Nat) (h : i < l.length) : rd_T31 l (i : Int) = l[i] := by
  unfold rd_T31
  rw [Int.toNat_natCast, List.getD_eq_getElem?_getD, List.getElem?_eq_getElem h]
  rfl
theorem greats_l0 (l : List S31) (hl : l.length ≤ 140737488351232) (hf : ∀ i, i < l.length → (rd_T31 l (i : Nat)).f1.length ≤ 140737488351232) : ∀ (d i : Nat) (n : Int), i + d = l.length → ∃ k b, augurylaw05_GreatSchemas.l0 k l n (i : Int) = some b
  | 0, i, n, hi => by
    refine ⟨2, decide (n ≥ 9000), ?_⟩
    unfold augurylaw05_GreatSchemas.l0
    rw [if_neg (by omega)]
    unfold augurylaw05_GreatSchemas.j1
    rw [if_neg (by decide)]
  | d + 1, i, n, hi => by
    have inner : ∀ (e j : Nat) (n : Int), j + e = (rd_T31 l (i : Nat)).f1.length → ∃ k b, augurylaw05_GreatSchemas.l1 k l n (i : Int) (j : Int) = some b := by
      intro e
      induction e with
      | zero =>
        intro j n hj
        obtain ⟨k, b, h⟩ := greats_l0 l hl hf d (i + 1) n (by omega)
        refine ⟨k + 1, b, ?_⟩
        unfold augurylaw05_GreatSchemas.l1
        rw [if_pos (by omega), if_pos (by omega), if_neg (by omega), wrap_nat (by omega)]
        exact h
      | succ e ih =>
        intro j n hj
        have hfi := hf i (by omega)
        by_cases c : n < 9000
        · obtain ⟨k, b, h⟩ := ih (j + 1) (wrap64 (n + (mn (((rd_T55 ((rd_T31 l (i : Nat)).f1) (j : Nat)).f0).size : Int) 9000))) (by omega)
          refine ⟨k + 1, b, ?_⟩
          unfold augurylaw05_GreatSchemas.l1
          rw [if_pos (by omega), if_pos (by omega), if_pos (by omega), if_pos c, if_pos (by omega), wrap_nat (by omega)]
          exact h
        · obtain ⟨k, b, h⟩ := greats_l0 l hl hf d (i + 1) n (by omega)
          refine ⟨k + 1, b, ?_⟩
          unfold augurylaw05_GreatSchemas.l1
          rw [if_pos (by omega), if_pos (by omega), if_pos (by omega), if_neg c, wrap_nat (i := i) (by omega)]
          exact h
    by_cases c : n < 9000
    · obtain ⟨k, b, h⟩ := inner (rd_T31 l (i : Nat)).f1.length 0 (wrap64 ((wrap64 (n + (mn (((rd_T31 l (i : Nat)).f0).size : Int) 9000))) + (((rd_T31 l (i : Nat)).f1).length : Int))) (by omega)
      refine ⟨k + 2, b, ?_⟩
      unfold augurylaw05_GreatSchemas.l0
      rw [if_pos (by omega)]
      unfold augurylaw05_GreatSchemas.j1
      rw [if_pos (decide_eq_true c), if_pos (by omega), if_pos (by omega)]
      exact h
    · refine ⟨2, decide (n ≥ 9000), ?_⟩
      unfold augurylaw05_GreatSchemas.l0
      rw [if_pos (by omega)]
      unfold augurylaw05_GreatSchemas.j1
      rw [if_neg (by rw [decide_eq_false c]; decide)]
theorem greats_ex (l : List S31) (hl : l.length ≤ 140737488351232) (hf : ∀ i, i < l.length → (rd_T31 l (i : Nat)).f1.length ≤ 140737488351232) : ∃ K b, ∀ k, K ≤ k → augurylaw05_GreatSchemas.f k l = some b := by
  obtain ⟨k, b, h⟩ := greats_l0 l hl hf l.length 0 (l.length : Int) (by omega)
  exact ⟨k, b, fun j hj => leO_ge (f := fun k => augurylaw05_GreatSchemas.f k l) (fun k => augurylaw05_GreatSchemas.mono _ k) h hj⟩
/-- What is known of the schemas. -/
def OkS (l : List S31) : Prop := l.length ≤ 140737488351232 ∧ ∀ x ∈ l, ok31 x
theorem oks_at {l : List S31} (h : OkS l) (i : Nat) (hi : i < l.length) : (rd_T31 l i).f0.size ≤ 140737488351232 ∧ (rd_T31 l i).f1.length ≤ 140737488351232 ∧ ∀ j, j < (rd_T31 l i).f1.length → (rd_T55 (rd_T31 l i).f1 (j : Nat)).f0.size ≤ 140737488351232 := by
  have := h.2 _ (List.getElem_mem hi)
  rw [rd31 l i hi]
  refine ⟨this.1, this.2.1, fun j hj => ?_⟩
  rw [rd55 _ j hj]
  exact (this.2.2 _ (List.getElem_mem hj)).1
theorem find_len {l : List S31} (h : OkS l) (a : ByteArray) : (findS l a).2.1.length ≤ 140737488351232 := by
  unfold findS
  split
  · exact Nat.zero_le _
  · rename_i c
    have := idx31_range l a l.length 0
    obtain ⟨i, hi⟩ : ∃ i : Nat, idx31 l a l.length 0 = (i : Int) := ⟨(idx31 l a l.length 0).toNat, by omega⟩
    show (rd_T31 l (idx31 l a l.length 0)).f1.length ≤ _
    rw [hi]
    exact (oks_at h i (by omega)).2.1
theorem tells_l0 (l : List S31) (h : OkS l) (a : ByteArray) (ha : a.size ≤ 140737488351232) (a0 a1 a2 : Int) (a3 : ByteArray) (v : List S52) (h3 : a3.size ≤ 140737488351232) (hv : v.length ≤ 140737488351232) (is : Bool) (n : ByteArray) (f : List S55) (hf : f.length ≤ 140737488351232) :
    ∀ (d i k : Nat), i + d = l.length → d + 30000000000000000000000000000 ≤ k → augurylaw05_EventTells.l0 k l a true is is (i : Int) a0 a1 a2 a3 v n f n f = some true
  | 0, i, k, hi, hk => by
    obtain ⟨k, rfl⟩ : ∃ m, k = m + 1 := ⟨k - 1, by omega⟩
    unfold augurylaw05_EventTells.l0
    rw [if_neg (by omega), if_pos rfl, same_eq n f hf k (by omega), Option.bind_some, if_pos rfl, if_pos (beq_self_eq_true _), fits_eq l a0 a1 a2 a3 v h.1 h3 hv k (by omega), Option.bind_some, fitsr_eq l a0 a1 a2 a3 v h.1 h3 hv k (by omega), Option.bind_some, if_pos rfl, put_eqE a0 a1 a2 a3 v h3 hv k (by omega), Option.bind_some, putr_eqE a0 a1 a2 a3 v h3 hv k (by omega), Option.bind_some, if_pos rfl, word_eq a (by omega) k (by omega), Option.bind_some, wordr_eq a (by omega) k (by omega), Option.bind_some, if_pos (beq_self_eq_true _)]
  | d + 1, i, k, hi, hk => by
    obtain ⟨k, rfl⟩ : ∃ m, k = m + 1 := ⟨k - 1, by omega⟩
    obtain ⟨o1, o2, o3⟩ := oks_at h i (by omega)
    have hm : (rd_T31 l (i : Nat)).f1.length * ((rd_T31 l (i : Nat)).f1.length + 10) ≤ 140737488351232 * 140737488351242 := Nat.mul_le_mul o2 (by omega)
    obtain ⟨b, b1, b2⟩ := schema_both (rd_T31 l (i : Nat)).f0 (rd_T31 l (i : Nat)).f1 o2 o1 o3 k (by omega)
    have hh := h.1
    unfold augurylaw05_EventTells.l0
    rw [if_pos (by omega), if_pos (by omega), field_eq _ _ a o2 k (by omega), Option.bind_some, fieldr_eq _ _ a o2 k (by omega), Option.bind_some, if_pos rfl, if_pos rfl, b1, Option.bind_some, b2, Option.bind_some, if_neg (by simp), wrap_nat (by omega)]
    exact tells_l0 l h a ha a0 a1 a2 a3 v h3 hv is n f hf d (i + 1) k (by omega) (by omega)
theorem tells_j0 (l : List S31) (h : OkS l) (a : ByteArray) (ha : a.size ≤ 140737488351232) (a0 a1 a2 : Int) (a3 : ByteArray) (v : List S52) (h3 : a3.size ≤ 140737488351232) (hv : v.length ≤ 140737488351232) (g : Bool) (k : Nat) (hk : 40000000000000000000000000000 ≤ k) :
    augurylaw05_EventTells.j0 (k + 1) l a true g a0 a1 a2 a3 v = some true := by
  unfold augurylaw05_EventTells.j0
  dsimp only
  cases g with
  | true => rfl
  | false =>
    rw [if_neg (by decide), find_eq l a h.1 k (by omega), Option.bind_some, findr_eq l a h.1 k (by omega), Option.bind_some]
    have hh := h.1
    exact tells_l0 l h a ha a0 a1 a2 a3 v h3 hv _ _ _ (find_len h a) l.length 0 k (by omega) (by omega)
theorem EventTells : augurylaw05_EventTells.Pure := by
  intro l x a hl hx ha
  have h : OkS l := hl
  have h3 : x.f3.size ≤ 140737488351232 := hx.2.2.2.1
  have hv : x.f4.length ≤ 140737488351232 := hx.2.2.2.2.1
  obtain ⟨K, bs, hs⟩ := greats_ex l h.1 (fun i hi => (oks_at h i hi).2.1)
  obtain ⟨bx, gx⟩ := great_ex x.f0 x.f1 x.f2 x.f3 x.f4 (ok_len hx)
  obtain ⟨k, hk⟩ : ∃ k : Nat, K + 40000000000000000000000000000 ≤ k := ⟨_, Nat.le_refl _⟩
  refine ⟨k + 1, ?_⟩
  have hj := fun g => tells_j0 l h a ha x.f0 x.f1 x.f2 x.f3 x.f4 h3 hv g k (by omega)
  unfold augurylaw05_EventTells.f
  rw [leO_ge augurylaw05_head.mono head_ok (by omega), Option.bind_some, hs _ (by omega), Option.bind_some, gx _ (by omega), Option.bind_some]
  split
  · exact hj true
  · split
    · exact hj true
    · exact hj _
end Go.Proofs.Ytbnjhmcbkocdjaa.Pure
