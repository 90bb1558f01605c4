/- Words of layer 5, plain: event.Word and the document's Word tell alike what a word is. -/
import Derived.Test.YtbnjhmcbkocdjaaPAllx37
import Derived.Test.YtbnjhmcbkocdjaaPAllx6
import Derived.Test.YtbnjhmcbkocdjaaEv1
namespace Go.Proofs.Ytbnjhmcbkocdjaa.Pure
open Go.Proofs.Ytbnjhmcbkocdjaa.PAll
open Go.RowKit Go.Proofs.YtbnjhmcbkocdjaaW.PrintWords Go.Proofs.YtbnjhmcbkocdjaaW.PrintLast Go.Proofs.YtbnjhmcbkocdjaaW.PrintMore
set_option linter.unusedVariables false
set_option linter.unusedSimpArgs false
def okc (c : Int) (i : Nat) : Prop := (97 ≤ c ∧ c ≤ 122) ∨ (0 < i ∧ (c = 95 ∨ (48 ≤ c ∧ c ≤ 57)))
instance (c : Int) (i : Nat) : Decidable (okc c i) := by unfold okc; exact inferInstance
def WordP (s : ByteArray) : Prop := (∀ j, j < s.size → okc (bt s j) j) ∧ 1 ≤ s.size ∧ s.size ≤ 16
instance (s : ByteArray) : Decidable (WordP s) := by unfold WordP; exact inferInstance
def wordB (s : ByteArray) : Bool := decide (WordP s)
theorem toList_nil (s : ByteArray) : s.toList = ([] : List UInt8) ↔ s.size = 0 := by
  rw [ByteArray.toList_eq]
  rw [show s.size = s.data.toList.length from (by rw [Array.length_toList]; rfl)]
  exact List.length_eq_zero_iff.symm
theorem word_bad {s : ByteArray} {i : Nat} (hi : i < s.size) (h : ¬ okc (bt s i) i) : wordB s = false := by
  unfold wordB
  exact decide_eq_false fun q => h (q.1 i hi)
theorem word_l0 (s : ByteArray) (hs : s.size ≤ 9223372036854775807) : ∀ (d i : Nat), i + d = s.size → (∀ j, j < i → okc (bt s j) j) → ∀ k, 2 * d + 1 ≤ k → event_Word.l0 k s (s.size : Int) (i : Int) = some (wordB s)
  | 0, i, hi, hp, k, hk => by
    obtain ⟨k, rfl⟩ : ∃ m, k = m + 1 := ⟨k - 1, by omega⟩
    unfold event_Word.l0
    rw [if_neg (by omega)]
    by_cases h0 : s.toList = ([] : List UInt8)
    · rw [if_pos h0]
      have h1 := (toList_nil s).1 h0
      congr 1
      unfold wordB
      exact (decide_eq_false fun q => by have := q.2.1; omega).symm
    · rw [if_neg h0]
      have h1 : ¬ s.size = 0 := fun q => h0 ((toList_nil s).2 q)
      congr 1
      unfold wordB
      rw [decide_eq_decide]
      constructor
      · intro h
        exact ⟨fun j hj => hp j (by omega), by omega, by omega⟩
      · intro h
        have := h.2.2
        omega
  | d + 1, i, hi, hp, k, hk => by
    obtain ⟨k, rfl⟩ : ∃ m, k = m + 2 := ⟨k - 2, by omega⟩
    have ih : okc (bt s i) i → event_Word.l0 k s (s.size : Int) (wrap64 ((i : Int) + 1)) = some (wordB s) := by
      intro h
      rw [wrap_id (n := (i : Int) + 1) (by omega) (by omega)]
      refine word_l0 s hs d (i + 1) (by omega) (fun j hj => ?_) k (by omega)
      by_cases e : j = i
      · subst e; exact h
      · exact hp j (by omega)
    unfold event_Word.l0
    rw [if_pos (by omega), if_pos (by omega), if_pos (by omega)]
    have key : ∀ b : Bool, (b = true → 97 ≤ bt s i ∧ bt s i ≤ 122) → (b = false → ¬ (97 ≤ bt s i ∧ bt s i ≤ 122)) → event_Word.j1 (k + 1) s (i : Int) (bt s (i : Int)) (s.size : Int) (i : Int) b = some (wordB s) := by
      intro b h1 h2
      unfold event_Word.j1
      cases b with
      | true =>
        rw [if_pos rfl]
        exact ih (.inl (h1 rfl))
      | false =>
        rw [if_neg (by decide)]
        have h2 := h2 rfl
        by_cases h3 : (i : Int) > 0
        · rw [if_pos h3]
          by_cases h4 : bt s i = 95
          · rw [if_pos h4]
            exact ih (.inr ⟨by omega, .inl h4⟩)
          · rw [if_neg h4]
            by_cases h5 : bt s i ≥ 48
            · rw [if_pos h5]
              by_cases h6 : bt s i ≤ 57
              · rw [if_pos h6]
                exact ih (.inr ⟨by omega, .inr ⟨h5, h6⟩⟩)
              · rw [if_neg h6, word_bad (i := i) (by omega) (by unfold okc; omega)]
            · rw [if_neg h5, word_bad (i := i) (by omega) (by unfold okc; omega)]
        · rw [if_neg h3, word_bad (i := i) (by omega) (by unfold okc; omega)]
    by_cases h7 : bt s i ≥ 97
    · rw [if_pos h7]
      exact key _ (fun h => ⟨h7, of_decide_eq_true h⟩) (fun h q => by have := of_decide_eq_false h; omega)
    · rw [if_neg h7]
      exact key _ (fun h => by cases h) (fun _ q => by omega)
theorem word_eq (s : ByteArray) (hs : s.size ≤ 9223372036854775807) (k : Nat) (hk : 2 * s.size + 1 ≤ k) : event_Word.f k s = some (wordB s) :=
  word_l0 s hs s.size 0 (by omega) (fun j hj => by omega) k hk
theorem wordr_l0 (s : ByteArray) (hs : s.size ≤ 9223372036854775807) : ∀ (d i : Nat), i + d = s.size → (∀ j, j < i → okc (bt s j) j) → ∀ k, d + 1 ≤ k → auguryref05_Word.l0 k s (i : Int) = some (wordB s)
  | 0, i, hi, hp, k, hk => by
    obtain ⟨k, rfl⟩ : ∃ m, k = m + 1 := ⟨k - 1, by omega⟩
    unfold auguryref05_Word.l0
    rw [if_neg (by omega)]
    by_cases h0 : (s.size : Int) ≥ 1
    · rw [if_pos h0]
      congr 1
      unfold wordB
      rw [decide_eq_decide]
      constructor
      · intro h
        exact ⟨fun j hj => hp j (by omega), by omega, by omega⟩
      · intro h
        have := h.2.2
        omega
    · rw [if_neg h0]
      congr 1
      unfold wordB
      exact (decide_eq_false fun q => by have := q.2.1; omega).symm
  | d + 1, i, hi, hp, k, hk => by
    obtain ⟨k, rfl⟩ : ∃ m, k = m + 1 := ⟨k - 1, by omega⟩
    have ih : okc (bt s i) i → auguryref05_Word.l0 k s (wrap64 ((i : Int) + 1)) = some (wordB s) := by
      intro h
      rw [wrap_id (n := (i : Int) + 1) (by omega) (by omega)]
      refine wordr_l0 s hs d (i + 1) (by omega) (fun j hj => ?_) k (by omega)
      by_cases e : j = i
      · subst e; exact h
      · exact hp j (by omega)
    have bad : ¬ okc (bt s i) i → some false = some (wordB s) := fun h => by rw [word_bad (i := i) (by omega) h]
    unfold auguryref05_Word.l0
    rw [if_pos (by omega), if_pos (by omega)]
    split
    · split
      · exact ih (.inl ⟨by omega, by omega⟩)
      · split
        · exact bad (by unfold okc; omega)
        · split
          · exact ih (.inr ⟨by omega, .inl (by omega)⟩)
          · split
            · exact bad (by unfold okc; omega)
            · split
              · exact bad (by unfold okc; omega)
              · exact ih (.inr ⟨by omega, .inr ⟨by omega, by omega⟩⟩)
    · split
      · exact bad (by unfold okc; omega)
      · split
        · exact ih (.inr ⟨by omega, .inl (by omega)⟩)
        · split
          · exact bad (by unfold okc; omega)
          · split
            · exact bad (by unfold okc; omega)
            · exact ih (.inr ⟨by omega, .inr ⟨by omega, by omega⟩⟩)
theorem wordr_eq (s : ByteArray) (hs : s.size ≤ 9223372036854775807) (k : Nat) (hk : s.size + 1 ≤ k) : auguryref05_Word.f k s = some (wordB s) :=
  wordr_l0 s hs s.size 0 (by omega) (fun j hj => by omega) k hk
end Go.Proofs.Ytbnjhmcbkocdjaa.Pure
