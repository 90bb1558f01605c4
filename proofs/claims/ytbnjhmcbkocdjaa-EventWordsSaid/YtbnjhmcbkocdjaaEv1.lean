/- Events of layer 5, plain: is too much said of one, and which of two is ahead. -/
import Derived.Test.YtbnjhmcbkocdjaaPAllx30
import Derived.Test.YtbnjhmcbkocdjaaPAllx31
import Derived.Test.YtbnjhmcbkocdjaaPAllx32
import Derived.Test.YtbnjhmcbkocdjaaPAllx34
namespace Go.Proofs.Ytbnjhmcbkocdjaa.Pure
open Go.Proofs.Ytbnjhmcbkocdjaa.PAll
open Go.RowKit Go.Proofs.YtbnjhmcbkocdjaaW.PrintWords Go.Proofs.YtbnjhmcbkocdjaaW.PrintLast Go.Proofs.YtbnjhmcbkocdjaaW.PrintMore
set_option linter.unusedVariables false
set_option linter.unusedSimpArgs false
theorem leO_le {α : Type} {f : Nat → Option α} (hm : ∀ k, LeO (f k) (f (k + 1))) {x : α} {k : Nat} (h : f k = some x) : ∀ d, f (k + d) = some x
  | 0 => h
  | d + 1 => hm _ _ (leO_le hm h d)
theorem leO_ge {α : Type} {f : Nat → Option α} (hm : ∀ k, LeO (f k) (f (k + 1))) {x : α} {k j : Nat} (h : f k = some x) (hj : k ≤ j) : f j = some x := by
  obtain ⟨d, rfl⟩ := Nat.exists_eq_add_of_le hj
  exact leO_le hm h d
theorem wrap_id {n : Int} (h0 : -9223372036854775808 ≤ n) (h1 : n ≤ 9223372036854775807) : wrap64 n = n := by unfold wrap64; omega
theorem head_ok : augurylaw05_head.f 40 = some true := by kernel_rfl
theorem read_word (f : Ieee.Format) (neg : Bool) (r : Nat) (h : r ≤ f.infRung) : (f.read (f.word neg r)).order (f.read (f.word neg r)) = some .eq := by
  have hb := f.infRung_lt
  have hw : f.word neg r % f.signWeight = r := by
    unfold Ieee.Format.word
    cases neg
    · simp only [Bool.false_eq_true, if_false]
      first | exact Nat.mod_eq_of_lt (by omega) | (rw [Nat.zero_add]; exact Nat.mod_eq_of_lt (by omega))
    · simp only [if_true]
      first | (rw [Nat.add_mod_left]; exact Nat.mod_eq_of_lt (by omega)) | (rw [Nat.add_mod_right]; exact Nat.mod_eq_of_lt (by omega))
  unfold Ieee.Format.read
  simp only [hw]
  by_cases h1 : r < f.binade
  · rw [if_pos h1]
    simp [Ieee.Datum.order]
  · rw [if_neg h1]
    by_cases h2 : r < f.infRung
    · rw [if_pos h2]
      simp [Ieee.Datum.order]
    · rw [if_neg h2, if_pos (by omega)]
      simp [Ieee.Datum.order]
theorem order_nearest (f : Ieee.Format) (neg : Bool) (mag : Nat) (place : Int) : f.order (f.nearest neg mag place) (f.nearest neg mag place) = some .eq := by
  unfold Ieee.Format.order Ieee.Format.nearest
  split
  · exact read_word f neg 0 (Nat.zero_le _)
  · exact read_word f neg _ (Nat.min_le_right _ _)
theorem flEq_ofInt (n : Int) : flEq (floatOfInt .f64 n) (floatOfInt .f64 n) = true := by
  unfold flEq floatOfInt
  have h : (FloatKind.f64.format.order (FloatKind.f64.nearest n) (FloatKind.f64.nearest n)) = some .eq := order_nearest _ _ _ _
  rw [h]; rfl
/-- Is one ahead of another one. -/
def lessE (a0 a1 a2 b0 b1 b2 : Int) : Bool := if a0 = b0 then (if a1 = b1 then decide (a2 < b2) else decide (a1 < b1)) else decide (a0 < b0)
theorem less_eq (k : Nat) (a0 a1 a2 : Int) (a3 : ByteArray) (a4 : List S52) (b0 b1 b2 : Int) (b3 : ByteArray) (b4 : List S52) :
    event_Less.f (k + 1) a0 a1 a2 a3 a4 b0 b1 b2 b3 b4 = some (lessE a0 a1 a2 b0 b1 b2) := by
  unfold event_Less.f event_when.f lessE
  simp only [Option.bind_some, event_Less.j0]
  by_cases h0 : a0 = b0
  · subst h0
    by_cases h1 : a1 = b1
    · subst h1
      simp [flEq_ofInt]
    · have : (a1 == b1) = false := by simp [h1]
      simp [h1]
  · simp [h0]
theorem great_l0 (a0 a1 a2 : Int) (a3 : ByteArray) (l : List S52) (hl : l.length ≤ 9223372036854775807) : ∀ (d : Nat) (n i : Int), 0 ≤ i → i + d = l.length → ∃ b, augurylaw05_GreatEvent.l0 (d + 1) n i a0 a1 a2 a3 l = some b
  | 0, n, i, h0, h1 => by
    unfold augurylaw05_GreatEvent.l0
    rw [if_neg (by omega)]
    exact ⟨_, rfl⟩
  | d + 1, n, i, h0, h1 => by
    unfold augurylaw05_GreatEvent.l0
    rw [if_pos (by omega), if_pos h0, wrap_id (n := i + 1) (by omega) (by omega)]
    split
    · exact great_l0 a0 a1 a2 a3 l hl d _ (i + 1) (by omega) (by omega)
    · exact ⟨_, rfl⟩
theorem great_ex (a0 a1 a2 : Int) (a3 : ByteArray) (l : List S52) (hl : l.length ≤ 9223372036854775807) : ∃ b, ∀ k, l.length + 1 ≤ k → augurylaw05_GreatEvent.f k a0 a1 a2 a3 l = some b := by
  obtain ⟨b, hb⟩ := great_l0 a0 a1 a2 a3 l hl l.length (wrap64 ((a3.size : Int) + (l.length : Int))) 0 (Int.le_refl _) (by omega)
  exact ⟨b, fun k hk => leO_ge (f := fun k => augurylaw05_GreatEvent.f k a0 a1 a2 a3 l) (fun k => augurylaw05_GreatEvent.mono _ _ _ _ _ k) hb hk⟩
theorem ok_len {x : S25} (h : ok25 x) : x.f4.length ≤ 9223372036854775807 := by
  have := h.2.2.2.2.1
  unfold maxLen at this
  omega
end Go.Proofs.Ytbnjhmcbkocdjaa.Pure
