/- The laws' own helpers: head, great, all, Same. -/
import Derived.Test.YtkljljjmphneiaaPAllx23
import Derived.Test.YtkljljjmphneiaaPAllx27
import Derived.Test.YtkljljjmphneiaaPAllx29
import Derived.Test.YtkljljjmphneiaaPAllx30
import Derived.Test.YtkljljjmphneiaaFrFrames2
namespace Go.Proofs.Ytkljljjmphneiaa.Pure
open Go.RowKit Go.Proofs.Ytkljljjmphneiaa.PAll Go.Proofs.YtkljljjmphneiaaW.PrintWords Go.Proofs.YtkljljjmphneiaaW.PrintLast
theorem bytes_of_wf {l : List Int} (h : ∀ x ∈ l, (Lit.int .u8 x).wf = true) : Bytes l := by
  intro x hx
  have := h x hx
  simp [Lit.wf, IntKind.min, IntKind.max, IntKind.bits, IntKind.signed] at this
  omega
set_option maxRecDepth 100000 in
theorem head_30 : augurylaw02_head.f 60 = some true := by kernel_rfl
theorem leO_le {α : Type} {f : Nat → Option α} (hm : ∀ k, LeO (f k) (f (k + 1))) {x : α} {k : Nat} (h : f k = some x) : ∀ d, f (k + d) = some x
  | 0 => h
  | d + 1 => hm (k + d) x (leO_le hm h d)
theorem head_ok {k : Nat} (h : 60 ≤ k) : augurylaw02_head.f k = some true := by
  have := leO_le augurylaw02_head.mono head_30 (k - 60)
  rwa [show 60 + (k - 60) = k by omega] at this
theorem rdOf_nat {l : List ByteArray} {i : Nat} (h : i < l.length) : rdOf ByteArray.empty l (i : Int) = l[i] := by
  unfold rdOf
  rw [Int.toNat_natCast, List.getD_eq_getElem?_getD, List.getElem?_eq_getElem h]
  rfl
theorem same_l0 (l : List ByteArray) (hl : l.length < 1000000) : ∀ n i k : Nat, i + n = l.length → n < k → auguryref02_Same.l0 k l l (i : Int) = some true := by
  intro n
  induction n with
  | zero =>
    intro i k hi hk
    obtain ⟨k, rfl⟩ : ∃ m, k = m + 1 := ⟨k - 1, by omega⟩
    unfold auguryref02_Same.l0
    rw [if_neg (by omega)]
  | succ n ih =>
    intro i k hi hk
    obtain ⟨k, rfl⟩ : ∃ m, k = m + 1 := ⟨k - 1, by omega⟩
    unfold auguryref02_Same.l0
    rw [if_pos (by omega), if_pos (by omega), if_pos (by omega), if_pos rfl, wrapN (n := (i : Int) + 1) (by omega) (by omega)]
    exact ih (i + 1) k (by omega) (by omega)
theorem same_self {l : List ByteArray} (hl : l.length < 1000000) {k : Nat} (hk : l.length < k) : auguryref02_Same.f k l l = some true := by
  unfold auguryref02_Same.f
  rw [if_pos rfl]
  exact same_l0 l hl l.length 0 k (by omega) hk
theorem great_l0 (l : List ByteArray) (hl : l.length < 1000000) : ∀ n i s k : Nat, i + n = l.length → n < k → s < 100000 →
    ∃ r, augurylaw02_great.l0 k l (s : Int) (i : Int) = some r ∧ (r = false → s + ((l.drop i).map fun x => min x.size 30000).sum < 30000) := by
  intro n
  induction n with
  | zero =>
    intro i s k hi hk hs
    obtain ⟨k, rfl⟩ : ∃ m, k = m + 1 := ⟨k - 1, by omega⟩
    unfold augurylaw02_great.l0
    rw [if_neg (by omega)]
    refine ⟨_, rfl, fun h => ?_⟩
    have := of_decide_eq_false h
    rw [List.drop_eq_nil_of_le (by omega)]
    simp
    omega
  | succ n ih =>
    intro i s k hi hk hs
    obtain ⟨k, rfl⟩ : ∃ m, k = m + 1 := ⟨k - 1, by omega⟩
    unfold augurylaw02_great.l0
    rw [if_pos (by omega)]
    by_cases c : (s : Int) < 30000
    · rw [if_pos c, if_pos (by omega), rdOf_nat (by omega)]
      have hm : mn ((l[i].size : Nat) : Int) 30000 = ((min l[i].size 30000 : Nat) : Int) := by unfold mn; split <;> omega
      rw [hm, wrapN (n := (s : Int) + _) (by omega) (by omega), wrapN (n := (i : Int) + 1) (by omega) (by omega)]
      obtain ⟨r, h1, h2⟩ := ih (i + 1) (s + min l[i].size 30000) k (by omega) (by omega) (by omega)
      refine ⟨r, h1, fun h => ?_⟩
      have := h2 h
      rw [List.drop_eq_getElem_cons (by omega)]
      simp only [List.map_cons, List.sum_cons]
      omega
    · rw [if_neg c]
      refine ⟨_, rfl, fun h => ?_⟩
      have := of_decide_eq_false h
      omega
/-- It answers; where the answer is 'no', there are few records, and none is long. -/
theorem great_ok (l : List ByteArray) {k : Nat} (hk : 30001 < k) : ∃ r, augurylaw02_great.f k l = some r ∧ (r = false → l.length + (l.map fun x => min x.size 30000).sum < 30000) := by
  unfold augurylaw02_great.f
  by_cases c : l.length < 30000
  · obtain ⟨r, h1, h2⟩ := great_l0 l (by omega) l.length 0 l.length k (by omega) (by omega) (by omega)
    exact ⟨r, h1, fun h => by simpa using h2 h⟩
  · obtain ⟨k, rfl⟩ : ∃ m, k = m + 1 := ⟨k - 1, by omega⟩
    unfold augurylaw02_great.l0
    rw [if_pos (by omega), if_neg (by omega)]
    exact ⟨_, rfl, fun h => by have := of_decide_eq_false h; omega⟩
theorem frames_len (l : List ByteArray) : (frames l).length ≤ 5 * l.length + (l.map fun x => min x.size 30000).sum := by
  induction l with
  | nil => simp [frames]
  | cons r rs ih =>
    rw [frames_cons, List.length_append, List.length_cons, List.map_cons, List.sum_cons]
    by_cases h : r.size ≤ 4096
    · rw [frameL_len h]
      omega
    · rw [frameL_bad (by omega)]
      simp
      omega
theorem all_l0 (l : List ByteArray) (hl : l.length < 30000) (hf : (frames l).length < 1000000) : ∀ n i k : Nat, i + n = l.length → n + 5001 < k →
    augurylaw02_all.l0 k l (frames (l.take i)) (i : Int) = some (frames l) := by
  intro n
  induction n with
  | zero =>
    intro i k hi hk
    obtain ⟨k, rfl⟩ : ∃ m, k = m + 1 := ⟨k - 1, by omega⟩
    unfold augurylaw02_all.l0
    rw [if_neg (by omega), List.take_of_length_le (by omega)]
  | succ n ih =>
    intro i k hi hk
    obtain ⟨k, rfl⟩ : ∃ m, k = m + 1 := ⟨k - 1, by omega⟩
    unfold augurylaw02_all.l0
    have e : frames (l.take (i + 1)) = frames (l.take i) ++ frameL l[i] := by
      rw [← List.take_append_getElem (by omega), frames_append, frames_cons]
      simp [frames]
    have hle : (frames (l.take (i + 1))).length ≤ (frames l).length := by
      have : frames l = frames (l.take (i + 1)) ++ frames (l.drop (i + 1)) := by rw [← frames_append, List.take_append_drop]
      rw [this, List.length_append]
      omega
    rw [e, List.length_append] at hle
    rw [if_pos (by omega), if_pos (by omega), rdOf_nat (by omega), frame_put _ (by omega), Option.bind_some, if_pos (by omega), wrapN (n := (i : Int) + 1) (by omega) (by omega), ← e]
    exact ih (i + 1) k (by omega) (by omega)
theorem all_ok {l : List ByteArray} (hl : l.length < 30000) (hf : (frames l).length < 1000000) {k : Nat} (hk : 36000 < k) : augurylaw02_all.f k l = some (frames l) := by
  unfold augurylaw02_all.f
  have := all_l0 l hl hf l.length 0 k (by omega) (by omega)
  simpa [frames] using this
/-- How long the row of what is cut is. -/
theorem cutL_le : ∀ (n : Nat) (l : List Int), (cutL n l).1.length ≤ n
  | 0, _ => by simp [cutL]
  | n + 1, l => by
    unfold cutL
    split
    · simp
    · have := cutL_le n (l.drop (5 + (by assumption : ByteArray).size))
      simpa using cutL_le n _
end Go.Proofs.Ytkljljjmphneiaa.Pure
