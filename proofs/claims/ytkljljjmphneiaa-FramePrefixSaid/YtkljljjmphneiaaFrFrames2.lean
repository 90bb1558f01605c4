/- What is cut of frames, one behind the other. -/
import Derived.Test.YtkljljjmphneiaaPAllx27
import Derived.Test.YtkljljjmphneiaaPAllx29
import Derived.Test.YtkljljjmphneiaaPAllx30
import Derived.Test.YtkljljjmphneiaaFrFrames
namespace Go.Proofs.Ytkljljjmphneiaa.Pure
open Go.RowKit Go.Proofs.Ytkljljjmphneiaa.PAll Go.Proofs.YtkljljjmphneiaaW.PrintWords Go.Proofs.YtkljljjmphneiaaW.PrintLast
theorem frameL_good {r : ByteArray} (h : r.size ≤ 4096) : frameL r = (82 : Int) :: ((r.size : Int) / 256) :: ((r.size : Int) % 256) :: (sumS r / 256) :: (sumS r % 256) :: bytesOf r := by
  unfold frameL
  rw [if_neg (by omega)]
theorem frameL_len {r : ByteArray} (h : r.size ≤ 4096) : (frameL r).length = 5 + r.size := by
  rw [frameL_good h]
  simp only [List.length_cons, bytesOf_length]
  omega
theorem frameL_bad {r : ByteArray} (h : 4096 < r.size) : frameL r = [] := by
  unfold frameL
  rw [if_pos h]
theorem frameL_bytes (r : ByteArray) : Bytes (frameL r) := by
  have hs := sumS_nat r
  by_cases h : r.size ≤ 4096
  · rw [frameL_good h]
    intro x hx
    simp only [List.mem_cons] at hx
    rcases hx with rfl | rfl | rfl | rfl | rfl | hx
    · decide
    · omega
    · omega
    · omega
    · omega
    · exact bytesOf_bytes r x hx
  · rw [frameL_bad (by omega)]
    intro x hx
    cases hx
theorem parse1_frame {r : ByteArray} (h : r.size ≤ 4096) (rest : List Int) : parse1 (frameL r ++ rest) = some r := by
  have hs := sumS_nat r
  have hl : (frameL r ++ rest).length = 5 + r.size + rest.length := by rw [List.length_append, frameL_len h]
  have e1 : two (frameL r ++ rest) 1 = r.size := by
    rw [frameL_good h]
    show 256 * ((r.size : Int) / 256).toNat + ((r.size : Int) % 256).toNat = r.size
    omega
  have e3 : (two (frameL r ++ rest) 3 : Int) = sumS r := by
    rw [frameL_good h]
    show ((256 * (sumS r / 256).toNat + (sumS r % 256).toNat : Nat) : Int) = sumS r
    omega
  have er : recAt (frameL r ++ rest) 0 r.size = r := by
    unfold recAt
    rw [List.drop_take, show 0 + 5 = 5 from rfl, show 5 + r.size - 5 = r.size by omega, frameL_good h]
    show strOfNums ((bytesOf r ++ rest).take r.size) = r
    rw [List.take_left' (bytesOf_length r), strOfNums_bytesOf]
  unfold parse1
  rw [if_neg (by rw [hl]; rintro (h1 | h1); omega; exact h1 (by rw [frameL_good h]; rfl)), e1, if_neg (by rw [hl]; omega), e3, er, if_pos rfl]
theorem parse1_some {l : List Int} (hb : Bytes l) {r : ByteArray} (h : parse1 l = some r) : r.size ≤ 4096 ∧ l = frameL r ++ l.drop (5 + r.size) := by
  unfold parse1 at h
  split at h
  · cases h
  rename_i c1
  split at h
  · cases h
  rename_i c2
  split at h
  · rename_i c3
    have c1 := not_or.1 c1
    have c2 := not_or.1 c2
    have hz := recAt_size l 0 (two l 1) (by omega)
    cases h
    rw [hz]
    refine ⟨by omega, ?_⟩
    obtain ⟨x0, x1, x2, x3, x4, t, rfl⟩ : ∃ x0 x1 x2 x3 x4 t, l = x0 :: x1 :: x2 :: x3 :: x4 :: t := by
      match l, c1.1 with
      | x0 :: x1 :: x2 :: x3 :: x4 :: t, _ => exact ⟨x0, x1, x2, x3, x4, t, rfl⟩
      | [_, _, _, _], c => exact absurd (by simp) c
      | [_, _, _], c => exact absurd (by simp) c
      | [_, _], c => exact absurd (by simp) c
      | [_], c => exact absurd (by simp) c
      | [], c => exact absurd (by simp) c
    have b0 : x0 = 82 := Decidable.of_not_not c1.2
    have b1 := hb x1 (by simp)
    have b2 := hb x2 (by simp)
    have b3 := hb x3 (by simp)
    have b4 := hb x4 (by simp)
    have em : two (x0 :: x1 :: x2 :: x3 :: x4 :: t) 1 = 256 * x1.toNat + x2.toNat := rfl
    have es : two (x0 :: x1 :: x2 :: x3 :: x4 :: t) 3 = 256 * x3.toNat + x4.toNat := rfl
    rw [frameL_good (by rw [hz]; omega), c3, hz, es]
    rw [em] at c2 hz ⊢
    have ht : bytesOf (recAt (x0 :: x1 :: x2 :: x3 :: x4 :: t) 0 (256 * x1.toNat + x2.toNat)) = t.take (256 * x1.toNat + x2.toNat) := by
      have : recAt (x0 :: x1 :: x2 :: x3 :: x4 :: t) 0 (256 * x1.toNat + x2.toNat) = strOfNums (t.take (256 * x1.toNat + x2.toNat)) := by
        unfold recAt
        rw [List.drop_take, show 0 + 5 = 5 from rfl, show 5 + (256 * x1.toNat + x2.toNat) - 5 = 256 * x1.toNat + x2.toNat by omega]
        rfl
      rw [this, bytesOf_strOfNums (fun x hx => hb x (by simp [List.mem_of_mem_take hx]))]
    rw [ht, show (5 + (256 * x1.toNat + x2.toNat)) = (256 * x1.toNat + x2.toNat) + 5 by omega]
    simp only [List.cons_append, List.drop_succ_cons, List.take_append_drop, List.cons.injEq, and_true]
    refine ⟨b0, by omega, by omega, by omega, by omega⟩
  · cases h
theorem cutL_frame {r : ByteArray} (h : r.size ≤ 4096) (n : Nat) (rest : List Int) : cutL (n + 1) (frameL r ++ rest) = (r :: (cutL n rest).1, 5 + r.size + (cutL n rest).2) := by
  rw [cutL, parse1_frame h]
  simp only
  rw [List.drop_left' (frameL_len h)]
theorem cutL_none {l : List Int} (h : parse1 l = none) (n : Nat) : cutL n l = ([], 0) := by
  cases n with
  | zero => rfl
  | succ n => rw [cutL, h]
theorem frames_cons (r : ByteArray) (rs : List ByteArray) : frames (r :: rs) = frameL r ++ frames rs := by
  unfold frames
  rw [List.flatMap_cons]
theorem frames_append (a b : List ByteArray) : frames (a ++ b) = frames a ++ frames b := by
  unfold frames
  rw [List.flatMap_append]
theorem frames_good (rs : List ByteArray) : frames (rs.filter good) = frames rs := by
  induction rs with
  | nil => rfl
  | cons r rs ih =>
    rw [frames_cons, List.filter_cons]
    unfold good at *
    by_cases h : r.size ≤ 4096
    · rw [if_pos (by simpa using h), frames_cons, ih]
    · rw [if_neg (by simpa using h), ih, frameL_bad (by omega)]
      rfl
theorem frames_bytes (rs : List ByteArray) : Bytes (frames rs) := by
  intro x hx
  obtain ⟨r, _, h⟩ := List.mem_flatMap.1 hx
  exact frameL_bytes r x h
theorem cutL_frames {rs : List ByteArray} (hg : ∀ r ∈ rs, r.size ≤ 4096) (n : Nat) (rest : List Int) : cutL (n + rs.length) (frames rs ++ rest) = (rs ++ (cutL n rest).1, (frames rs).length + (cutL n rest).2) := by
  induction rs with
  | nil => simp [frames]
  | cons r rs ih =>
    have h := hg r (by simp)
    rw [frames_cons, List.append_assoc, List.length_cons, ← Nat.add_assoc, cutL_frame h, ih (fun x hx => hg x (by simp [hx])), List.length_append, frameL_len h]
    simp only [List.cons_append, Nat.add_assoc]
theorem parse1_nil : parse1 [] = none := by
  unfold parse1
  rw [if_pos (Or.inl (by decide))]
theorem cutL_all {rs : List ByteArray} (hg : ∀ r ∈ rs, r.size ≤ 4096) (n : Nat) (hn : rs.length ≤ n) : cutL n (frames rs) = (rs, (frames rs).length) := by
  have := cutL_frames hg (n - rs.length) []
  rw [Nat.sub_add_cancel hn, List.append_nil, cutL_none parse1_nil] at this
  simpa using this
end Go.Proofs.Ytkljljjmphneiaa.Pure
