/- The law FrameJoin, of lists and numbers alone: two rows of frames, one behind the other, are cut to both; what stands behind a torn end is not seen. -/
import Derived.Test.YtkljljjmphneiaaPAllx35
import Derived.Test.YtkljljjmphneiaaFrLaws2
namespace Go.Proofs.Ytkljljjmphneiaa.Pure
open Go.RowKit Go.Proofs.Ytkljljjmphneiaa.PAll Go.Proofs.YtkljljjmphneiaaW.PrintWords Go.Proofs.YtkljljjmphneiaaW.PrintLast
theorem cut_torn (l : List ByteArray) (hl : l.length < 30000) {t : Int} (ht : 0 ≤ t ∧ t < 82) (rest : List Int) (hr : Bytes rest) (hf : (frames l ++ [t] ++ rest).length < 1000000) {k : Nat} (hk : 6000000 < k) :
    frame_Cut.f k (frames l ++ [t] ++ rest) = some (l.filter good, ((frames l).length : Int)) := by
  have hB : Bytes (frames l ++ [t] ++ rest) := by
    intro x hx
    rw [List.mem_append, List.mem_append, List.mem_singleton] at hx
    rcases hx with (hx | rfl) | hx
    · exact frames_bytes l x hx
    · omega
    · exact hr x hx
  have hp : parse1 (t :: rest) = none := by
    unfold parse1
    rw [if_pos (Or.inr ?_)]
    show t ≠ 82
    omega
  have hle := List.length_filter_le good l
  have := cutL_frames (filter_good l) 1100000 (t :: rest)
  rw [cutL_none hp, frames_good] at this
  rw [frame_cut hB hf (1100000 + (l.filter good).length) k (by omega) (by omega), show frames l ++ [t] ++ rest = frames l ++ (t :: rest) by simp, this]
  simp
theorem join_j0 (a b : List ByteArray) (c : Int) (hc : 0 ≤ c ∧ c ≤ 255) (ha : a.length < 30000) (hb : b.length < 30000) (fa : (frames a).length < 400000) (fb : (frames b).length < 400000) (k : Nat) (hk : 7000000 < k) :
    augurylaw02_FrameJoin.j0 (k + 2) a b c true false = some true := by
  have la := List.length_filter_le good a
  have lb := List.length_filter_le good b
  have hab := frames_append a b
  have h3 : frame_Cut.f (k + 1) (frames a ++ frames b) = some (a.filter good ++ b.filter good, ((frames a).length + (frames b).length : Int)) := by
    have hl : (frames a ++ frames b).length < 1000000 := by rw [List.length_append]; omega
    have hf : a.filter good ++ b.filter good = (a ++ b).filter good := by rw [List.filter_append]
    have hg := filter_good (a ++ b)
    rw [← hf] at hg
    have := cutL_all hg 1100000 (by rw [List.length_append]; omega)
    rw [hf, frames_good, frames_append] at this
    rw [frame_cut (by rw [← hab]; exact frames_bytes _) hl 1100000 (k + 1) (by omega) (by omega), this, hf, List.length_append]
    simp
  have m1 : Int.tmod c 82 = c % 82 := Int.tmod_eq_emod_of_nonneg hc.1
  rw [augurylaw02_FrameJoin.j0]
  rw [if_neg (by simp)]
  rw [all_ok ha (by omega) (by omega), Option.bind_some, all_ok hb (by omega) (by omega), Option.bind_some, cut_all a ha (by omega) (by omega), Option.bind_some, cut_all b hb (by omega) (by omega), Option.bind_some, Option.bind_some, List.nil_append]
  rw [if_pos (by simp; omega), Option.bind_some, if_pos (by omega), h3, Option.bind_some, Option.bind_some]
  dsimp only
  rw [List.nil_append, if_pos (by simp; omega), Option.bind_some, if_pos (by omega), same_self (by rw [List.length_append]; omega) (by rw [List.length_append]; omega), Option.bind_some, if_pos rfl]
  rw [wrapN (n := ((frames a).length : Int) + ((frames b).length : Int)) (by omega) (by omega), show (((frames a).length : Int) + ((frames b).length : Int) != ((frames a).length : Int) + ((frames b).length : Int)) = false by simp]
  rw [augurylaw02_FrameJoin.j1]
  rw [if_neg (by simp), Option.bind_some, List.nil_append, if_pos (by simp; omega), Option.bind_some, if_pos (by omega), Option.bind_some, if_pos (by rw [List.length_append, List.length_singleton]; omega), m1]
  rw [cut_torn a ha (by omega) _ (frames_bytes b) (by rw [List.length_append, List.length_append, List.length_singleton]; omega) (by omega), Option.bind_some, if_pos rfl]
  dsimp only
  rw [same_self (by omega) (by omega), Option.bind_some, if_pos rfl, if_pos rfl]
theorem FrameJoin : augurylaw02_FrameJoin.Pure := by
  intro a b c _ _ hw
  have hc : 0 ≤ c ∧ c ≤ 255 := by simpa [Lit.wf, IntKind.min, IntKind.max, IntKind.bits, IntKind.signed] using hw
  obtain ⟨K, hK⟩ : ∃ K : Nat, K = 10000000 := ⟨_, rfl⟩
  refine ⟨K + 2, ?_⟩
  unfold augurylaw02_FrameJoin.f
  rw [head_ok (by omega), Option.bind_some]
  obtain ⟨r, h1, h2⟩ := great_ok a (k := K + 2) (by omega)
  rw [h1, Option.bind_some]
  cases r with
  | true =>
    rw [if_pos rfl]
    simp [augurylaw02_FrameJoin.j0]
  | false =>
    rw [if_neg (by simp)]
    obtain ⟨r', h3, h4⟩ := great_ok b (k := K + 2) (by omega)
    rw [h3, Option.bind_some]
    cases r' with
    | true => simp [augurylaw02_FrameJoin.j0]
    | false =>
      have h2 := h2 rfl
      have h4 := h4 rfl
      have f1 := frames_len a
      have f2 := frames_len b
      exact join_j0 a b c hc (by omega) (by omega) (by omega) (by omega) K (by omega)
end Go.Proofs.Ytkljljjmphneiaa.Pure
