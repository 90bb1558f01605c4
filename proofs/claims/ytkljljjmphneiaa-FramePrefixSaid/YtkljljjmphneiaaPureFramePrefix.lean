/- The law FramePrefix, of lists and numbers alone: what is cut are the frames that bytes begin with; what stands behind begins with none. -/
import Derived.Test.YtkljljjmphneiaaPAllx33
import Derived.Test.YtkljljjmphneiaaFrLaws2
namespace Go.Proofs.Ytkljljjmphneiaa.Pure
open Go.RowKit Go.Proofs.Ytkljljjmphneiaa.PAll Go.Proofs.YtkljljjmphneiaaW.PrintWords Go.Proofs.YtkljljjmphneiaaW.PrintLast
theorem cutL_prefix : ∀ (n : Nat) (l : List Int), Bytes l → l.length < n → (cutL n l).2 ≤ l.length ∧ frames (cutL n l).1 = l.take (cutL n l).2 ∧ parse1 (l.drop (cutL n l).2) = none
  | 0, l, _, h => by omega
  | n + 1, l, hb, h => by
    cases e : parse1 l with
    | none =>
      rw [cutL_none e]
      refine ⟨by simp, by simp [frames], by simpa using e⟩
    | some r =>
      obtain ⟨hr, hl⟩ := parse1_some hb e
      have hd : Bytes (l.drop (5 + r.size)) := fun x hx => hb x (List.mem_of_mem_drop hx)
      have hlen := congrArg List.length hl
      rw [List.length_append, frameL_len hr] at hlen
      obtain ⟨h1, h2, h3⟩ := cutL_prefix n (l.drop (5 + r.size)) hd (by omega)
      have hc : cutL (n + 1) l = (r :: (cutL n (l.drop (5 + r.size))).1, 5 + r.size + (cutL n (l.drop (5 + r.size))).2) := by rw [cutL, e]
      rw [hc]
      generalize cutL n (l.drop (5 + r.size)) = q at h1 h2 h3 ⊢
      dsimp only
      refine ⟨by omega, ?_, ?_⟩
      · rw [frames_cons, h2]
        have ht : l.take (5 + r.size + q.2) = (frameL r ++ l.drop (5 + r.size)).take (5 + r.size + q.2) := by rw [← hl]
        rw [ht, List.take_append, List.take_of_length_le (l := frameL r) (by rw [frameL_len hr]; omega), frameL_len hr, show 5 + r.size + q.2 - (5 + r.size) = q.2 by omega]
      · rw [← List.drop_drop]
        exact h3
theorem FramePrefix : augurylaw02_FramePrefix.Pure := by
  intro l _ _ hw
  have hb := bytes_of_wf hw
  obtain ⟨K, hK⟩ : ∃ K : Nat, K = 10000000 := ⟨_, rfl⟩
  refine ⟨K, ?_⟩
  unfold augurylaw02_FramePrefix.f
  rw [head_ok (by omega), Option.bind_some]
  by_cases c : (l.length : Int) > 20000
  · rw [if_pos c, if_pos rfl]
  rw [if_neg c, frame_cut hb (by omega) 20001 K (by omega) (by omega), Option.bind_some]
  obtain ⟨h1, h2, h3⟩ := cutL_prefix 20001 l hb (by omega)
  have h4 := cutL_le 20001 l
  generalize cutL 20001 l = q at h1 h2 h3 h4 ⊢
  dsimp only
  have hf : (frames q.1).length ≤ 20000 := by rw [h2, List.length_take]; omega
  rw [if_neg (by omega), if_neg (by omega), all_ok (by omega) (by omega) (by omega), Option.bind_some, if_pos (by omega), if_pos (by omega), Int.toNat_natCast, h2, if_pos rfl]
  rw [frame_cut (fun x hx => hb x (List.mem_of_mem_drop hx)) (by rw [List.length_drop]; omega) 20001 K (by rw [List.length_drop]; omega) (by omega), cutL_none h3, Option.bind_some]
  rfl
end Go.Proofs.Ytkljljjmphneiaa.Pure
