/- The law FrameTells, of lists and numbers alone: sums, frames, and what is cut, are the document's. -/
import Derived.Test.YtkljljjmphneiaaPAllx28
import Derived.Test.YtkljljjmphneiaaFrLaws
namespace Go.Proofs.Ytkljljjmphneiaa.Pure
open Go.RowKit Go.Proofs.Ytkljljjmphneiaa.PAll Go.Proofs.YtkljljjmphneiaaW.PrintWords Go.Proofs.YtkljljjmphneiaaW.PrintLast
theorem FrameTells : augurylaw02_FrameTells.Pure := by
  intro a l _ _ _ hw
  have hb := bytes_of_wf hw
  have h2 : (2 : Nat) ^ 40 = 1099511627776 := by decide
  obtain ⟨K, hK⟩ : ∃ K : Nat, K = 1000000 := ⟨_, rfl⟩
  refine ⟨K + 1, ?_⟩
  unfold augurylaw02_FrameTells.f
  rw [head_ok (by omega), Option.bind_some]
  by_cases c : (a.size : Int) > 9000
  · rw [if_pos c]
    simp [augurylaw02_FrameTells.j0]
  rw [if_neg c]
  rw [augurylaw02_FrameTells.j0]
  by_cases d : (l.length : Int) > 20000
  · rw [decide_eq_true d]
    simp
  rw [decide_eq_false d, if_neg (by simp)]
  have hc := cutL_le 20001 l
  simp only [frame_cut hb (by omega) 20001 K (by omega) (by omega), ref_cutL hb (by omega) 20001 K (by omega) (by omega), Option.bind_some, if_true, frame_sum a (k := K) (by omega) (by omega), ref_sum a (k := K) (by omega) (by omega), frame_put a (k := K) (by omega), ref_put a (k := K) (by omega), same_self (l := (cutL 20001 l).1) (k := K) (by omega) (by omega)]
end Go.Proofs.Ytkljljjmphneiaa.Pure
