/- What is cut of all frames of a row of records. -/
import Derived.Test.YtkljljjmphneiaaFrLaws
namespace Go.Proofs.Ytkljljjmphneiaa.Pure
open Go.RowKit Go.Proofs.Ytkljljjmphneiaa.PAll Go.Proofs.YtkljljjmphneiaaW.PrintWords Go.Proofs.YtkljljjmphneiaaW.PrintLast
theorem filter_good (l : List ByteArray) : ∀ r ∈ l.filter good, r.size ≤ 4096 := by
  intro r hr
  have := (List.mem_filter.1 hr).2
  unfold good at this
  simpa using this
theorem cut_all (l : List ByteArray) (hl : l.length < 30000) (hf : (frames l).length < 1000000) {k : Nat} (hk : 6000000 < k) :
    frame_Cut.f k (frames l) = some (l.filter good, ((frames l).length : Int)) := by
  rw [frame_cut (frames_bytes l) hf 1100000 k (by omega) (by omega), ← frames_good l, cutL_all (filter_good l) _ (by have := List.length_filter_le good l; omega), frames_good l]
end Go.Proofs.Ytkljljjmphneiaa.Pure
