/- The law ValueReads, of lists and numbers alone: what the program reads of any bytes is what the document does, for every row of bytes. -/
import Derived.Test.YtlbaoekmnfeogaaPAllx18
import Derived.Test.YtlbaoekmnfeogaaPAllx30
import Derived.Test.YtlbaoekmnfeogaaVal
namespace Go.Proofs.Ytlbaoekmnfeogaa.Pure
open Go.RowKit Go.Proofs.Ytlbaoekmnfeogaa.PAll Go.Proofs.YtlbaoekmnfeogaaW.PrintWords Go.Proofs.YtlbaoekmnfeogaaW.PrintLast
theorem head_ok : augurylaw04_head.f 20 = some true := by kernel_rfl
theorem ValueReads : augurylaw04_ValueReads.Pure := by
  intro l0 hm hl hw
  refine ⟨20, ?_⟩
  unfold augurylaw04_ValueReads.f
  rw [head_ok]
  simp only [Option.bind_some]
  by_cases c : (l0.length : Int) > 9000
  · rw [if_pos c]; rfl
  · rw [if_neg c]
    obtain ⟨r, h1, h2⟩ := get_eq l0 (bytes_of_wf hw) (by omega) 20 (by omega)
    rw [h1, h2]
    simp
end Go.Proofs.Ytlbaoekmnfeogaa.Pure
