/- The law ValueTells, of values alone: the program's sums, comparisons and bytes of any two values are the document's. -/
import Derived.Test.YtlbaoekmnfeogaaPAllx18
import Derived.Test.YtlbaoekmnfeogaaPAllx27
import Derived.Test.YtlbaoekmnfeogaaVal3
namespace Go.Proofs.Ytlbaoekmnfeogaa.Pure
open Go.RowKit Go.Proofs.Ytlbaoekmnfeogaa.PAll Go.Proofs.YtlbaoekmnfeogaaW.PrintWords Go.Proofs.YtlbaoekmnfeogaaW.PrintLast
theorem head_ok : augurylaw04_head.f 20 = some true := by kernel_rfl
theorem tells_j0 (op : Int) (x : Bool) (k1 n1 : Int) (s1 : ByteArray) (k2 n2 : Int) (s2 : ByteArray) : augurylaw04_ValueTells.j0 20 op true x k1 n1 s1 k2 n2 s2 = some true := by
  simp only [augurylaw04_ValueTells.j0]
  cases x with
  | true => rfl
  | false =>
    simp only [Bool.false_eq_true, if_false, add_eq 19 (by decide), ref_add_eq 19 (by decide), sub_eq 19 (by decide), ref_sub_eq 19 (by decide), compare_val_eq, ref_compare_eq 19 (by decide), right_ok, ref_right_ok, put_eq 19 (by decide), ref_put_eq 19 (by decide), Option.bind_some, if_true, beq_self_eq_true, Bool.and_self]
theorem ValueTells : augurylaw04_ValueTells.Pure := by
  intro op x y _ _ _
  refine ⟨20, ?_⟩
  unfold augurylaw04_ValueTells.f
  rw [head_ok]
  simp only [Option.bind_some]
  split <;> exact tells_j0 _ _ _ _ _ _ _ _
end Go.Proofs.Ytlbaoekmnfeogaa.Pure
