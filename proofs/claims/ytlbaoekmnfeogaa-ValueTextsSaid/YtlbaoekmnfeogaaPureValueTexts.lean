/- The law ValueTexts, of texts alone: a text that begins another is less, unless they are one, and its bytes say how long it is; for every two texts. -/
import Derived.Test.YtlbaoekmnfeogaaPAllx18
import Derived.Test.YtlbaoekmnfeogaaPAllx34
import Derived.Test.YtlbaoekmnfeogaaVal2
namespace Go.Proofs.Ytlbaoekmnfeogaa.Pure
open Go.RowKit Go.Proofs.Ytlbaoekmnfeogaa.PAll Go.Proofs.YtlbaoekmnfeogaaW.PrintWords Go.Proofs.YtlbaoekmnfeogaaW.PrintLast
theorem head_ok : augurylaw04_head.f 20 = some true := by kernel_rfl
theorem bl_append (y : List UInt8) : ∀ x : List UInt8, Op.bytesLess x (x ++ y) = !y.isEmpty
  | [] => by cases y <;> rfl
  | a :: x => by simp [Op.bytesLess, bl_append y x]
theorem toList_append (a b : ByteArray) : (a ++ b).toList = a.toList ++ b.toList := by
  rw [ByteArray.toList_eq, ByteArray.toList_eq, ByteArray.toList_eq, ByteArray.data_append, Array.toList_append]
theorem ok_of_text {s : ByteArray} (h : s.size ≤ 64) : okVal 2 0 s = true := by
  unfold okVal
  rw [if_neg (by decide), if_pos rfl]
  simp
  omega
theorem ValueTexts : augurylaw04_ValueTexts.Pure := by
  intro a b ha hb
  refine ⟨20, ?_⟩
  unfold augurylaw04_ValueTexts.f
  rw [head_ok, wrap_in (n := (a.size : Int) + b.size) (by omega) (by omega), wrap_in (n := 2 + (a.size : Int)) (by omega) (by omega), wrap_in (n := 2 + (a.size : Int) + b.size) (by omega) (by omega)]
  simp only [Option.bind_some, augurylaw04_text.f, compare_val_eq, put_eq 20 (by decide)]
  by_cases c : (a.size : Int) + b.size > 64
  · rw [if_pos c]; rfl
  · rw [if_neg c, if_pos (by omega)]
    have hs : (a ++ b).size = a.size + b.size := ByteArray.size_append
    have o1 : okVal 2 0 a = true := ok_of_text (by omega)
    have o2 : okVal 2 0 (a ++ b) = true := ok_of_text (by omega)
    have hless : lessS 0 a 0 (a ++ b) = !b.toList.isEmpty := by
      unfold lessS
      rw [toList_append, bl_append]
      simp
    have hc3 : cmpS 3 2 0 a 2 0 (a ++ b) = (!b.toList.isEmpty, 0) := by
      unfold cmpS
      rw [if_pos ⟨o1, o2, by decide, by decide⟩, if_pos ⟨rfl, by decide⟩, ← hless]
      rfl
    have hc6 : cmpS 6 2 0 a 2 0 (a ++ b) = (b.toList.isEmpty, 0) := by
      unfold cmpS
      rw [if_pos ⟨o1, o2, by decide, by decide⟩, if_pos ⟨rfl, by decide⟩]
      have : cmpB 6 (lessS 0 a 0 (a ++ b)) (sameS 0 a 0 (a ++ b)) = !lessS 0 a 0 (a ++ b) := rfl
      rw [this, hless]
      simp
    have hp : putS 2 0 (a ++ b) = 2 :: ((a.size + b.size : Nat) : Int) :: bytesOf (a ++ b) := by
      unfold putS
      rw [if_pos o2, if_neg (by decide), if_pos rfl, hs]
    have hl : (bytesOf (a ++ b)).length = a.size + b.size := by rw [bytesOf_length, hs]
    rw [hc3, hc6, hp]
    simp only [List.length_cons, hl, bne_nil_]
    rw [if_neg (by omega)]
    have hr : rd (2 :: ((a.size + b.size : Nat) : Int) :: bytesOf (a ++ b)) 1 = ((a.size + b.size : Nat) : Int) := rfl
    rw [hr, wrap_in (n := ((a.size + b.size : Nat) : Int)) (by omega) (by omega)]
    have hb2 : (b.toList == []) = b.toList.isEmpty := by cases b.toList <;> rfl
    rw [hb2]
    simp
    omega
end Go.Proofs.Ytlbaoekmnfeogaa.Pure
