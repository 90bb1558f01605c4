/- Frames as rows of numbers: Put and the document's Put are frameL; what is cut of frames, one behind the other. -/
import Derived.Test.YtkljljjmphneiaaPAllx20
import Derived.Test.YtkljljjmphneiaaPAllx22
import Derived.Test.YtkljljjmphneiaaPAllx25
import Derived.Test.YtkljljjmphneiaaPAllx26
import Derived.Test.YtkljljjmphneiaaFrCut3
namespace Go.Proofs.Ytkljljjmphneiaa.Pure
open Go.RowKit Go.Proofs.Ytkljljjmphneiaa.PAll Go.Proofs.YtkljljjmphneiaaW.PrintWords Go.Proofs.YtkljljjmphneiaaW.PrintLast
def frameL (r : ByteArray) : List Int := if 4096 < r.size then [] else (82 : Int) :: ((r.size : Int) / 256) :: ((r.size : Int) % 256) :: (sumS r / 256) :: (sumS r % 256) :: bytesOf r
def frames (rs : List ByteArray) : List Int := rs.flatMap frameL
def good (r : ByteArray) : Bool := decide (r.size ≤ 4096)
theorem bytesOf_strOfNums {l : List Int} (h : Bytes l) : bytesOf (strOfNums l) = l := by
  unfold bytesOf strOfNums
  simp only [List.map_map]
  refine (List.map_congr_left (fun x hx => ?_)).trans (List.map_id l)
  have := h x hx
  simp only [Function.comp_apply, id_eq]
  rw [UInt8.toNat_ofNat']
  omega
theorem strOfNums_bytesOf (s : ByteArray) : strOfNums (bytesOf s) = s := by
  unfold bytesOf strOfNums
  rw [List.map_map]
  have : s.data.toList.map ((fun n : Int => UInt8.ofNat n.toNat) ∘ fun b : UInt8 => (b.toNat : Int)) = s.data.toList := by
    refine (List.map_congr_left (fun x _ => ?_)).trans (List.map_id _)
    simp
  rw [this]
theorem bytesOf_bytes (s : ByteArray) : Bytes (bytesOf s) := by
  intro x hx
  obtain ⟨b, _, rfl⟩ := List.mem_map.1 hx
  have := b.toNat_lt
  omega
theorem sumS_nat (r : ByteArray) : 0 ≤ sumS r ∧ sumS r < 61696 := by
  obtain ⟨a, b, ha, hb, e⟩ := sumS_range r
  omega
theorem frame_put (r : ByteArray) {k : Nat} (hk : 5000 < k) : frame_Put.f k r = some (frameL r) := by
  unfold frame_Put.f frameL
  by_cases c : 4096 < r.size
  · rw [if_pos (by omega), if_pos c]
  rw [if_neg (by omega), if_neg c, wrapN (n := 5 + (r.size : Int)) (by omega) (by omega), if_pos (by omega), if_pos (by omega), Option.bind_some]
  have h2 : (2 : Nat) ^ 40 = 1099511627776 := by decide
  have hs := sumS_nat r
  simp only [frame_two.f, Option.bind_some, frame_sum r (k := k) (by omega) (by omega), List.length_replicate, List.length_set]
  rw [if_pos (by omega), if_pos (by omega), if_pos (by omega), if_pos (by omega), if_pos (by omega), if_pos (by omega), show (r.size : Int) / 256 % 256 = (r.size : Int) / 256 by omega, show sumS r / 256 % 256 = sumS r / 256 by omega]
  rfl
theorem ref_put (r : ByteArray) {k : Nat} (hk : 5000 < k) : auguryref02_Put.f k r = some (frameL r) := by
  unfold auguryref02_Put.f frameL
  by_cases c : 4096 < r.size
  · rw [if_pos (by omega), if_pos c]
  have h2 : (2 : Nat) ^ 40 = 1099511627776 := by decide
  have hs := sumS_nat r
  rw [if_neg (by omega), if_neg c, ref_sum r (by omega) (by omega), Option.bind_some, Option.bind_some, wrapN (n := (r.size : Int) / 256) (by omega) (by omega), Int.tdiv_eq_ediv_of_nonneg hs.1, Int.tmod_eq_emod_of_nonneg hs.1, wrapN (n := sumS r / 256) (by omega) (by omega)]
  rw [if_pos (by simp; omega), show (r.size : Int) / 256 % 256 = (r.size : Int) / 256 by omega, show sumS r / 256 % 256 = sumS r / 256 by omega, show sumS r % 256 % 256 = sumS r % 256 by omega]
  rfl
/-- The record that bytes begin with. -/
def parse1 (l : List Int) : Option ByteArray :=
  if l.length < 5 ∨ rd l 0 ≠ 82 then none else
  if 4096 < two l 1 ∨ l.length < 5 + two l 1 then none else
  if sumS (recAt l 0 (two l 1)) = (two l 3 : Int) then some (recAt l 0 (two l 1)) else none
def cutL : Nat → List Int → List ByteArray × Nat
  | 0, _ => ([], 0)
  | n + 1, l => match parse1 l with
    | none => ([], 0)
    | some r => (r :: (cutL n (l.drop (5 + r.size))).1, 5 + r.size + (cutL n (l.drop (5 + r.size))).2)
theorem rd_drop (b : List Int) (p i : Nat) : rd (b.drop p) (i : Int) = rd b ((p + i : Nat) : Int) := by
  unfold rd
  rw [Int.toNat_natCast, Int.toNat_natCast, List.getD_eq_getElem?_getD, List.getD_eq_getElem?_getD, List.getElem?_drop]
theorem two_drop (b : List Int) (p i : Nat) : two (b.drop p) i = two b (p + i) := by
  unfold two
  rw [show ((i : Int) + 1) = ((i + 1 : Nat) : Int) by omega, rd_drop, rd_drop, show ((p + i : Nat) : Int) + 1 = ((p + (i + 1) : Nat) : Int) by omega]
theorem recAt_drop (b : List Int) (p m : Nat) : recAt (b.drop p) 0 m = recAt b p m := by
  unfold recAt
  rw [List.drop_take, List.drop_take, List.drop_drop]
  congr 2
  · omega
theorem cutS_L (b : List Int) : ∀ (n p : Nat) (acc : List ByteArray), cutS b n p acc = (acc ++ (cutL n (b.drop p)).1, ((p + (cutL n (b.drop p)).2 : Nat) : Int))
  | 0, p, acc => by simp [cutS, cutL]
  | n + 1, p, acc => by
    unfold cutS cutL parse1
    rw [show (0 : Int) = ((0 : Nat) : Int) from rfl, rd_drop, two_drop, two_drop, recAt_drop, List.length_drop, show p + 0 = p from rfl]
    by_cases c1 : b.length < p + 5 ∨ rd b (p : Int) ≠ 82
    · rw [if_pos c1, if_pos (c1.imp (fun h => by omega) id)]
      simp
    have d1 : ¬ (b.length - p < 5 ∨ rd b (p : Int) ≠ 82) := fun h => c1 (h.imp (fun h => by omega) id)
    rw [if_neg c1, if_neg d1]
    by_cases c2 : 4096 < two b (p + 1) ∨ b.length < p + 5 + two b (p + 1)
    · rw [if_pos c2, if_pos (c2.imp id (fun h => by omega))]
      simp
    have d2 : ¬ (4096 < two b (p + 1) ∨ b.length - p < 5 + two b (p + 1)) := fun h => c2 (h.imp id (fun h => by omega))
    rw [if_neg c2, if_neg d2]
    by_cases c3 : sumS (recAt b p (two b (p + 1))) = (two b (p + 3) : Int)
    · rw [if_pos c3, if_pos c3, cutS_L b n]
      have hz := recAt_size b p (two b (p + 1)) (by have := not_or.1 c2; omega)
      simp only [hz, List.drop_drop, List.append_assoc, List.singleton_append]
      rw [show p + (5 + two b (p + 1)) = p + 5 + two b (p + 1) by omega]
      congr 1
      omega
    · rw [if_neg c3, if_neg c3]
      simp
theorem frame_cut {b : List Int} (hb : Bytes b) (hl : b.length < 1000000) (n k : Nat) (hn : b.length < n) (hk : 3 * n + 5000 < k) : frame_Cut.f k b = some ((cutL n b).1, ((cutL n b).2 : Int)) := by
  have := frame_cut0 b hb hl n 0 0 0 [] k (by omega) (by omega) (by simp) hk rfl
  rw [cutS_L] at this
  unfold frame_Cut.f
  simpa using this
theorem ref_cutL {b : List Int} (hb : Bytes b) (hl : b.length < 1000000) (n k : Nat) (hn : b.length < n) (hk : 3 * n + 5000 < k) : auguryref02_Cut.f k b = some ((cutL n b).1, ((cutL n b).2 : Int)) := by
  have := ref_cut b hb hl n 0 [] k (by omega) (by omega) (by simp) hk
  rw [cutS_L] at this
  unfold auguryref02_Cut.f
  simpa using this
end Go.Proofs.Ytkljljjmphneiaa.Pure
