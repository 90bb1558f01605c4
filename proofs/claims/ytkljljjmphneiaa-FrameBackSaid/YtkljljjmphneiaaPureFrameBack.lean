/- The law FrameBack, of lists and numbers alone: what is put is cut to the same records. -/
import Derived.Test.YtkljljjmphneiaaPAllx31
import Derived.Test.YtkljljjmphneiaaFrLaws2
namespace Go.Proofs.Ytkljljjmphneiaa.Pure
open Go.RowKit Go.Proofs.Ytkljljjmphneiaa.PAll Go.Proofs.YtkljljjmphneiaaW.PrintWords Go.Proofs.YtkljljjmphneiaaW.PrintLast
theorem back_l0 (l : List ByteArray) (hl : l.length < 30000) (hf : (frames l).length < 1000000) : ∀ n i k : Nat, i + n = l.length → 2 * n + 6100000 < k →
    augurylaw02_FrameBack.l0 k l true ((l.take i).filter good) (i : Int) = some true := by
  intro n
  induction n with
  | zero =>
    intro i k hi hk
    obtain ⟨k, rfl⟩ : ∃ m, k = m + 1 := ⟨k - 1, by omega⟩
    unfold augurylaw02_FrameBack.l0
    have := List.length_filter_le good l
    rw [if_neg (by omega), List.take_of_length_le (by omega), all_ok hl hf (by omega), Option.bind_some, cut_all l hl hf (by omega), Option.bind_some, if_pos rfl]
    dsimp only
    rw [same_self (by omega) (by omega), Option.bind_some, if_pos rfl, if_pos rfl]
  | succ n ih =>
    intro i k hi hk
    obtain ⟨k, rfl⟩ : ∃ m, k = m + 2 := ⟨k - 2, by omega⟩
    have hi' : i < l.length := by omega
    have hx := ih (i + 1) k (by omega) (by omega)
    have ht : (l.take (i + 1)).filter good = (l.take i).filter good ++ (if good l[i] then [l[i]] else []) := by
      rw [← List.take_append_getElem hi', List.filter_append]
      simp only [List.filter_cons, List.filter_nil]
    have hlen := List.length_filter_le good (l.take i)
    have hlt : (l.take i).length ≤ l.length := by rw [List.length_take]; omega
    unfold augurylaw02_FrameBack.l0
    rw [if_pos (by omega), if_pos (by omega), rdOf_nat hi', frame_put _ (by omega), Option.bind_some]
    rw [ht] at hx
    have hri : rdOf ByteArray.empty l (i : Int) = l[i] := rdOf_nat hi'
    generalize l[i] = r at hx hri ⊢
    by_cases c : r.size ≤ 4096
    · have hg : good r = true := by unfold good; simpa using c
      rw [hg, if_pos rfl] at hx
      have e : (frameL r).length = 5 + r.size := frameL_len c
      have d1 : (((frameL r).length : Int) == 0) = false := beq_false_of_ne (by omega)
      have d2 : decide ((r.size : Int) > 4096) = false := decide_eq_false (by omega)
      have d3 : (((frameL r).length : Int) != wrap64 ((r.size : Int) + 5)) = false := by rw [wrapN (n := (r.size : Int) + 5) (by omega) (by omega), bne_eq_false_iff_eq]; omega
      rw [d1, d2, if_neg (by simp), if_pos (by omega), d3]
      unfold augurylaw02_FrameBack.j1
      rw [if_neg (by simp), if_pos (by omega), if_pos (by omega)]
      rw [if_pos (by omega)]
      rw [if_pos (by omega), wrapN (n := (i : Int) + 1) (by omega) (by omega)]
      rw [hri]
      exact hx
    · have hg : good r = false := by unfold good; simpa using c
      rw [hg] at hx
      have e : frameL r = [] := frameL_bad (by omega)
      have d2 : decide ((r.size : Int) > 4096) = true := decide_eq_true (by omega)
      rw [e, d2, if_neg (by simp), if_neg (by simp)]
      unfold augurylaw02_FrameBack.j1
      rw [if_neg (by simp), if_neg (by simp), wrapN (n := (i : Int) + 1) (by omega) (by omega)]
      simpa using hx
theorem FrameBack : augurylaw02_FrameBack.Pure := by
  intro l _
  obtain ⟨K, hK⟩ : ∃ K : Nat, K = 10000000 := ⟨_, rfl⟩
  refine ⟨K, ?_⟩
  unfold augurylaw02_FrameBack.f
  rw [head_ok (by omega), Option.bind_some]
  obtain ⟨r, h1, h2⟩ := great_ok l (k := K) (by omega)
  rw [h1, Option.bind_some]
  cases r with
  | true => simp
  | false =>
    have h2 := h2 rfl
    have hf := frames_len l
    rw [if_neg (by simp)]
    have := back_l0 l (by omega) (by omega) l.length 0 K (by omega) (by omega)
    simpa using this
end Go.Proofs.Ytkljljjmphneiaa.Pure
