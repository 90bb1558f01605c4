/- The law FrameTorn, of lists and numbers alone: of frames that are cut off anywhere just the whole ones are left. -/
import Derived.Test.YtkljljjmphneiaaPAllx32
import Derived.Test.YtkljljjmphneiaaFrLaws2
namespace Go.Proofs.Ytkljljjmphneiaa.Pure
open Go.RowKit Go.Proofs.Ytkljljjmphneiaa.PAll Go.Proofs.YtkljljjmphneiaaW.PrintWords Go.Proofs.YtkljljjmphneiaaW.PrintLast
def torn : List ByteArray → Nat → List ByteArray × Nat
  | [], _ => ([], 0)
  | r :: rs, j => if 4096 < r.size then torn rs j else if 5 + r.size ≤ j then (r :: (torn rs (j - (5 + r.size))).1, 5 + r.size + (torn rs (j - (5 + r.size))).2) else ([], 0)
theorem rd_take (l : List Int) (j i : Nat) (h : i < j) : rd (l.take j) (i : Int) = rd l (i : Int) := by
  unfold rd
  rw [Int.toNat_natCast, List.getD_eq_getElem?_getD, List.getD_eq_getElem?_getD, List.getElem?_take, if_pos h]
theorem two_frame {r : ByteArray} (h : r.size ≤ 4096) (rest : List Int) : two (frameL r ++ rest) 1 = r.size := by
  rw [frameL_good h]
  show 256 * ((r.size : Int) / 256).toNat + ((r.size : Int) % 256).toNat = r.size
  omega
theorem parse1_torn {r : ByteArray} (h : r.size ≤ 4096) (j : Nat) (hj : j < 5 + r.size) (rest : List Int) : parse1 ((frameL r ++ rest).take j) = none := by
  cases e : parse1 ((frameL r ++ rest).take j) with
  | none => rfl
  | some r' =>
    exfalso
    have hl : ((frameL r ++ rest).take j).length = j := by rw [List.length_take, List.length_append, frameL_len h]; omega
    have ht : (frameL r ++ rest).take j = (frameL r).take j := List.take_append_of_le_length (by rw [frameL_len h]; omega)
    have hb : Bytes ((frameL r ++ rest).take j) := by
      rw [ht]
      exact fun x hx => frameL_bytes r x (List.mem_of_mem_take hx)
    obtain ⟨h', e'⟩ := parse1_some hb e
    have e2 := congrArg List.length e'
    rw [hl, List.length_append, frameL_len h'] at e2
    have e1 : two ((frameL r ++ rest).take j) 1 = r'.size := by rw [e']; exact two_frame h' _
    have e3 : two ((frameL r ++ rest).take j) 1 = two (frameL r ++ rest) 1 := by
      unfold two
      rw [show ((1 : Nat) : Int) + 1 = ((2 : Nat) : Int) by omega, rd_take _ _ _ (by omega), rd_take _ _ _ (by omega)]
    rw [two_frame h] at e3
    omega
theorem cutL_torn : ∀ (l : List ByteArray) (n j : Nat), l.length ≤ n → cutL n ((frames l).take j) = torn l j
  | [], n, j, _ => by
    rw [show frames [] = [] from rfl, List.take_nil, cutL_none parse1_nil]
    rfl
  | r :: rs, n, j, hn => by
    rw [List.length_cons] at hn
    rw [frames_cons, torn]
    by_cases c : 4096 < r.size
    · rw [if_pos c, frameL_bad c, List.nil_append]
      exact cutL_torn rs n j (by omega)
    rw [if_neg c]
    have c' : r.size ≤ 4096 := by omega
    by_cases d : 5 + r.size ≤ j
    · obtain ⟨n, rfl⟩ : ∃ m, n = m + 1 := ⟨n - 1, by omega⟩
      rw [if_pos d, List.take_append, List.take_of_length_le (by rw [frameL_len c']; omega), cutL_frame c', frameL_len c', cutL_torn rs n _ (by omega)]
    · rw [if_neg d, cutL_none (parse1_torn c' j (by omega) _)]
theorem torn_le : ∀ (l : List ByteArray) (j : Nat), (torn l j).1.length ≤ l.length
  | [], _ => by simp [torn]
  | r :: rs, j => by
    unfold torn
    split
    · have := torn_le rs j
      rw [List.length_cons]
      omega
    · split
      · have := torn_le rs (j - (5 + r.size))
        simp only [List.length_cons]
        omega
      · simp
theorem torn_l0 (l : List ByteArray) (hl : l.length < 30000) (kk : Nat) (hkk : kk < 1000000) (got : List ByteArray) (m : Nat) (hg : got.length < 30000) : ∀ n i k : Nat, i + n = l.length → n + 50000 < k → ∀ (want : List ByteArray) (e : Nat), want.length ≤ i → e ≤ kk →
    got = want ++ (torn (l.drop i) (kk - e)).1 → m = e + (torn (l.drop i) (kk - e)).2 →
    augurylaw02_FrameTorn.l0 k l true (kk : Int) got (m : Int) want (e : Int) (i : Int) = some true := by
  intro n
  induction n with
  | zero =>
    intro i k hi hk want e hw he h1 h2
    obtain ⟨k, rfl⟩ : ∃ m, k = m + 1 := ⟨k - 1, by omega⟩
    rw [List.drop_eq_nil_of_le (by omega)] at h1 h2
    simp only [torn, List.append_nil, Nat.add_zero] at h1 h2
    subst h1 h2
    unfold augurylaw02_FrameTorn.l0
    rw [if_neg (by omega), if_pos rfl, same_self (by omega) (by omega), Option.bind_some, if_pos rfl, if_pos rfl]
  | succ n ih =>
    intro i k hi hk want e hw he h1 h2
    obtain ⟨k, rfl⟩ : ∃ m, k = m + 1 := ⟨k - 1, by omega⟩
    have hi' : i < l.length := by omega
    have hd : l.drop i = l[i] :: l.drop (i + 1) := List.drop_eq_getElem_cons hi'
    have hx := ih (i + 1) k (by omega) (by omega)
    rw [hd] at h1 h2
    unfold augurylaw02_FrameTorn.l0
    rw [if_pos (by omega), if_pos (by omega), rdOf_nat hi', frame_put _ (by omega), Option.bind_some]
    generalize l[i] = r at h1 h2 ⊢
    rw [torn] at h1 h2
    by_cases c : 4096 < r.size
    · rw [if_pos c] at h1 h2
      rw [frameL_bad c, if_pos (by simp), wrapN (n := (i : Int) + 1) (by omega) (by omega)]
      exact hx want e (by omega) he h1 h2
    rw [if_neg c] at h1 h2
    have hL := frameL_len (r := r) (by omega)
    rw [hL, if_neg (by omega), wrapN (n := (e : Int) + _) (by omega) (by omega)]
    by_cases d : 5 + r.size ≤ kk - e
    · rw [if_pos d] at h1 h2
      rw [if_neg (by omega), if_pos (by omega), wrapN (n := (i : Int) + 1) (by omega) (by omega)]
      have := hx (want ++ [r]) (e + (5 + r.size)) (by rw [List.length_append, List.length_singleton]; omega) (by omega) (by rw [h1, show kk - (e + (5 + r.size)) = kk - e - (5 + r.size) by omega]; simp) (by rw [h2, show kk - (e + (5 + r.size)) = kk - e - (5 + r.size) by omega]; omega)
      exact this
    · rw [if_neg d] at h1 h2
      simp only [List.append_nil, Nat.add_zero] at h1 h2
      subst h1 h2
      rw [if_pos (by omega), if_pos rfl, same_self (by omega) (by omega), Option.bind_some, if_pos rfl, if_pos rfl]
theorem FrameTorn : augurylaw02_FrameTorn.Pure := by
  intro l a _ hw
  have ha : 0 ≤ a ∧ a ≤ 65535 := by simpa [Lit.wf, IntKind.min, IntKind.max, IntKind.bits, IntKind.signed] using hw
  obtain ⟨K, hK⟩ : ∃ K : Nat, K = 10000000 := ⟨_, rfl⟩
  refine ⟨K, ?_⟩
  unfold augurylaw02_FrameTorn.f
  rw [head_ok (by omega), Option.bind_some]
  obtain ⟨r, h1, h2⟩ := great_ok l (k := K) (by omega)
  rw [h1, Option.bind_some]
  cases r with
  | true => simp
  | false =>
    have h2 := h2 rfl
    have hf := frames_len l
    rw [if_neg (by simp), all_ok (by omega) (by omega) (by omega), Option.bind_some, wrapN (n := a) (by omega) (by omega), wrapN (n := ((frames l).length : Int) + 1) (by omega) (by omega), if_neg (by omega), Int.tmod_eq_emod_of_nonneg ha.1]
    have m0 := Int.emod_nonneg a (show ((frames l).length : Int) + 1 ≠ 0 by omega)
    have m1 := Int.emod_lt_of_pos a (show 0 < ((frames l).length : Int) + 1 by omega)
    rw [if_pos (by omega), if_pos (by omega)]
    obtain ⟨kk, hkk⟩ := Int.eq_ofNat_of_zero_le m0
    rw [hkk] at m1 ⊢
    rw [Int.toNat_natCast, frame_cut (n := 1100000) (fun x hx => frames_bytes l x (List.mem_of_mem_take hx)) (by rw [List.length_take]; omega) K (by rw [List.length_take]; omega) (by omega), cutL_torn l _ _ (by omega), Option.bind_some]
    have ht := torn_le l kk
    exact torn_l0 l (by omega) kk (by omega) (torn l kk).1 (torn l kk).2 (by omega) l.length 0 K (by omega) (by omega) [] 0 (by simp) (by omega) (by simp) (by simp)
end Go.Proofs.Ytkljljjmphneiaa.Pure
