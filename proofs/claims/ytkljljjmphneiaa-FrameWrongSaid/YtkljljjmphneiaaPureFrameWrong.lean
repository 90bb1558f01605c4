/- The law FrameWrong, of lists and numbers alone: a changed byte makes a frame be none, but for the length's, or one that is equal modulo 251. -/
import Derived.Test.YtkljljjmphneiaaPAllx34
import Derived.Test.YtkljljjmphneiaaFrLaws2
namespace Go.Proofs.Ytkljljjmphneiaa.Pure
open Go.RowKit Go.Proofs.Ytkljljjmphneiaa.PAll Go.Proofs.YtkljljjmphneiaaW.PrintWords Go.Proofs.YtkljljjmphneiaaW.PrintLast
def natSum (l : List Int) : Nat := (l.map Int.toNat).sum
theorem bt_rd (s : ByteArray) (i : Nat) : bt s (i : Int) = rd (bytesOf s) (i : Int) := by
  unfold bt rd bytesOf
  rw [Int.toNat_natCast, List.getD_eq_getElem?_getD, List.getElem?_map]
  by_cases h : i < s.size
  · have h' : i < s.data.toList.length := by rw [data_length]; exact h
    rw [dif_pos h, List.getElem?_eq_getElem h']
    rfl
  · rw [dif_neg h, List.getElem?_eq_none (by rw [data_length]; omega)]
    rfl
theorem sumR_a (s : ByteArray) : ∀ n i a b : Nat, i + n = s.size → a < 251 → (sumR s n i a b).1 = (a + n + natSum ((bytesOf s).drop i)) % 251
  | 0, i, a, b, h, ha => by
    rw [List.drop_eq_nil_of_le (by rw [bytesOf_length]; omega)]
    simp only [sumR, natSum, List.map_nil, List.sum_nil]
    omega
  | n + 1, i, a, b, h, ha => by
    have hi : i < (bytesOf s).length := by rw [bytesOf_length]; omega
    have e : bt s (i : Int) = (bytesOf s)[i] := by
      rw [bt_rd, rd, Int.toNat_natCast, List.getD_eq_getElem?_getD, List.getElem?_eq_getElem hi]
      rfl
    rw [sumR, sumR_a s n (i + 1) _ _ (by omega) (Nat.mod_lt _ (by omega)), e, List.drop_eq_getElem_cons hi]
    simp only [natSum, List.map_cons, List.sum_cons]
    omega
theorem natSum_set : ∀ (l : List Int) (j : Nat) (c : Int) (h : j < l.length), natSum (l.set j c) + (l[j]).toNat = natSum l + c.toNat
  | x :: l, 0, c, _ => by simp [natSum]; omega
  | x :: l, j + 1, c, h => by
    have := natSum_set l j c (by simpa using h)
    simp only [natSum, List.set_cons_succ, List.map_cons, List.sum_cons, List.getElem_cons_succ] at this ⊢
    omega
theorem rd_set_ne (l : List Int) (j i : Nat) (c : Int) (h : j ≠ i) : rd (l.set j c) (i : Int) = rd l (i : Int) := by
  unfold rd
  rw [Int.toNat_natCast, List.getD_eq_getElem?_getD, List.getD_eq_getElem?_getD, List.getElem?_set_ne h]
theorem rd_set_eq (l : List Int) (j : Nat) (c : Int) (h : j < l.length) : rd (l.set j c) (j : Int) = c := by
  unfold rd
  rw [Int.toNat_natCast, List.getD_eq_getElem?_getD, List.getElem?_set_self h]
  rfl
theorem two_frame {r : ByteArray} (h : r.size ≤ 4096) (rest : List Int) : two (frameL r ++ rest) 1 = r.size := by
  rw [frameL_good h]
  show 256 * ((r.size : Int) / 256).toNat + ((r.size : Int) % 256).toNat = r.size
  omega
theorem two_frame3 {r : ByteArray} (h : r.size ≤ 4096) (rest : List Int) : (two (frameL r ++ rest) 3 : Int) = sumS r := by
  have hs := sumS_nat r
  rw [frameL_good h]
  show ((256 * (sumS r / 256).toNat + (sumS r % 256).toNat : Nat) : Int) = sumS r
  omega
theorem set_bytes {l : List Int} (h : Bytes l) (j : Nat) {c : Int} (hc : 0 ≤ c ∧ c < 256) : Bytes (l.set j c) := by
  intro x hx
  rcases List.mem_or_eq_of_mem_set hx with h1 | rfl
  · exact h x h1
  · exact hc
theorem two_set (l : List Int) (j i : Nat) (c : Int) (h1 : j ≠ i) (h2 : j ≠ i + 1) : two (l.set j c) i = two l i := by
  unfold two
  rw [show (i : Int) + 1 = ((i + 1 : Nat) : Int) by omega, rd_set_ne _ _ _ _ h1, rd_set_ne _ _ _ _ h2]
theorem parse_first {r : ByteArray} (h : r.size ≤ 4096) {c : Int} (hc : c ≠ 82) : parse1 ((frameL r).set 0 c) = none := by
  unfold parse1
  rw [if_pos (Or.inr ?_)]
  have := rd_set_eq (frameL r) 0 c (by rw [frameL_len h]; omega)
  rw [show ((0 : Nat) : Int) = 0 from rfl] at this
  rw [this]
  exact hc
theorem parse_sum {r : ByteArray} (h : r.size ≤ 4096) {c : Int} (hc : 0 ≤ c ∧ c < 256) (j : Nat) (hj : j = 3 ∨ j = 4) (hn : rd (frameL r) (j : Int) ≠ c) : parse1 ((frameL r).set j c) = none := by
  cases e : parse1 ((frameL r).set j c) with
  | none => rfl
  | some r' =>
    exfalso
    obtain ⟨h', e'⟩ := parse1_some (set_bytes (frameL_bytes r) j hc) e
    have hlen := frameL_len h
    have t1 : two ((frameL r).set j c) 1 = two (frameL r) 1 := two_set _ _ _ _ (by omega) (by omega)
    have t1' : two ((frameL r).set j c) 1 = r'.size := by rw [e']; exact two_frame h' _
    have t2 := two_frame h []
    rw [List.append_nil] at t2
    have t3 := two_frame3 h []
    rw [List.append_nil] at t3
    have t3' : (two ((frameL r).set j c) 3 : Int) = sumS r' := by rw [e']; exact two_frame3 h' _
    have er : bytesOf r' = bytesOf r := by
      have q1 : ((frameL r).set j c).drop 5 = (frameL r).drop 5 := by
        rw [frameL_good h]
        rcases hj with rfl | rfl <;> rfl
      have q2 : ((frameL r).drop 5) = bytesOf r := by rw [frameL_good h]; rfl
      rw [e', frameL_good h'] at q1
      have q3 : bytesOf r' ++ ((frameL r).set j c).drop (5 + r'.size) = bytesOf r := by rw [← q2, ← q1]; rfl
      have q4 := congrArg List.length q3
      rw [List.length_append, bytesOf_length, bytesOf_length] at q4
      have q5 : ((frameL r).set j c).drop (5 + r'.size) = [] := List.eq_nil_of_length_eq_zero (by omega)
      rw [q5, List.append_nil] at q3
      exact q3
    have es : r' = r := by rw [← strOfNums_bytesOf r', er, strOfNums_bytesOf]
    rw [es] at t3'
    have x3 := rd_byte (frameL_bytes r) 3
    have x4 := rd_byte (frameL_bytes r) 4
    unfold two at t3 t3'
    rw [show ((3 : Nat) : Int) + 1 = ((4 : Nat) : Int) by omega] at t3 t3'
    rcases hj with rfl | rfl
    · rw [rd_set_eq _ _ _ (by omega), rd_set_ne _ _ _ _ (by omega)] at t3'
      obtain ⟨v, hv, ev⟩ := rd_byte (frameL_bytes r) ((3 : Nat) : Int)
      rw [ev] at t3 hn
      omega
    · rw [rd_set_eq _ _ _ (by omega), rd_set_ne _ _ _ _ (by omega)] at t3'
      obtain ⟨v, hv, ev⟩ := rd_byte (frameL_bytes r) ((4 : Nat) : Int)
      rw [ev] at t3 hn
      omega
theorem parse_rec {r : ByteArray} (h : r.size ≤ 4096) {c : Int} (hc : 0 ≤ c ∧ c < 256) (j : Nat) (hj : j < r.size) {r' : ByteArray} (e : parse1 ((frameL r).set (j + 5) c) = some r') : (c - bt r (j : Int)) % 251 = 0 := by
  obtain ⟨h', e'⟩ := parse1_some (set_bytes (frameL_bytes r) _ hc) e
  have hlen := frameL_len h
  have t1 : two ((frameL r).set (j + 5) c) 1 = two (frameL r) 1 := two_set _ _ _ _ (by omega) (by omega)
  have t1' : two ((frameL r).set (j + 5) c) 1 = r'.size := by rw [e']; exact two_frame h' _
  have t2 := two_frame h []
  rw [List.append_nil] at t2
  have t3 := two_frame3 h []
  rw [List.append_nil] at t3
  have t3' : (two ((frameL r).set (j + 5) c) 3 : Int) = sumS r' := by rw [e']; exact two_frame3 h' _
  rw [two_set _ _ _ _ (by omega) (by omega), t3] at t3'
  have er : bytesOf r' = (bytesOf r).set j c := by
    have q1 : ((frameL r).set (j + 5) c).drop 5 = (bytesOf r).set j c := by
      rw [frameL_good h]
      rfl
    rw [e', frameL_good h'] at q1
    have q3 : bytesOf r' ++ ((frameL r).set (j + 5) c).drop (5 + r'.size) = (bytesOf r).set j c := by rw [← q1]; rfl
    have q4 := congrArg List.length q3
    rw [List.length_append, bytesOf_length, List.length_set, bytesOf_length] at q4
    have q5 : ((frameL r).set (j + 5) c).drop (5 + r'.size) = [] := List.eq_nil_of_length_eq_zero (by omega)
    rw [q5, List.append_nil] at q3
    exact q3
  have hsz : r'.size = r.size := by
    have := congrArg List.length er
    rwa [List.length_set, bytesOf_length, bytesOf_length] at this
  have s1 := sumR_a r r.size 0 1 1 (by omega) (by omega)
  have s2 := sumR_a r' r'.size 0 1 1 (by omega) (by omega)
  have l1 := sumR_lt r r.size 0 1 1 (by omega) (by omega)
  have l2 := sumR_lt r' r'.size 0 1 1 (by omega) (by omega)
  unfold sumS at t3'
  have hj' : j < (bytesOf r).length := by rw [bytesOf_length]; exact hj
  have ns := natSum_set (bytesOf r) j c hj'
  have eb : bt r (j : Int) = (bytesOf r)[j] := by
    rw [bt_rd, rd, Int.toNat_natCast, List.getD_eq_getElem?_getD, List.getElem?_eq_getElem hj']
    rfl
  have bb := bytesOf_bytes r _ (List.getElem_mem hj')
  rw [List.drop_zero] at s1 s2
  rw [er, hsz] at s2
  rw [eb]
  generalize (bytesOf r)[j] = v at *
  generalize natSum (bytesOf r) = S at *
  generalize natSum ((bytesOf r).set j c) = S' at *
  rw [hsz] at t3' l2
  omega
theorem FrameWrong : augurylaw02_FrameWrong.Pure := by
  intro r a c _ hw hc
  have ha : 0 ≤ a ∧ a ≤ 65535 := by simpa [Lit.wf, IntKind.min, IntKind.max, IntKind.bits, IntKind.signed] using hw
  have hc : 0 ≤ c ∧ c ≤ 255 := by simpa [Lit.wf, IntKind.min, IntKind.max, IntKind.bits, IntKind.signed] using hc
  obtain ⟨K, hK⟩ : ∃ K : Nat, K = 10000000 := ⟨_, rfl⟩
  refine ⟨K, ?_⟩
  unfold augurylaw02_FrameWrong.f
  rw [head_ok (by omega), Option.bind_some]
  by_cases h : 4096 < r.size
  · rw [if_pos (by omega), if_pos rfl]
  have h : r.size ≤ 4096 := by omega
  have hl := frameL_len h
  rw [if_neg (by omega), frame_put r (by omega), Option.bind_some, hl, wrapN (n := a) (by omega) (by omega), Int.tmod_eq_emod_of_nonneg ha.1]
  have m0 := Int.emod_nonneg a (show ((5 + r.size : Nat) : Int) ≠ 0 by omega)
  have m1 := Int.emod_lt_of_pos a (show 0 < ((5 + r.size : Nat) : Int) by omega)
  obtain ⟨j, hj⟩ := Int.eq_ofNat_of_zero_le m0
  rw [hj] at m1 ⊢
  rw [if_neg (by omega), if_neg (by omega), if_pos (by omega), if_pos (by omega)]
  by_cases he : rd (frameL r) (j : Int) = c
  · rw [if_pos he, if_pos rfl]
  rw [if_neg he, Int.toNat_natCast]
  have hB : Bytes ((frameL r).set j c) := set_bytes (frameL_bytes r) j (by omega)
  rw [frame_cut hB (by rw [List.length_set]; omega) 10000 K (by rw [List.length_set]; omega) (by omega), Option.bind_some]
  dsimp only
  have hz : parse1 ((frameL r).set j c) = none → cutL 10000 ((frameL r).set j c) = ([], 0) := fun h => cutL_none h _
  by_cases h5 : (j : Int) ≥ 5
  · rw [if_pos h5, if_pos rfl]
    cases e : parse1 ((frameL r).set j c) with
    | none =>
      rw [hz e, if_pos (by rfl)]
    | some r' =>
      obtain ⟨i, rfl⟩ : ∃ i, j = i + 5 := ⟨j - 5, by omega⟩
      have := parse_rec h (c := c) (by omega) i (by omega) e
      split
      · rfl
      · rw [wrapN (n := ((i + 5 : Nat) : Int) - 5) (by omega) (by omega), show ((i + 5 : Nat) : Int) - 5 = (i : Int) by omega, if_pos (by omega), if_pos (by omega)]
        obtain ⟨v, hv, ev⟩ := bt_nat r i
        rw [ev] at this ⊢
        rw [wrapN (n := c) (by omega) (by omega), wrapN (n := (v : Int)) (by omega) (by omega), wrapN (n := c - (v : Int)) (by omega) (by omega), if_pos (Int.tmod_eq_zero_of_dvd (Int.dvd_of_emod_eq_zero this))]
  · rw [if_neg h5, if_pos rfl]
    by_cases h0 : j = 0
    · subst h0
      have hf : rd (frameL r) ((0 : Nat) : Int) = 82 := by rw [frameL_good h]; rfl
      rw [hz (parse_first h (fun hh => he (hf.trans hh.symm)))]
      rfl
    by_cases h3 : j < 3
    · have p1 : (j : Int) < 3 := by omega
      have p2 : (j : Int) > 0 := by omega
      simp only [p1, p2, if_true]
      split
      · split <;> rfl
      · rfl
    · rw [hz (parse_sum h (by omega) j (by omega) he)]
      rfl
end Go.Proofs.Ytkljljjmphneiaa.Pure
