/- The law EventWords, of texts alone: a word with a letter, a digit or a line more is one, up to sixteen; with anything else, or a digit ahead, it is none. -/
import Derived.Test.YtbnjhmcbkocdjaaPAllx32
import Derived.Test.YtbnjhmcbkocdjaaPAllx55
import Derived.Test.YtbnjhmcbkocdjaaPAllx6
import Derived.Test.YtbnjhmcbkocdjaaEvWord
namespace Go.Proofs.Ytbnjhmcbkocdjaa.Pure
open Go.Proofs.Ytbnjhmcbkocdjaa.PAll
open Go.RowKit Go.Proofs.YtbnjhmcbkocdjaaW.PrintWords Go.Proofs.YtbnjhmcbkocdjaaW.PrintLast Go.Proofs.YtbnjhmcbkocdjaaW.PrintMore
set_option linter.unusedVariables false
set_option linter.unusedSimpArgs false
theorem bt_append (a b : ByteArray) (i : Nat) : bt (a ++ b) (i : Int) = if i < a.size then bt a (i : Int) else bt b ((i - a.size : Nat) : Int) := by
  unfold bt
  simp only [Int.toNat_natCast]
  by_cases h : i < a.size
  · rw [if_pos h, dif_pos (by rw [ByteArray.size_append]; omega), dif_pos h, ByteArray.getElem_append_left h]
  · rw [if_neg h]
    by_cases h2 : i < (a ++ b).size
    · rw [dif_pos h2, dif_pos (by rw [ByteArray.size_append] at h2; omega), ByteArray.getElem_append_right (by omega)]
    · rw [dif_neg h2, dif_neg (by rw [ByteArray.size_append] at h2; omega)]
theorem one_size (c : Int) : (strOfNums [c]).size = 1 := by unfold strOfNums; rfl
theorem one_bt (c : Int) (h0 : 0 ≤ c) (h1 : c < 256) : bt (strOfNums [c]) 0 = c := by
  have : c = ((c.toNat : Nat) : Int) := by omega
  generalize c.toNat = n at this
  subst this
  have hn : n < 256 := by omega
  unfold bt
  rw [dif_pos (by rw [one_size]; decide)]
  show (((strOfNums [(n : Int)])[0]'_).toNat : Int) = n
  have : ((strOfNums [(n : Int)])[0]'(by rw [one_size]; decide)) = UInt8.ofNat n := by unfold strOfNums; rfl
  rw [this]
  simp only [UInt8.toNat_ofNat']
  omega
/-- What stands behind a word. -/
theorem behind {s t : ByteArray} (ht : t.size = 1) (hw : wordB s = true) : wordB (s ++ t) = decide (okc (bt t 0) 1 ∧ s.size < 16) := by
  have h := of_decide_eq_true hw
  unfold wordB
  rw [decide_eq_decide]
  have hz : (s ++ t).size = s.size + 1 := by rw [ByteArray.size_append, ht]
  constructor
  · intro g
    refine ⟨?_, by have := g.2.2; omega⟩
    have := g.1 s.size (by omega)
    rw [bt_append, if_neg (by omega), Nat.sub_self, show ((0 : Nat) : Int) = 0 from rfl] at this
    unfold okc at *
    have := h.2.1
    omega
  · intro g
    refine ⟨fun j hj => ?_, by omega, by omega⟩
    rw [bt_append]
    split
    · rename_i hj2
      exact h.1 j hj2
    · have e : j = s.size := by omega
      subst e
      rw [Nat.sub_self, show ((0 : Nat) : Int) = 0 from rfl]
      have g1 := g.1
      unfold okc at *
      have := h.2.1
      omega
/-- What stands ahead of one. -/
theorem ahead {s t : ByteArray} (ht : t.size = 1) (hw : wordB s = true) : wordB (t ++ s) = decide (okc (bt t 0) 0 ∧ s.size < 16) := by
  have h := of_decide_eq_true hw
  unfold wordB
  rw [decide_eq_decide]
  have hz : (t ++ s).size = s.size + 1 := by rw [ByteArray.size_append, ht]; omega
  constructor
  · intro g
    refine ⟨?_, by have := g.2.2; omega⟩
    have := g.1 0 (by omega)
    rw [bt_append, if_pos (by omega)] at this
    exact this
  · intro g
    refine ⟨fun j hj => ?_, by omega, by omega⟩
    rw [bt_append]
    split
    · have e : j = 0 := by omega
      subst e
      exact g.1
    · have := h.1 (j - 1) (by omega)
      rw [show j - t.size = j - 1 by omega]
      unfold okc at *
      omega
theorem alone {t : ByteArray} (ht : t.size = 1) : wordB t = decide (okc (bt t 0) 0) := by
  unfold wordB
  rw [decide_eq_decide]
  constructor
  · intro g
    exact g.1 0 (by omega)
  · intro g
    refine ⟨fun j hj => ?_, by omega, by omega⟩
    have e : j = 0 := by omega
    subst e
    exact g
theorem bt_A : bt (⟨#[65]⟩ : ByteArray) 0 = 65 := by decide
theorem bt_sp : bt (⟨#[32]⟩ : ByteArray) 0 = 32 := by decide
theorem words_j1 (s : ByteArray) (hs : s.size ≤ 1000) (c : Int) (h0 : 0 ≤ c) (h1 : c < 256) (b6 b7 : Bool) (h6 : b6 = decide (97 ≤ c ∧ c ≤ 122)) (h7 : b7 = decide ((97 ≤ c ∧ c ≤ 122) ∨ (48 ≤ c ∧ c ≤ 57) ∨ c = 95)) (k : Nat) (hk : 3000 ≤ k) :
    augurylaw05_EventWords.j1 k s c true b6 b7 = some true := by
  obtain ⟨k, rfl⟩ : ∃ m, k = m + 1 := ⟨k - 1, by omega⟩
  unfold augurylaw05_EventWords.j1
  have z1 := one_size c
  have hA : (⟨#[65]⟩ : ByteArray).size = 1 := rfl
  have hB : (⟨#[32]⟩ : ByteArray).size = 1 := rfl
  have e1 : event_Word.f k s = some (wordB s) := word_eq _ (by omega) _ (by omega)
  have e2 : event_Word.f k (strOfNums [c]) = some (wordB (strOfNums [c])) := word_eq _ (by omega) _ (by omega)
  have e3 : event_Word.f k (s ++ strOfNums [c]) = some (wordB (s ++ strOfNums [c])) := word_eq _ (by rw [ByteArray.size_append]; omega) _ (by rw [ByteArray.size_append]; omega)
  have e4 : event_Word.f k (strOfNums [c] ++ s) = some (wordB (strOfNums [c] ++ s)) := word_eq _ (by rw [ByteArray.size_append]; omega) _ (by rw [ByteArray.size_append]; omega)
  have e5 : event_Word.f k (s ++ (⟨#[65]⟩ : ByteArray)) = some (wordB (s ++ (⟨#[65]⟩ : ByteArray))) := word_eq _ (by rw [ByteArray.size_append]; omega) _ (by rw [ByteArray.size_append]; omega)
  have e6 : event_Word.f k (s ++ (⟨#[32]⟩ : ByteArray)) = some (wordB (s ++ (⟨#[32]⟩ : ByteArray))) := word_eq _ (by rw [ByteArray.size_append]; omega) _ (by rw [ByteArray.size_append]; omega)
  have w2 : wordB (strOfNums [c]) = b6 := by
    rw [alone z1, one_bt c h0 h1, h6, decide_eq_decide]
    unfold okc
    omega
  simp only [Option.bind_some, e1, e2, w2, e3, e4, e5, e6, if_true, beq_self_eq_true]
  cases hw : wordB s with
  | false => simp
  | true =>
    have w3 : wordB (s ++ strOfNums [c]) = (b7 && decide (s.size < 16)) := by
      rw [behind z1 hw, one_bt c h0 h1, h7, ← Bool.decide_and, decide_eq_decide]
      unfold okc
      omega
    have w4 : wordB (strOfNums [c] ++ s) = (b6 && decide (s.size < 16)) := by
      rw [ahead z1 hw, one_bt c h0 h1, h6, ← Bool.decide_and, decide_eq_decide]
      unfold okc
      omega
    have w5 : wordB (s ++ (⟨#[65]⟩ : ByteArray)) = false := by
      rw [behind hA hw, bt_A]
      exact decide_eq_false (fun q => by have := q.1; unfold okc at this; omega)
    have w6 : wordB (s ++ (⟨#[32]⟩ : ByteArray)) = false := by
      rw [behind hB hw, bt_sp]
      exact decide_eq_false (fun q => by have := q.1; unfold okc at this; omega)
    have i1 : s.size + (strOfNums [c]).size ≤ 9223372036854775807 := by omega
    have i2 : (strOfNums [c]).size + s.size ≤ 9223372036854775807 := by omega
    have i3 : s.size + 1 ≤ 9223372036854775807 := by omega
    have d16 : decide ((s.size : Int) < 16) = decide (s.size < 16) := by rw [decide_eq_decide]; omega
    simp only [w3, w4, w5, w6, if_pos i1, if_pos i2, if_pos i3, d16, if_true, Bool.false_eq_true, if_false]
    cases b6 <;> cases b7 <;> simp
theorem words_j0 (s : ByteArray) (hs : s.size ≤ 1000) (c : Int) (h0 : 0 ≤ c) (h1 : c < 256) (b : Bool) (hb : b = decide (97 ≤ c ∧ c ≤ 122)) (k : Nat) (hk : 3000 ≤ k) : augurylaw05_EventWords.j0 (k + 1) s c true b = some true := by
  unfold augurylaw05_EventWords.j0
  dsimp only
  by_cases q : 97 ≤ c ∧ c ≤ 122
  · rw [if_pos (by rw [hb]; exact decide_eq_true q)]
    exact words_j1 s hs c h0 h1 b true hb (decide_eq_true (.inl q)).symm _ hk
  · rw [if_neg (by rw [hb, decide_eq_false q]; decide)]
    split
    · split
      · exact words_j1 s hs c h0 h1 b true hb (decide_eq_true (.inr (.inl ⟨by omega, by omega⟩))).symm _ hk
      · exact words_j1 s hs c h0 h1 b _ hb (by rw [Bool.eq_iff_iff]; simp; omega) _ hk
    · exact words_j1 s hs c h0 h1 b _ hb (by rw [Bool.eq_iff_iff]; simp; omega) _ hk
theorem EventWords : augurylaw05_EventWords.Pure := by
  intro s c hs hc
  have hc2 : 0 ≤ c ∧ c < 256 := by
    simp [Lit.wf, IntKind.min, IntKind.max, IntKind.bits, IntKind.signed] at hc
    omega
  obtain ⟨k, hk⟩ : ∃ k : Nat, 3000 ≤ k := ⟨3000, by omega⟩
  refine ⟨k + 1, ?_⟩
  unfold augurylaw05_EventWords.f
  rw [leO_ge augurylaw05_head.mono head_ok (by omega), Option.bind_some]
  by_cases h : (s.size : Int) > 1000
  · rw [if_pos h]
    rfl
  · rw [if_neg h]
    split
    · exact words_j0 s (by omega) c hc2.1 hc2.2 _ (by rw [decide_eq_decide]; omega) k hk
    · exact words_j0 s (by omega) c hc2.1 hc2.2 _ (decide_eq_false (by omega)).symm k hk
end Go.Proofs.Ytbnjhmcbkocdjaa.Pure
