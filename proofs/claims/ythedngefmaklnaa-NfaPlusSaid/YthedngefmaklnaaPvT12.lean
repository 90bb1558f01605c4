/- Layer 12, plainly: the states where a way may be, as a set. -/
import Derived.Test.YthedngefmaklnaaPvS12
namespace Go.Pv.L12
open Go Go.Pv Go.Proofs
set_option linter.all false
set_option linter.constructorNameAsVariable false
set_option linter.unusedSectionVars false
set_option linter.unusedVariables false
set_option linter.unusedSimpArgs false

theorem testBit_two_pow_or {a m t : Nat} : (a ||| 2 ^ m).testBit t = (a.testBit t || decide (m = t)) := by
  rw [Nat.testBit_or, Nat.testBit_two_pow]
theorem testBit_fold {items : List Itm} {nm : ByteArray} {t : Nat} : ∀ (l : List Int) (acc : Nat), (l.foldl (addB items nm) acc).testBit t = true ↔ acc.testBit t = true ∨ ∃ j, j ∈ l ∧ hasB (itmAt items j.toNat).2.1 nm = true ∧ t = j.toNat + 1
  | [], acc => by simp
  | j :: r, acc => by
    rw [List.foldl_cons, testBit_fold r]
    unfold addB
    cases hh : hasB (itmAt items j.toNat).2.1 nm with
    | true =>
      rw [cond_true, testBit_two_pow_or, Bool.or_eq_true, decide_eq_true_eq]
      constructor
      · rintro ((h | h) | ⟨j', h1, h2⟩)
        · exact .inl h
        · exact .inr ⟨j, by simp, hh, h.symm⟩
        · exact .inr ⟨j', by simp [h1], h2⟩
      · rintro (h | ⟨j', h1, h2, h3⟩)
        · exact .inl (.inl h)
        · rcases List.mem_cons.1 h1 with rfl | h1
          · exact .inl (.inr h3.symm)
          · exact .inr ⟨j', h1, h2, h3⟩
    | false =>
      rw [cond_false]
      constructor
      · rintro (h | ⟨j', h1, h2⟩)
        · exact .inl h
        · exact .inr ⟨j', by simp [h1], h2⟩
      · rintro (h | ⟨j', h1, h2, h3⟩)
        · exact .inl h
        · rcases List.mem_cons.1 h1 with rfl | h1
          · rw [hh] at h2; cases h2
          · exact .inr ⟨j', h1, h2, h3⟩

/-- Where a way may be behind a name. -/
def stepP (items : List Itm) (sts : List Sta) (nm : ByteArray) (P : Nat → Prop) (t : Nat) : Prop := ∃ i, i < sts.length ∧ P i ∧ ∃ j, j ∈ (staAt sts i).1 ∧ hasB (itmAt items j.toNat).2.1 nm = true ∧ t = j.toNat + 1
def runP (items : List Itm) (sts : List Sta) : List ByteArray → (Nat → Prop) → Nat → Prop
  | [], P => P
  | nm :: r, P => runP items sts r (stepP items sts nm P)
theorem testBit_step {items : List Itm} {nm : ByteArray} {B t : Nat} : ∀ (sts : List Sta) (i0 acc : Nat), (stepF items nm B sts i0 acc).testBit t = true ↔ acc.testBit t = true ∨ ∃ i, i < sts.length ∧ B.testBit (i0 + i) = true ∧ ∃ j, j ∈ (staAt sts i).1 ∧ hasB (itmAt items j.toNat).2.1 nm = true ∧ t = j.toNat + 1
  | [], i0, acc => by simp [stepF]
  | s :: r, i0, acc => by
    unfold stepF
    rw [testBit_step r (i0 + 1)]
    have h0 : (bif B.testBit i0 then s.1.foldl (addB items nm) acc else acc).testBit t = true ↔ acc.testBit t = true ∨ (B.testBit i0 = true ∧ ∃ j, j ∈ s.1 ∧ hasB (itmAt items j.toNat).2.1 nm = true ∧ t = j.toNat + 1) := by
      cases hb : B.testBit i0 with
      | true => rw [cond_true, testBit_fold]; simp
      | false => simp
    rw [h0]
    constructor
    · rintro ((h | ⟨h1, h2⟩) | ⟨i, h1, h2, h3⟩)
      · exact .inl h
      · exact .inr ⟨0, by simp, by simpa using h1, h2⟩
      · exact .inr ⟨i + 1, by simpa using h1, by rw [show i0 + (i + 1) = i0 + 1 + i by omega]; exact h2, h3⟩
    · rintro (h | ⟨i, h1, h2, h3⟩)
      · exact .inl (.inl h)
      · cases i with
        | zero => exact .inl (.inr ⟨by simpa using h2, h3⟩)
        | succ i => exact .inr ⟨i, by simpa using h1, by rw [show i0 + (i + 1) = i0 + 1 + i by omega] at h2; exact h2, h3⟩
theorem runP_congr {items : List Itm} {sts : List Sta} : ∀ (names : List ByteArray) {P Q : Nat → Prop}, (∀ i, P i ↔ Q i) → ∀ t, runP items sts names P t ↔ runP items sts names Q t
  | [], P, Q, h, t => h t
  | nm :: r, P, Q, h, t => runP_congr r (fun i => by unfold stepP; simp only [h]) t
theorem runP_here {items : List Itm} {sts : List Sta} : ∀ (names : List ByteArray) (B t : Nat), (hereF items sts names B).testBit t = true ↔ runP items sts names (fun i => B.testBit i = true) t
  | [], B, t => Iff.rfl
  | nm :: r, B, t => by
    show (hereF items sts r (stepF items nm B sts 0 0)).testBit t = true ↔ _
    rw [runP_here r]
    refine runP_congr r (fun i => ?_) t
    rw [testBit_step]
    simp only [Nat.zero_testBit, Bool.false_eq_true, false_or, Nat.zero_add]
    rfl
theorem runP_false {items : List Itm} {sts : List Sta} : ∀ (names : List ByteArray) {P : Nat → Prop}, (∀ i, ¬ P i) → ∀ t, ¬ runP items sts names P t
  | [], P, h, t => h t
  | nm :: r, P, h, t => runP_false r (fun i => by rintro ⟨i', _, hi, _⟩; exact h i' hi) t
/-- A whole match, told by sets. -/
theorem acc_iff {items : List Itm} {sts : List Sta} {names : List ByteArray} : accB items sts names = true ↔ ∃ i, i < sts.length ∧ runP items sts names (fun i => i = 0) i ∧ (staAt sts i).2.2 = true := by
  unfold accB
  rw [anyR_iff]
  have h1 : ∀ i, (hereF items sts names 1).testBit i = true ↔ runP items sts names (fun i => i = 0) i := fun i => by
    rw [runP_here]
    refine runP_congr names (fun i => ?_) i
    rw [show (1 : Nat) = 2 ^ 0 from rfl, Nat.testBit_two_pow, decide_eq_true_eq]
    exact eq_comm
  constructor
  · rintro ⟨i, _, h2, h3⟩
    rw [Bool.and_eq_true] at h3
    exact ⟨i, h2, (h1 i).1 h3.1, h3.2⟩
  · rintro ⟨i, h2, h3, h4⟩
    exact ⟨i, Nat.zero_le _, h2, by rw [Bool.and_eq_true]; exact ⟨(h1 i).2 h3, h4⟩⟩

theorem comp_len (q : Qry) : (compileB q).length = q.1.length + 1 := by simp [compileB]
theorem comp_zero (q : Qry) : staAt (compileB q) 0 = (([0], [], false) : Sta) := rfl
theorem comp_succ (q : Qry) {i : Nat} (h : i < q.1.length) : staAt (compileB q) (i + 1) = behindB q.1 i := by
  unfold staAt compileB
  rw [List.getD_cons_succ, List.getD_eq_getElem?_getD, List.getElem?_map, List.getElem?_range h]
  rfl
end Go.Pv.L12
