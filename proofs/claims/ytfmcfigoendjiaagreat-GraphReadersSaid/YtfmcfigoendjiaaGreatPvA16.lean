/- Layer 16, plainly: words, keys, values, texts. -/
import Derived.Test.YtfmcfigoendjiaaGreatPvQ16
import Derived.Test.YtfmcfigoendjiaaGreatPvP0
namespace Go.Pv.L16
open Go Go.Pv Go.Proofs
set_option linter.all false
set_option linter.constructorNameAsVariable false
set_option linter.unusedSectionVars false
set_option linter.unusedVariables false
set_option linter.unusedSimpArgs false

/-- May a byte not stand in a word there? -/
def badB (s : ByteArray) (i : Nat) : Bool :=
  let c : Int := (bt s i).toNat
  !(decide (97 ≤ c) && decide (c ≤ 122)) && (decide (i = 0) || (!decide (c = 95) && (decide (c < 48) || decide (57 < c))))
def wordB (s : ByteArray) : Bool := !anyR (badB s) 0 s.size && (decide (1 ≤ s.size) && decide (s.size ≤ 16))

theorem size_zero {s : ByteArray} : s = { data := #[] } ↔ s.size = 0 := by
  constructor
  · rintro rfl; rfl
  · intro h
    obtain ⟨⟨l⟩⟩ := s
    cases l with
    | nil => rfl
    | cons x l => simp [ByteArray.size] at h

theorem F42_spec {k : Nat} {s : ByteArray} (hk : s.size < k) (hs : s.size < 9223372036854775807) : F42 k (s, ()) = some ((wordB s, ()), ()) := by
  have hE : E42_0 k k (s, 0, ()) = some (bif anyR (badB s) 0 s.size then Sum.inr (Sum.inl (false, ())) else Sum.inl (s, ())) := by
    refine scan0 (E := fun j i => E42_0 k j (s, i, ())) (fun j i hi => ?_) (fun j => ?_) hk
    · dsimp only
      rw [E42_0_eq, lt_nat hi, inb_nat hi, wrap_nat (by omega)]
      simp only [cond_true, badB]
      congr 1
      by_cases h0 : i = 0
      · subst h0; simp
      · have : decide ((i : Int) = 0) = false := by simp; omega
        rw [this]
        simp only [h0, decide_false, cond_false, Bool.false_or]
        cases decide (97 ≤ ((bt s i).toNat : Int)) <;> cases decide (((bt s i).toNat : Int) ≤ 122) <;> cases decide (((bt s i).toNat : Int) = 95) <;> cases decide (((bt s i).toNat : Int) < 48) <;> cases decide (57 < ((bt s i).toNat : Int)) <;> rfl
    · dsimp only
      rw [E42_0_eq, nlt_nat]; rfl
  rw [F42_eq, hE]
  unfold wordB
  cases anyR (badB s) 0 s.size with
  | true => rfl
  | false =>
    simp only [cond_false, Option.bind_some, Bool.not_false, Bool.true_and]
    have e1 : decide (1 ≤ (s.size : Int)) = decide (1 ≤ s.size) := by simp; omega
    have e2 : decide ((s.size : Int) ≤ 16) = decide (s.size ≤ 16) := by simp; omega
    rw [e1, e2]
    cases decide (1 ≤ s.size) <;> rfl

theorem F26_spec {k : Nat} {s : ByteArray} (hk : s.size < k) (hs : s.size < 9223372036854775807) : F26 k (s, ()) = some ((wordB s, ()), ()) := by
  have hE : E26_0 k k (s, (s.size : Int), 0, ()) = some (bif anyR (badB s) 0 s.size then Sum.inr (Sum.inl (false, ())) else Sum.inl (s, ())) := by
    refine scan0 (E := fun j i => E26_0 k j (s, (s.size : Int), i, ())) (fun j i hi => ?_) (fun j => ?_) hk
    · dsimp only
      rw [E26_0_eq, lt_nat hi, inb_nat hi, wrap_nat (by omega)]
      simp only [cond_true, badB]
      by_cases h0 : i = 0
      · subst h0
        simp
        cases decide (97 ≤ ((bt s 0).toNat : Int)) <;> cases decide (((bt s 0).toNat : Int) ≤ 122) <;> rfl
      · have : decide (0 < (i : Int)) = true := by simp; omega
        rw [this]
        simp only [h0, decide_false, cond_true, Bool.false_or]
        have e : decide (48 ≤ ((bt s i).toNat : Int)) = !decide (((bt s i).toNat : Int) < 48) := by
          rw [← decide_not]; congr 1; simp
        have e' : decide (((bt s i).toNat : Int) ≤ 57) = !decide (57 < ((bt s i).toNat : Int)) := by
          rw [← decide_not]; congr 1; simp
        rw [e, e']
        cases decide (97 ≤ ((bt s i).toNat : Int)) <;> cases decide (((bt s i).toNat : Int) ≤ 122) <;> cases decide (((bt s i).toNat : Int) = 95) <;> cases decide (((bt s i).toNat : Int) < 48) <;> cases decide (57 < ((bt s i).toNat : Int)) <;> rfl
    · dsimp only
      rw [E26_0_eq, nlt_nat]; rfl
  rw [F26_eq, hE]
  unfold wordB
  cases anyR (badB s) 0 s.size with
  | true => rfl
  | false =>
    simp only [cond_false, Option.bind_some, Bool.not_false, Bool.true_and]
    have e1 : (!decide (s = { data := #[] })) = decide (1 ≤ s.size) := by
      rw [← decide_not]; exact decide_eq_decide.2 (by rw [size_zero]; omega)
    have e2 : decide ((s.size : Int) ≤ 16) = decide (s.size ≤ 16) := by simp; omega
    rw [e1, e2]
    cases decide (1 ≤ s.size) <;> rfl
end Go.Pv.L16
