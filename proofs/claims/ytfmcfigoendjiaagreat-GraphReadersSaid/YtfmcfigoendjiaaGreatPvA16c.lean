/- Layer 16, plainly: values and quoted texts. -/
import Derived.Test.YtfmcfigoendjiaaGreatPvA16b
namespace Go.Pv.L16
open Go Go.Pv Go.Proofs
set_option linter.all false
set_option linter.constructorNameAsVariable false
set_option linter.unusedSectionVars false
set_option linter.unusedVariables false
set_option linter.unusedSimpArgs false

def valB (x0 : Ty.den T81) : Bool := bif decide (x0.fst = 1) then (bif bif decide (-1099511627776 ≤ x0.snd.fst) then decide (x0.snd.fst ≤ 1099511627776) else false then decide (x0.snd.snd = { data := #[] : ByteArray }) else false) else bif decide (x0.fst = 2) then (bif decide (x0.snd.fst = 0) then decide ((↑(ByteArray.size x0.snd.snd) : Int) ≤ 64) else false) else bif decide (x0.fst = 3) then (bif bif decide (0 ≤ x0.snd.fst) then decide (x0.snd.fst ≤ 1) else false then decide (x0.snd.snd = { data := #[] : ByteArray }) else false) else false
theorem F112_spec (k : Nat) (v : Ty.den T81) : F112 k (v, ()) = some ((valB v, ()), ()) := by
  rw [F112_eq]
  unfold valB
  cases decide (v.fst = 1) <;> cases decide (v.fst = 2) <;> cases decide (v.fst = 3) <;> rfl
theorem F117_spec (k : Nat) (v : Ty.den T81) : F117 k (v, ()) = some ((valB v, ()), ()) := by
  rw [F117_eq]
  unfold valB
  by_cases h1 : v.fst = 1
  · rw [decide_eq_true h1]; rfl
  · rw [decide_eq_false h1]
    by_cases h3 : v.fst = 3
    · have h2 : ¬ v.fst = 2 := by intro h; rw [h] at h3; exact absurd h3 (by decide)
      rw [decide_eq_true h3, decide_eq_false h2]; rfl
    · rw [decide_eq_false h3]
      cases decide (v.fst = 2) <;> rfl

def badT (s : ByteArray) (i : Nat) : Bool :=
  let c : Int := (bt s i).toNat
  decide (c < 32) || (decide (126 < c) || decide (c = 39))
def plainB (s : ByteArray) : Bool := !anyR (badT s) 0 s.size

theorem F118_spec {k : Nat} {s : ByteArray} (hk : s.size < k) (hs : s.size < 9223372036854775807) : F118 k (s, ()) = some ((plainB s, ()), ()) := by
  have hE : E118_0 k k (s, (s.size : Int), 0, ()) = some (bif anyR (badT s) 0 s.size then Sum.inr (Sum.inl (false, ())) else Sum.inl ()) := by
    refine scan0 (E := fun j i => E118_0 k j (s, (s.size : Int), i, ())) (fun j i hi => ?_) (fun j => ?_) hk
    · dsimp only
      rw [E118_0_eq, lt_nat hi, inb_nat hi, wrap_nat (by omega)]
      simp only [badT]
      cases decide (((bt s i).toNat : Int) < 32) <;> cases decide (126 < ((bt s i).toNat : Int)) <;> cases decide (((bt s i).toNat : Int) = 39) <;> rfl
    · dsimp only
      rw [E118_0_eq, nlt_nat]; rfl
  rw [F118_eq, hE]
  unfold plainB
  cases anyR (badT s) 0 s.size <;> rfl

theorem Ex.eta (x : Ex) : Ex.mk (Ex.kind x) (Ex.vk x) (Ex.vn x) (Ex.vs x) (Ex.var x) (Ex.fld x) (Ex.kids x) = x := by cases x; rfl

theorem E92_0_spec {k : Nat} (s92 : shsDen I92 → Option (shsDen O92 × shsDen (shsUpd I92))) {x : Ty.den T84} (hk : (Ex.vs x).size < k) (hs : (Ex.vs x).size < 9223372036854775807) :
    E92_0 k s92 k ((x, ()), 0, ()) = some (bif anyR (badT (Ex.vs x)) 0 (Ex.vs x).size then Sum.inr (Sum.inl (false, ())) else Sum.inl ((x, ()), ())) := by
  refine scan0 (E := fun j i => E92_0 k s92 j ((x, ()), i, ())) (fun j i hi => ?_) (fun j => ?_) hk
  · dsimp only
    rw [E92_0_eq, lt_nat hi, inb_nat hi, wrap_nat (by omega), Ex.eta]
    simp only [badT]
    cases decide (((bt (Ex.vs x) i).toNat : Int) < 32) <;> cases decide (126 < ((bt (Ex.vs x) i).toNat : Int)) <;> cases decide (((bt (Ex.vs x) i).toNat : Int) = 39) <;> rfl
  · dsimp only
    rw [E92_0_eq, nlt_nat, Ex.eta]; rfl
end Go.Pv.L16
