/- Layer 12, plainly: what Accepts computes. -/
import Derived.Test.YthedngefmaklnaaPvN12
namespace Go.Pv.L12
open Go Go.Pv Go.Proofs
set_option linter.all false
set_option linter.constructorNameAsVariable false
set_option linter.unusedSectionVars false
set_option linter.unusedVariables false
set_option linter.unusedSimpArgs false

def hasB (l : List ByteArray) (s : ByteArray) : Bool := l.any fun x => decide (x = s)

theorem F25_spec {k : Nat} {l : List ByteArray} {s : ByteArray} (hl : l.length < min k 9223372036854775807) : F25 k (l, s, ()) = some ((hasB l s, ()), ()) := by
  have hE := scanI (E := fun j i => E36_0 k j (l, s, (l.length : Int), i, ())) (n := l.length) (p := fun i => decide (l.getD i ByteArray.empty = s)) (f := fun i => Sum.inr (Sum.inl ((i : Int), ()))) (b := Sum.inl ()) (fun j i hi => by
      dsimp only
      rw [E36_0_eq, lt_nat hi, inb_nat hi, wrap_nat (by omega), rd_nat]
      rw [show decide (s = List.getD l i (Ty.dflt Ty.s)) = decide (l.getD i ByteArray.empty = s) from decide_eq_decide.2 ⟨Eq.symm, Eq.symm⟩]
      rfl)
    (fun j => by dsimp only; rw [E36_0_eq, nlt_nat]; rfl) l.length 0 k (by omega) (by omega) (by omega)
  rw [F25_eq, F36_eq]
  unfold hasB
  rw [any_anyR l (fun x => decide (x = s)) ByteArray.empty]
  cases ha : anyR (fun i => decide (l.getD i ByteArray.empty = s)) 0 l.length with
  | true =>
    obtain ⟨m, _, _, hm⟩ := hE.1 ha
    have hm : E36_0 k k (l, s, (l.length : Int), 0, ()) = some (Sum.inr (Sum.inl ((m : Int), ()))) := hm
    rw [hm]
    show some ((decide (0 ≤ (m : Int)), ()), ()) = _
    rw [decide_eq_true (by omega : 0 ≤ (m : Int))]
  | false =>
    have hm : E36_0 k k (l, s, (l.length : Int), 0, ()) = some (Sum.inl ()) := hE.2 ha
    rw [hm]
    rfl

theorem F18_spec {k : Nat} {x : Itm} {s : ByteArray} (hl : x.2.1.length < min k 9223372036854775807) : F18 k (x, s, ()) = some ((hasB x.2.1 s, ()), ()) := by
  have hE : E18_0 k k (s, (x, ()), 0, ()) = some (bif anyR (fun i => decide (x.2.1.getD i ByteArray.empty = s)) 0 x.2.1.length then Sum.inr (Sum.inl (true, ())) else Sum.inl ()) := by
    refine scan0 (E := fun j i => E18_0 k j (s, (x, ()), i, ())) (fun j i hi => ?_) (fun j => ?_) (by omega)
    · dsimp only
      rw [E18_0_eq, lt_nat hi, inb_nat hi, wrap_nat (by omega), rd_nat]
      rfl
    · dsimp only
      rw [E18_0_eq, nlt_nat]; rfl
  rw [F18_eq, hE]
  unfold hasB
  rw [any_anyR x.2.1 (fun x => decide (x = s)) ByteArray.empty]
  cases anyR (fun i => decide (x.2.1.getD i ByteArray.empty = s)) 0 x.2.1.length <;> rfl

/-! ### bits -/
theorem or_bits {a m : Nat} (ha : a < 2 ^ 40) (hm : m < 40) : IntKind.i64.wrap ((BitVec.ofInt IntKind.i64.bits (a : Int) ||| BitVec.ofInt IntKind.i64.bits (IntKind.i64.wrap (1 * 2 ^ min (m : Int).toNat IntKind.i64.bits))).toNat : Int) = ((a ||| 2 ^ m : Nat) : Int) := by
  have h64 : IntKind.i64.bits = 64 := rfl
  have hmin : min (m : Int).toNat IntKind.i64.bits = m := by rw [h64]; omega
  have hp : (2 : Nat) ^ m < 2 ^ 40 := Nat.pow_lt_pow_right (by omega) hm
  have e1 : IntKind.i64.wrap (1 * 2 ^ m) = ((2 ^ m : Nat) : Int) := by
    have : (1 * 2 ^ m : Int) = ((2 ^ m : Nat) : Int) := by rw [Int.one_mul, Int.natCast_pow]; rfl
    rw [this]
    generalize (2 : Nat) ^ m = pw at hp ⊢
    exact wrap_le (by omega) (by omega)
  rw [hmin, e1]
  have e2 : (BitVec.ofInt IntKind.i64.bits (a : Int) ||| BitVec.ofInt IntKind.i64.bits ((2 ^ m : Nat) : Int)).toNat = a ||| 2 ^ m := by
    rw [BitVec.toNat_or, BitVec.ofInt_natCast, BitVec.ofInt_natCast, BitVec.toNat_ofNat, BitVec.toNat_ofNat, h64, Nat.mod_eq_of_lt (by omega), Nat.mod_eq_of_lt (by omega)]
  rw [e2]
  have : a ||| 2 ^ m < 2 ^ 40 := Nat.or_lt_two_pow ha hp
  exact wrap_le (by omega) (by omega)

theorem and_bit {a i : Nat} (ha : a < 2 ^ 40) (hi : i < 40) : IntKind.i64.wrap ((BitVec.ofInt IntKind.i64.bits (Int.fdiv (a : Int) (2 ^ min (Int.toNat (i : Int)) IntKind.i64.bits)) &&& BitVec.ofInt IntKind.i64.bits 1).toNat : Int) = if Nat.testBit a i then 1 else 0 := by
  have h64 : IntKind.i64.bits = 64 := rfl
  have hmin : min (Int.toNat (i : Int)) IntKind.i64.bits = i := by rw [h64]; omega
  rw [hmin]
  have e1 : Int.fdiv (a : Int) (2 ^ i) = ((a / 2 ^ i : Nat) : Int) := by
    have hpc : ((2 : Int) ^ i) = ((2 ^ i : Nat) : Int) := by rw [Int.natCast_pow]; rfl
    rw [hpc, Int.fdiv_eq_ediv_of_nonneg _ (Int.natCast_nonneg _), ← Int.natCast_ediv]
  rw [e1]
  have hle : a / 2 ^ i ≤ a := Nat.div_le_self _ _
  have e2 : (BitVec.ofInt IntKind.i64.bits ((a / 2 ^ i : Nat) : Int) &&& BitVec.ofInt IntKind.i64.bits 1).toNat = (a / 2 ^ i) % 2 := by
    rw [BitVec.toNat_and, BitVec.ofInt_natCast, BitVec.toNat_ofNat, h64, Nat.mod_eq_of_lt (by omega)]
    rw [show (BitVec.ofInt 64 1).toNat = 1 from rfl, Nat.and_one_is_mod]
  rw [e2]
  rw [Nat.testBit_eq_decide_div_mod_eq]
  rcases Nat.mod_two_eq_zero_or_one (a / 2 ^ i) with h | h <;> rw [h] <;> rfl
end Go.Pv.L12
