/- Layer 16: GraphRing, plainly. -/
import Derived.Test.YtfmcfigoendjiaaGreatPvCy16
namespace Go.Pv.L16
open Go Go.Pv Go.Proofs
set_option linter.all false
set_option linter.constructorNameAsVariable false
set_option linter.unusedSectionVars false
set_option linter.unusedVariables false
set_option linter.unusedSimpArgs false

theorem ring_err {l : List Ent} (hr : rightE l = true) : decide ((depthsB l).2 = 161) = true ↔ ∃ i, i < l.length ∧ Rch (readsOf l) l.length i i := by
  rw [← ring_iff (reads_ok l), depthsB_right hr]
  cases hd : dep (readsOf l) l.length (l.length + 1) (List.replicate l.length 0) with
  | none => exact ⟨fun _ => rfl, fun _ => rfl⟩
  | some o =>
    rw [show resD (some o) = bif deepB o then ([], 2) else (o, 0) from rfl]
    cases deepB o with
    | true => exact ⟨fun h => (by cases h), fun h => (by cases h)⟩
    | false => exact ⟨fun h => (by cases h), fun h => (by cases h)⟩
theorem readersB_eq {l : List Ent} (hr : rightE l = true) {i : Nat} (hi : i < l.length) : readersB l (i : Int) = rl (rchB (readsOf l) l.length i) 0 l.length := by
  unfold readersB
  rw [hr, lt_nat hi, decide_eq_true (show (0 : Int) ≤ (i : Int) by omega), Int.toNat_natCast]; rfl
theorem mem_readers {l : List Ent} (hr : rightE l = true) {i : Nat} (hi : i < l.length) {m : Nat} : (m : Int) ∈ readersB l (i : Int) ↔ Rch (readsOf l) l.length i m := by
  rw [readersB_eq hr hi, mem_rl]
  constructor
  · rintro ⟨j, h1, _, _, h2⟩
    have : m = j := by omega
    subst this
    exact rchB_iff.1 h2
  · exact fun h => ⟨m, rfl, Nat.zero_le _, h.lt, rchB_iff.2 h⟩
theorem plc_ge {r : List Int} {n : Int} : decide (0 ≤ plc r n) = conB r n := by
  rw [Bool.eq_iff_iff, decide_eq_true_eq, conB_iff]
  constructor
  · exact fun h => Classical.byContradiction fun hc => by have := plc_neg.2 hc; omega
  · exact fun h => ((plc_pos r n).1 h).1
section
variable {k : Nat} {l : List Ent} (hl : LOk k l) (hr : rightE l = true) (hk : 2000 < k)
include hl hr hk
theorem E7_0_spec (up : Bool) (er : Int) : ∀ (d i j : Nat) (b : Bool), l.length - i = d → i ≤ l.length → d < j →
    E7_0 k j (l, up, er, b, (i : Int), ()) = some (Sum.inl (up, er, b || anyR (fun t => rchB (readsOf l) l.length t t) i l.length, ())) := by
  have h8 := rightE_len hr
  intro d
  induction d with
  | zero =>
    intro i j b h1 h2 h3
    have : i = l.length := by omega
    subst this
    match j, h3 with
    | j + 1, _ => rw [E7_0_eq, nlt_nat, anyR_end, Bool.or_false]; rfl
  | succ d ih =>
    intro i j b h1 h2 h3
    match j, h3 with
    | j + 1, h3 =>
      have hi : i < l.length := by omega
      rw [E7_0_eq, lt_nat hi, wrap_nat (by omega), anyR_step _ hi]
      simp only [cond_true]
      cases b with
      | true =>
        have := ih (i + 1) j true (by omega) (by omega) (by omega)
        simp only [Bool.true_or] at this ⊢
        exact this
      | false =>
        simp only [Bool.not_false, cond_true, cond_false, Bool.false_or]
        refine ob (F19_spec hl hk (i : Int)) ?_
        have h8' := readersB_len (l := l) (x := (i : Int))
        have f := F21_spec (k := k) (x := readersB l (i : Int)) (by omega) (i : Int)
        refine ob f ?_
        dsimp only
        rw [plc_ge]
        have hc : conB (readersB l (i : Int)) (i : Int) = rchB (readsOf l) l.length i i := by
          rw [Bool.eq_iff_iff, conB_iff, mem_readers hr hi, rchB_iff]
        rw [hc]
        exact ih (i + 1) j _ (by omega) (by omega) (by omega)
end
theorem PureGraphRing (x : shsDen (argSh [T22])) (hok : okAll [T22] x) : ∃ k z, F7 k x = some ((true, ()), z) := by
  obtain ⟨l, u⟩ := x
  obtain ⟨ok1, _⟩ := hok
  have ok1 : T22.ok l := ok1
  obtain ⟨N, hT⟩ := lt_of ok1
  refine ⟨140737488351232 + 3000 + N, (), ?_⟩
  generalize hkk : 140737488351232 + 3000 + N = k
  have hk : 140737488351232 < k := by omega
  have hl := LT.ok hk hT
  obtain ⟨b, h9, _⟩ := F9_total hk (by omega) hT
  show F7 k (l, ()) = _
  rw [F7_eq]
  refine ob (head_at hk) ?_
  refine ob h9 ?_
  dsimp only
  cases b with
  | true => rfl
  | false =>
    simp only [Bool.not_false, cond_true, cond_false]
    refine ob (F13_spec hl) ?_
    dsimp only
    cases hr : rightE l with
    | false => rfl
    | true =>
      simp only [Bool.not_true, cond_false]
      refine ob (F10_spec hl (by omega)) ?_
      dsimp only
      have e := E7_0_spec hl hr (by omega) true (depthsB l).2 l.length 0 k false (by omega) (by omega) (by have := hl.2.1; omega)
      have e : E7_0 k k (l, true, (depthsB l).2, false, 0, ()) = _ := e
      refine ob e ?_
      dsimp only
      have : (false || anyR (fun t => rchB (readsOf l) l.length t t) 0 l.length) = decide ((depthsB l).2 = 161) := by
        rw [Bool.false_or, Bool.eq_iff_iff, ring_err hr, anyR_iff]
        constructor
        · rintro ⟨m, _, h1, h2⟩; exact ⟨m, h1, rchB_iff.1 h2⟩
        · rintro ⟨m, h1, h2⟩; exact ⟨m, Nat.zero_le _, h1, rchB_iff.2 h2⟩
      rw [this]
      simp only [cond_true, decide_true]
      rfl
end Go.Pv.L16
