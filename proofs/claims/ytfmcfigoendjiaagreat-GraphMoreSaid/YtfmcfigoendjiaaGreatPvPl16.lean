/- Layer 16, plainly: where a number stands in a row. -/
import Derived.Test.YtfmcfigoendjiaaGreatPvS16
namespace Go.Pv.L16
open Go Go.Pv Go.Proofs
set_option linter.all false
set_option linter.constructorNameAsVariable false
set_option linter.unusedSectionVars false
set_option linter.unusedVariables false
set_option linter.unusedSimpArgs false

theorem obT {α β : Type} {x e : Option α} {a : α} {f : α → Option β} {r : Option β} (h : x = some a) (g : f a = r) : (bif true then x else e).bind f = r := by rw [cond_true, h]; exact g
/-- The place of a number in a row; below 0: it is not there. -/
def plc : List Int → Int → Int
  | [], _ => -1
  | a :: r, n => bif decide (a = n) then 0 else bif decide (plc r n < 0) then -1 else plc r n + 1
theorem plc_pos : ∀ (r : List Int) (n : Int), (n ∈ r → 0 ≤ plc r n ∧ plc r n < r.length) ∧ (n ∉ r → plc r n = -1)
  | [], n => ⟨fun h => (by cases h), fun _ => rfl⟩
  | a :: r, n => by
    obtain ⟨h1, h2⟩ := plc_pos r n
    unfold plc
    cases ha : decide (a = n) with
    | true =>
      have ha := of_decide_eq_true ha
      subst ha
      exact ⟨fun _ => ⟨Int.le_refl _, (show (0 : Int) < ((a :: r).length : Int) by simp)⟩, fun h => absurd (List.mem_cons_self ..) h⟩
    | false =>
      have ha := of_decide_eq_false ha
      refine ⟨fun h => ?_, fun h => ?_⟩
      · rcases List.mem_cons.1 h with e | h
        · exact absurd e.symm ha
        · obtain ⟨k1, k2⟩ := h1 h
          rw [decide_eq_false (show ¬ plc r n < 0 by omega)]
          simp only [cond_false, List.length_cons]
          omega
      · rw [h2 fun h' => h (List.mem_cons_of_mem _ h')]
        rfl
theorem plc_neg {r : List Int} {n : Int} : plc r n < 0 ↔ n ∉ r := by
  obtain ⟨h1, h2⟩ := plc_pos r n
  constructor
  · exact fun h hm => by have := (h1 hm).1; omega
  · exact fun h => by rw [h2 h]; decide
theorem plc_left {p r : List Int} {n : Int} (h : n ∈ p) : plc (p ++ r) n = plc p n := by
  induction p with
  | nil => cases h
  | cons a p ih =>
    rw [List.cons_append]
    unfold plc
    cases ha : decide (a = n) with
    | true => rfl
    | false =>
      have ha := of_decide_eq_false ha
      rcases List.mem_cons.1 h with e | h
      · exact absurd e.symm ha
      · rw [ih h]
theorem plc_right {p r : List Int} {n : Int} (h : n ∉ p) (hr : n ∈ r) : plc (p ++ r) n = plc r n + p.length := by
  induction p with
  | nil => simp
  | cons a p ih =>
    rw [List.cons_append]
    have ha : decide (a = n) = false := decide_eq_false fun e => h (by rw [e]; exact List.mem_cons_self ..)
    have := ih fun h' => h (List.mem_cons_of_mem _ h')
    have hp := ((plc_pos r n).1 hr).1
    show (bif decide (a = n) then 0 else bif decide (plc (p ++ r) n < 0) then -1 else plc (p ++ r) n + 1) = _
    rw [ha, this, decide_eq_false (show ¬ plc r n + (p.length : Int) < 0 by omega)]
    simp only [cond_false, List.length_cons]
    omega
/-- What stands in the first of two parts stands ahead of what stands in the second one alone. -/
theorem plc_lt {p r : List Int} {m n : Int} (hm : m ∈ p) (hn : n ∉ p) (hr : n ∈ r) : plc (p ++ r) m < plc (p ++ r) n := by
  rw [plc_left hm, plc_right hn hr]
  have := ((plc_pos p m).1 hm).2
  have := ((plc_pos r n).1 hr).1
  omega
theorem E21_0_spec {k : Nat} {x : List Int} (hx : x.length < 1000000) (n : Int) : ∀ (d i j : Nat), x.length - i = d → i ≤ x.length → d < j → E21_0 k j (x, n, (i : Int), ()) = some (bif decide (plc (x.drop i) n < 0) then Sum.inl () else Sum.inr (Sum.inl (plc (x.drop i) n + (i : Int), ()))) := by
  intro d
  induction d with
  | zero =>
    intro i j h1 h2 h3
    have : i = x.length := by omega
    subst this
    match j, h3 with
    | j + 1, _ => rw [E21_0_eq, nlt_nat, List.drop_length]; rfl
  | succ d ih =>
    intro i j h1 h2 h3
    match j, h3 with
    | j + 1, h3 =>
      have hi : i < x.length := by omega
      have e : rd (Ty.i IntKind.i64) x (i : Int) = x[i] := rd_get hi
      rw [E21_0_eq, lt_nat hi, inb_nat hi, wrap_nat (by omega), e, List.drop_eq_getElem_cons hi]
      simp only [cond_true]
      have hd : plc (x[i] :: x.drop (i + 1)) n = bif decide (x[i] = n) then 0 else bif decide (plc (x.drop (i + 1)) n < 0) then -1 else plc (x.drop (i + 1)) n + 1 := rfl
      rw [hd]
      cases ha : decide (x[i] = n) with
      | true =>
        show some (Sum.inr (Sum.inl ((i : Int), ()))) = some (Sum.inr (Sum.inl (0 + (i : Int), ())))
        rw [Int.zero_add]
      | false =>
        have := ih (i + 1) j (by omega) (by omega) (by omega)
        have e2 : E21_0 k j (x, n, (i : Int) + 1, ()) = _ := this
        show E21_0 k j (x, n, (i : Int) + 1, ()) = _
        rw [e2]
        generalize plc (x.drop (i + 1)) n = v
        cases hv : decide (v < 0) with
        | true => rfl
        | false =>
          have hv := of_decide_eq_false hv
          simp only [cond_false]
          rw [decide_eq_false (show ¬ v + 1 < 0 by omega)]
          simp only [cond_false]
          rw [show v + ((i + 1 : Nat) : Int) = v + 1 + (i : Int) by omega]
theorem F21_spec {k : Nat} {x : List Int} (hx : x.length < min k 1000000) (n : Int) : F21 k (x, n, ()) = some ((plc x n, ()), ()) := by
  have e := E21_0_spec (k := k) (x := x) (by omega) n x.length 0 k (by omega) (by omega) (by omega)
  have e : E21_0 k k (x, n, 0, ()) = _ := e
  rw [List.drop_zero] at e
  rw [F21_eq]
  cases hv : decide (plc x n < 0) with
  | true =>
    rw [hv] at e
    have : plc x n = -1 := (plc_pos x n).2 (plc_neg.1 (of_decide_eq_true hv))
    rw [this]
    exact ob e rfl
  | false =>
    rw [hv] at e
    refine ob e ?_
    show some ((plc x n + ((0 : Nat) : Int), ()), ()) = _
    rw [show plc x n + ((0 : Nat) : Int) = plc x n by omega]
end Go.Pv.L16
