/- Layer 16: GraphMore, plainly. -/
import Derived.Test.YtfmcfigoendjiaaGreatPvMo16
namespace Go.Pv.L16
open Go Go.Pv Go.Proofs
set_option linter.all false
set_option linter.constructorNameAsVariable false
set_option linter.unusedSectionVars false
set_option linter.unusedVariables false
set_option linter.unusedSimpArgs false

theorem lok_app {k : Nat} {l : List Ent} {x : Ent} (hl : LOk k l) (h : l.length ≤ 10) (hx : LOk k [x]) (hk : 2000 < k) : LOk k (l ++ [x]) := by
  refine ⟨hl.1, by rw [List.length_append, List.length_singleton]; omega, fun e he => ?_⟩
  rcases List.mem_append.1 he with he | he
  · exact hl.2.2 e he
  · exact hx.2.2 e he
theorem depths_app {l : List Ent} {x : Ent} (hr : rightE (l ++ [x]) = true) (hn : 0 < l.length) (h1 : ∀ i, i < l.length → readsOf (l ++ [x]) i = readsOf l i) (h2 : readsOf (l ++ [x]) l.length = []) :
    (depthsB (l ++ [x])).2 = (depthsB l).2 ∧ ((depthsB l).2 = 0 → (depthsB (l ++ [x])).1 = (depthsB l).1 ++ [1]) := by
  rw [depthsB_right hr, depthsB_right (right_app hr)]
  have e := dep_one (reads_ok l) h1 h2 hn
  rw [List.length_append, List.length_singleton, e]
  cases dep (readsOf l) l.length (l.length + 1) (List.replicate l.length 0) with
  | none => exact ⟨rfl, fun h => (by cases h)⟩
  | some o =>
    show (resD (some (o ++ [1]))).2 = (resD (some o)).2 ∧ ((resD (some o)).2 = 0 → (resD (some (o ++ [1]))).1 = (resD (some o)).1 ++ [1])
    rw [show resD (some (o ++ [1])) = bif deepB (o ++ [1]) then ([], 2) else (o ++ [1], 0) from rfl, deep_app, show resD (some o) = bif deepB o then ([], 2) else (o, 0) from rfl]
    cases deepB o with
    | true => exact ⟨rfl, fun h => (by cases h)⟩
    | false => exact ⟨rfl, fun _ => rfl⟩
theorem no_edge {l : List Ent} {x : Ent} (hr : rightE (l ++ [x]) = true) (h : readersB (l ++ [x]) (l.length : Int) = []) : ∀ i, i < l.length → edgeB (l ++ [x]) i l.length = false := by
  intro i hi
  have hn : l.length < (l ++ [x]).length := by simp
  cases he : edgeB (l ++ [x]) i l.length with
  | false => rfl
  | true =>
    have hi' : i < (l ++ [x]).length := by simp; omega
    have : (i : Int) ∈ readersB (l ++ [x]) (l.length : Int) := (mem_readers hr hn).2 (.base hi' (mem_rl.2 ⟨l.length, rfl, Nat.zero_le _, hn, he⟩))
    rw [h] at this
    cases this
theorem ext_app (d : List Int) : ext 0 ((List.length d : Nat) : Int) (d ++ [1]) = d := by simp [ext]
theorem inr_app (d : List Int) : inr 0 ((List.length d : Nat) : Int) (d ++ [1]).length = true := by simp [inr]; omega
section
variable {k : Nat} {l : List Ent} {x : Ent} (hl : LOk k l) (hm : LOk k (l ++ [x])) (hr : rightE (l ++ [x]) = true) (hk : 2000 < k) (h1 : ∀ i, i < l.length → readsOf (l ++ [x]) i = readsOf l i)
include hl hm hr hk h1
theorem E6_0_spec (up : Bool) : ∀ (d i j : Nat), l.length - i = d → i ≤ l.length → d < j → E6_0 k j (l, up, l ++ [x], (i : Int), ()) = some (Sum.inl (up, ())) := by
  have h8 := rightE_len (right_app hr)
  intro d
  induction d with
  | zero =>
    intro i j a b c
    have : i = l.length := by omega
    subst this
    match j, c with
    | j + 1, _ => rw [E6_0_eq, nlt_nat]; rfl
  | succ d ih =>
    intro i j a b c
    match j, c with
    | j + 1, c =>
      have hi : i < l.length := by omega
      have hi' : i < (l ++ [x]).length := by simp; omega
      have f1 := F17_spec hl (i : Int)
      have f2 := F17_spec hm (i : Int)
      rw [readsA_eq (right_app hr) hi] at f1
      rw [readsA_eq hr hi', h1 i hi] at f2
      have hlen := readsOf_len l i
      have f3 := F14_same (k := k) (a := readsOf l i) (by omega)
      rw [E6_0_eq, lt_nat hi, wrap_nat (by omega)]
      simp only [cond_true]
      refine ob f1 ?_
      refine ob f2 ?_
      refine ob f3 ?_
      exact ih (i + 1) j (by omega) (by omega) (by omega)
end
theorem PureGraphMore (y : shsDen (argSh [T22, T36])) (hok : okAll [T22, T36] y) : ∃ k z, F6 k y = some ((true, ()), z) := by
  obtain ⟨l, x, u⟩ := y
  obtain ⟨ok1, ok2, _⟩ := hok
  have ok1 : T22.ok l := ok1
  have ok2 : T36.ok x := ok2
  obtain ⟨N1, hT⟩ := lt_of ok1
  obtain ⟨N2, hE⟩ := et_of ok2
  have hT : LT (N1 + N2) l := ⟨hT.1, fun e he => (hT.2 e he).le (by omega)⟩
  have hX : LT (N1 + N2) [x] := ⟨by simp, fun e he => by rw [List.mem_singleton] at he; rw [he]; exact hE.le (by omega)⟩
  refine ⟨140737488351232 + 3000 + (N1 + N2), (), ?_⟩
  generalize hkk : 140737488351232 + 3000 + (N1 + N2) = k
  have hk : 140737488351232 < k := by omega
  have hl := LT.ok hk hT
  have hx := LT.ok hk hX
  obtain ⟨b, h9, hb⟩ := F9_total hk (by omega) hT
  obtain ⟨b2, h9x, _⟩ := F9_total hk (by omega) hX
  show F6 k (l, x, ()) = _
  rw [F6_eq]
  refine ob (head_at hk) ?_
  refine ob h9 ?_
  dsimp only
  cases b with
  | true => rfl
  | false =>
    have h10 := hb rfl
    simp only [Bool.not_false, cond_true, cond_false]
    refine ob h9x ?_
    dsimp only
    cases b2 with
    | true => rfl
    | false =>
    rw [dec_nat0]
    cases hz : decide (l.length = 0) with
    | true => rfl
    | false =>
      have hn : 0 < l.length := by have := of_decide_eq_false hz; omega
      have hm := lok_app hl h10 hx (by omega)
      have c1 : decide ((([] : List (Ty.den T36)).length + List.length l) * (39 + 1) ≤ 140737488355328) = true := decide_eq_true (by simp; omega)
      have c2 : ∀ q : List (Ty.den T36), q = l → decide ((q.length + [x].length) * (39 + 1) ≤ 140737488355328) = true := fun q h => by subst h; exact decide_eq_true (by simp; omega)
      rw [c1]
      simp only [cond_true, cond_false]
      refine (congrArg (fun c => bif c then _ else none) (c2 ([] ++ l) rfl)).trans ?_
      simp only [cond_true, List.nil_append]
      refine ob (F13_spec hm) ?_
      dsimp only
      cases hr : rightE (l ++ [x]) with
      | false => rfl
      | true =>
        simp only [Bool.not_true, Bool.not_false, cond_true, cond_false]
        refine ob (F18_spec hm (l.length : Int)) ?_
        dsimp only
        cases hc1 : decide (0 < ((List.length (readsA (l ++ [x]) (l.length : Int)) : Nat) : Int)) with
        | true => rfl
        | false =>
          simp only [Bool.not_false, cond_true]
          refine ob (F20_spec hm (l.length : Int)) ?_
          dsimp only
          cases hc2 : decide (0 < ((List.length (readersB (l ++ [x]) (l.length : Int)) : Nat) : Int)) with
          | true => rfl
          | false =>
            have hc1 := of_decide_eq_false hc1
            have hc2 := of_decide_eq_false hc2
            have hlt : l.length < (l ++ [x]).length := by simp
            have e1 : readsA (l ++ [x]) (l.length : Int) = [] := List.eq_nil_of_length_eq_zero (by omega)
            have e2 : readersB (l ++ [x]) (l.length : Int) = [] := List.eq_nil_of_length_eq_zero (by omega)
            rw [readsA_eq hr hlt] at e1
            have hne := no_edge hr e2
            have hra : ∀ i, i < l.length → readsOf (l ++ [x]) i = readsOf l i := fun i hi => reads_app hne hi
            obtain ⟨g1, g2⟩ := depths_app hr hn hra e1
            have e6 := E6_0_spec hl hm hr (by omega) hra true l.length 0 k (by omega) (by omega) (by omega)
            have e6 : E6_0 k k (l, true, l ++ [x], 0, ()) = _ := e6
            have h8 := depths_len (l := l)
            simp only [cond_false]
            refine ob (F10_spec hl (by omega)) ?_
            refine ob (F10_spec hm (by omega)) ?_
            dsimp only
            rw [g1, decide_eq_true (show (depthsB l).2 = (depthsB l).2 from rfl)]
            simp only [Bool.not_true, cond_false]
            by_cases h0 : (depthsB l).2 = 0
            · rw [g2 h0, decide_eq_true h0, wrap_nat (by omega), inr_app, ext_app]
              have hle : decide (((List.length ((depthsB l).1 ++ [1]) : Nat) : Int) = ((List.length (depthsB l).1 : Nat) : Int) + 1) = true := decide_eq_true (by simp)
              rw [hle]
              simp only [Bool.not_true, Bool.not_false, Bool.and_true, cond_true, cond_false]
              refine ob (F14_same (k := k) (a := (depthsB l).1) (by omega)) ?_
              dsimp only
              have hin : inb ((List.length (depthsB l).1 : Nat) : Int) (List.length ((depthsB l).1 ++ [1])) = true := inb_nat (by simp)
              have hrd : rd (Ty.i IntKind.i64) ((depthsB l).1 ++ [1]) ((List.length (depthsB l).1 : Nat) : Int) = 1 := (rd_nat (e := Ty.i IntKind.i64) _ _).trans (mid_get _ _ _)
              rw [hin, hrd]
              exact ob e6 rfl
            · rw [decide_eq_false h0]
              simp only [Bool.false_and, cond_false, cond_true]
              refine ob rfl ?_
              exact ob e6 rfl
end Go.Pv.L16
