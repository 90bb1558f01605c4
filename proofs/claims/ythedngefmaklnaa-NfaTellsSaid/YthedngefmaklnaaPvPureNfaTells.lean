/- Layer 12: NfaTells, plainly. -/
import Derived.Test.YthedngefmaklnaaPvY12
import Derived.Test.YthedngefmaklnaaPvHead12
namespace Go.Pv.L12
open Go Go.Pv Go.Proofs
set_option linter.all false
set_option linter.constructorNameAsVariable false
set_option linter.unusedSectionVars false
set_option linter.unusedVariables false
set_option linter.unusedSimpArgs false

theorem head_at4 {k : Nat} (hk : 140737488351232 < k) : F9 k () = some ((true, ()), ()) := by
  have := head_ok (k - 100)
  rwa [show k - 100 + 100 = k by omega] at this
theorem stp {α β : Type} {x : Option α} {a : α} {f : α → Option β} {r : Option β} (h : x = some a) (g : f a = r) : x.bind f = r := by rw [h]; exact g
theorem stpT {α β : Type} {x e : Option α} {a : α} {f : α → Option β} {r : Option β} (h : x = some a) (g : f a = r) : (bif true then x else e).bind f = r := by rw [cond_true, h]; exact g
theorem follow_sizes : ∀ (l : List Itm) (j : Nat), (follow l j).1.length ≤ l.length ∧ (follow l j).2.length ≤ l.length
  | [], j => ⟨Nat.le_refl _, Nat.le_refl _⟩
  | y :: r, j => by
    obtain ⟨h1, h2⟩ := follow_sizes r (j + 1)
    unfold follow
    cases y.1 with
    | true => exact ⟨Nat.le_succ_of_le h1, Nat.succ_le_succ h2⟩
    | false =>
      cases decide (y.2.2.2 = 3) with
      | true => exact ⟨Nat.succ_le_succ h1, Nat.le_succ_of_le h2⟩
      | false => exact ⟨Nat.succ_le_succ (Nat.zero_le _), Nat.zero_le _⟩
theorem compile_sizes {q : Qry} {s : Sta} (hs : s ∈ compileB q) : s.1.length ≤ q.1.length + 1 ∧ s.2.1.length ≤ q.1.length + 1 := by
  unfold compileB at hs
  rcases List.mem_cons.1 hs with rfl | hs
  · exact ⟨by (show 1 ≤ _); omega, by (show 0 ≤ _); omega⟩
  · obtain ⟨i, hi, rfl⟩ := List.mem_map.1 hs
    obtain ⟨h1, h2⟩ := follow_sizes (q.1.drop (i + 1)) (i + 1)
    rw [List.length_drop] at h1 h2
    refine ⟨?_, by (show (follow (q.1.drop (i + 1)) (i + 1)).2.length ≤ _); omega⟩
    show ((bif decide ((itmAt q.1 i).2.2.2 = 2) then [(i : Int)] else []) ++ (follow (q.1.drop (i + 1)) (i + 1)).1).length ≤ _
    rw [List.length_append]
    cases decide ((itmAt q.1 i).2.2.2 = 2) with
    | true => (show 1 + _ ≤ _); omega
    | false => (show 0 + _ ≤ _); omega

theorem PureNfaTells (x : shsDen (argSh [T25, T26])) (hok : okAll [T25, T26] x) : ∃ k z, F3 k x = some ((true, ()), z) := by
  obtain ⟨q, names, u⟩ := x
  obtain ⟨ok1, ok2, _⟩ := hok
  have ok1 : T25.ok q := ok1
  have ok2 : T26.ok names := ok2
  obtain ⟨N, hT⟩ := qt_of ok1
  have hnl : names.length ≤ 140737488351232 := ok2.1
  refine ⟨140737488351232 + 3000 + N, (), ?_⟩
  generalize hkk : 140737488351232 + 3000 + N = k
  have hk : 140737488351232 < k := by omega
  have hq := hT.ok hk
  obtain ⟨b1, h10⟩ := F10_total hT hk (by omega)
  obtain ⟨b2, h11⟩ := F11_total hk hnl
  show F3 k (q, names, ()) = _
  rw [F3_eq]
  refine stp (head_at4 hk) ?_
  refine stp h10 ?_
  cases b1 with
  | true => rfl
  | false =>
    refine stp (a := ((b2, ()), ())) h11 ?_
    cases b2 with
    | true => rfl
    | false =>
      have hc : ∀ s, s ∈ (bif rightB q then compileB q else []) → s.1.length < min k 9223372036854775807 ∧ s.2.1.length < min k 9223372036854775807 := fun s hs => by
        cases hr : rightB q with
        | false => rw [hr] at hs; cases hs
        | true =>
          rw [hr, cond_true] at hs
          obtain ⟨g1, g2⟩ := compile_sizes hs
          obtain ⟨l1, l2⟩ := right_len hr
          omega
      have hl : (bif rightB q then compileB q else []).length < min k 9223372036854775807 := by
        cases hr : rightB q with
        | false => (show 0 < _); omega
        | true => rw [cond_true, comp_len]; have := (right_len hr).2; omega
      have h12 := F12_spec hl hc
      have h13 := F13_spec hq (by omega)
      have h14 := F14_spec hq (by omega)
      have h15 := F15_spec hq (by omega) (names := names) (by omega)
      have h16 := F16_spec hq (by omega) (names := names) (by omega)
      generalize (bif rightB q then compileB q else []) = sts at h12 h13 h14
      generalize acceptsB q names = acc at h15 h16
      refine stp h13 ?_
      refine stp h14 ?_
      refine stpT (a := ((true, ()), ())) h12 ?_
      refine stpT (a := ((acc, ()), ())) h15 ?_
      refine stpT (a := ((acc, ()), ())) h16 ?_
      show some ((decide (acc = acc), ()), ()) = _
      rw [decide_eq_true rfl]
      rfl
end Go.Pv.L12
