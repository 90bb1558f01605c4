/- Layer 07: LexPlaces, plainly. -/
import Derived.Test.YtgolpihhlfgjbaaDoorPvD07
namespace Go.Pv.L07
open Go Go.Pv Go.Proofs
set_option linter.all false
set_option linter.constructorNameAsVariable false
set_option linter.unusedSectionVars false
set_option linter.unusedVariables false
set_option linter.unusedSimpArgs false

theorem PureLexPlaces (x : shsDen (argSh [T9])) (hok : okAll [T9] x) : ∃ k z, F4 k x = some ((true, ()), z) := by
  obtain ⟨a, u⟩ := x
  refine ⟨10000000000, (), ?_⟩
  generalize hkk : 10000000000 = k
  have hk : 5000000000 < k := by omega
  show F4 k (a, ()) = _
  rw [F4_eq, head_at (by omega)]
  dsimp only [Option.bind]
  cases h3 : decide ((3000 : Int) < (a.size : Int)) with
  | true => rfl
  | false =>
    rw [cond_false]
    by_cases h5 : 512 < a.size
    · rw [F7_great h5]; rfl
    · obtain ⟨ts, st, hl⟩ := lex_ex k a.data.toList.length a.data.toList 0 (Nat.le_refl _)
      obtain ⟨f1, f2⟩ := F7_spec (by omega) hk hl
      by_cases hn : 128 < ts.length
      · obtain ⟨p, hp⟩ := f1 hn
        rw [hp]; rfl
      · have hp := f2 (by omega)
        cases st with
        | some p => rw [hp]; rfl
        | none =>
          rw [hp]
          dsimp only
          have key := E4_0_spec (a := a) (by omega) (by omega : 5000 < k) (up := true) hl rfl rfl (Nat.zero_le _) k (ts.map toTok) [] rfl (by simp; omega) (by omega)
          have key : E4_0 k k (a, true, ts.map toTok, 0, 0, ()) = _ := key
          rw [show (!decide ((0 : Int) = 0)) = false from rfl, cond_false, key]
          dsimp only
          rw [List.length_map, decide_eq_true (by omega : (ts.length : Int) ≤ 128)]
          rfl
end Go.Pv.L07
