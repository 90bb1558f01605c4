/- Layer 16: GraphTells, plainly. -/
import Derived.Test.YtfmcfigoendjiaaGreatPvS16
namespace Go.Pv.L16
open Go Go.Pv Go.Proofs
set_option linter.all false
set_option linter.constructorNameAsVariable false
set_option linter.unusedSectionVars false
set_option linter.unusedVariables false
set_option linter.unusedSimpArgs false
theorem obT {α β : Type} {x e : Option α} {a : α} {f : α → Option β} {r : Option β} (h : x = some a) (g : f a = r) : (bif true then x else e).bind f = r := by rw [cond_true, h]; exact g

theorem PureGraphTells (x : shsDen (argSh [T22, T3])) (hok : okAll [T22, T3] x) : ∃ k z, F3 k x = some ((true, ()), z) := by
  obtain ⟨l, n, u⟩ := x
  obtain ⟨ok1, _⟩ := hok
  have ok1 : T22.ok l := ok1
  obtain ⟨N, hT⟩ := lt_of ok1
  refine ⟨140737488351232 + 3000 + N, (), ?_⟩
  generalize hkk : 140737488351232 + 3000 + N = k
  have hk : 140737488351232 < k := by omega
  have hl := LT.ok hk hT
  obtain ⟨b, h9, _⟩ := F9_total hk (by omega) hT
  show F3 k (l, n, ()) = _
  rw [F3_eq]
  refine ob (head_at hk) ?_
  refine ob h9 ?_
  dsimp only
  cases b with
  | true => rfl
  | false =>
    have h10 := F10_spec hl (by omega)
    have h11 := F11_spec hl (by omega)
    have h12 := F12_spec hl
    have h13 := F13_spec hl
    have h15 := F15_spec hl (by omega)
    have h16 := F16_spec hl (by omega)
    have h17 := F17_spec hl n
    have h18 := F18_spec hl n
    have h19 := F19_spec hl (by omega) n
    have h20 := F20_spec hl n
    have d1 := F14_same (k := k) (a := (depthsB l).1) (by have := depths_len (l := l); omega)
    have d2 := F14_same (k := k) (a := orderB l) (by have := order_len (l := l); omega)
    have d3 := F14_same (k := k) (a := readsA l n) (by have := readsA_len (l := l) (x := n); omega)
    have d4 := F14_same (k := k) (a := readersB l n) (by have := readersB_len (l := l) (x := n); omega)
    simp only [cond_false]
    refine ob h10 ?_
    refine ob h11 ?_
    simp only [cond_true]
    refine ob h12 ?_
    refine ob h13 ?_
    dsimp only
    simp only [cond_true, decide_true]
    refine ob d1 ?_
    simp only [cond_true]
    refine ob h15 ?_
    refine ob h16 ?_
    refine ob d2 ?_
    simp only [cond_true]
    refine ob h17 ?_
    refine ob h18 ?_
    refine ob d3 ?_
    simp only [cond_true]
    refine ob h19 ?_
    refine ob h20 ?_
    refine ob d4 ?_
    rfl
end Go.Pv.L16
