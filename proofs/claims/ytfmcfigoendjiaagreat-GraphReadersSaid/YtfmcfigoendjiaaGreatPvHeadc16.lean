/- Layer 16: the live question is answered. -/
import Derived.Test.YtfmcfigoendjiaaGreatPvHeadb16
namespace Go.Pv.L16
open Go Go.Pv Go.Proofs
set_option linter.all false
set_option linter.constructorNameAsVariable false
set_option linter.unusedSectionVars false
set_option linter.unusedVariables false
set_option linter.unusedSimpArgs false
theorem obind {α β : Type} {o : Option α} {a : α} {f : α → Option β} {r : Option β} (h : o = some a) (h2 : f a = r) : o.bind f = r := by rw [h]; exact h2
theorem head_ok (n : Nat) : F8 (n + 100) () = some ((true, ()), ()) := by
  have h := F8_eq (n + 100)
  refine h.trans ?_
  refine obind (e_1 n) ?_
  refine obind (e_2 n) ?_
  refine obind (e_3 n) ?_
  try dsimp only
  refine obind (h_10a n) ?_
  try dsimp only
  refine obind (e_4 n) ?_
  refine obind (e_5 n) ?_
  try dsimp only
  refine obind (h_10b n) ?_
  refine obind (h_10c n) ?_
  try dsimp only
  try simp only [decide_true, cond_true]
  refine obind (h_14a n) ?_
  try dsimp only
  try simp only [decide_true, cond_true]
  refine obind (h_15 n) ?_
  try dsimp only
  try simp only [cond_true]
  refine obind (h_14b n) ?_
  try dsimp only
  try simp only [decide_true, cond_true]
  refine obind (h_17 n) ?_
  try dsimp only
  try simp only [cond_true]
  refine obind (h_14c n) ?_
  try dsimp only
  try simp only [decide_true, cond_true]
  refine obind (h_19 n) ?_
  try dsimp only
  try simp only [cond_true]
  refine obind (h_14d n) ?_
  try dsimp only
  try simp only [cond_true]
  exact obind (h_12 n) rfl
end Go.Pv.L16
