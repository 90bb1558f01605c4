/- Layer 16, plainly: expressions. -/
import Derived.Test.YtfmcfigoendjiaaGreatPvB16
namespace Go.Pv.L16
open Go Go.Pv Go.Proofs
set_option linter.all false
set_option linter.constructorNameAsVariable false
set_option linter.unusedSectionVars false
set_option linter.unusedVariables false
set_option linter.unusedSimpArgs false

def bareB (x : Ex) : Bool := decide (Ex.var x = { data := #[] : ByteArray }) && decide (Ex.fld x = { data := #[] : ByteArray })
def zeroB (x : Ex) : Bool := decide (Ex.vk x = 0) && (decide (Ex.vn x = 0) && (decide (Ex.vs x = { data := #[] : ByteArray }) && true))
def noKids (x : Ex) : Bool := match Ex.kids x with | [] => true | _ => false
def twoB (f : Ex → Bool) : List Ex → Bool
  | [a, b] => f a && f b
  | _ => false
def exprB : Nat → Ex → Bool
  | 0, _ => false
  | m + 1, x =>
    bif decide (Ex.kind x = 1) then bareB x && (noKids x && (valB (Ex.vk x, Ex.vn x, Ex.vs x) && plainB (Ex.vs x)))
    else bif decide (Ex.kind x = 3) then zeroB x && (noKids x && (nameB (Ex.var x) && decide (Ex.fld x = { data := #[] : ByteArray })))
    else bif decide (Ex.kind x = 2) || (decide (Ex.kind x = 4) || (decide (Ex.kind x = 5) || decide (Ex.kind x = 6))) then zeroB x && (noKids x && (nameB (Ex.var x) && nameB (Ex.fld x)))
    else bif decide (Ex.kind x = 7) || decide (Ex.kind x = 8) then bareB x && (zeroB x && twoB (exprB m) (Ex.kids x))
    else false

/-- Its texts are shorter than that, so deep. -/
def ExS (k : Nat) : Nat → Ex → Prop
  | 0, _ => True
  | m + 1, x => (Ex.var x).size < min k 9223372036854775807 ∧ (Ex.fld x).size < min k 9223372036854775807 ∧ (Ex.vs x).size < min k 9223372036854775807 ∧ ∀ y, y ∈ Ex.kids x → ExS k m y

/-- Which kind it is: told for each at once. -/
theorem kinds (n : Int) : (decide (n = 1) = true ∧ decide (n = 2) = false ∧ decide (n = 3) = false ∧ decide (n = 4) = false ∧ decide (n = 5) = false ∧ decide (n = 6) = false ∧ decide (n = 7) = false ∧ decide (n = 8) = false ∧ (bif decide (2 ≤ n) then decide (n ≤ 6) else false) = false) ∨ (decide (n = 1) = false ∧ decide (n = 2) = true ∧ decide (n = 3) = false ∧ decide (n = 4) = false ∧ decide (n = 5) = false ∧ decide (n = 6) = false ∧ decide (n = 7) = false ∧ decide (n = 8) = false ∧ (bif decide (2 ≤ n) then decide (n ≤ 6) else false) = true) ∨ (decide (n = 1) = false ∧ decide (n = 2) = false ∧ decide (n = 3) = true ∧ decide (n = 4) = false ∧ decide (n = 5) = false ∧ decide (n = 6) = false ∧ decide (n = 7) = false ∧ decide (n = 8) = false ∧ (bif decide (2 ≤ n) then decide (n ≤ 6) else false) = true) ∨ (decide (n = 1) = false ∧ decide (n = 2) = false ∧ decide (n = 3) = false ∧ decide (n = 4) = true ∧ decide (n = 5) = false ∧ decide (n = 6) = false ∧ decide (n = 7) = false ∧ decide (n = 8) = false ∧ (bif decide (2 ≤ n) then decide (n ≤ 6) else false) = true) ∨ (decide (n = 1) = false ∧ decide (n = 2) = false ∧ decide (n = 3) = false ∧ decide (n = 4) = false ∧ decide (n = 5) = true ∧ decide (n = 6) = false ∧ decide (n = 7) = false ∧ decide (n = 8) = false ∧ (bif decide (2 ≤ n) then decide (n ≤ 6) else false) = true) ∨ (decide (n = 1) = false ∧ decide (n = 2) = false ∧ decide (n = 3) = false ∧ decide (n = 4) = false ∧ decide (n = 5) = false ∧ decide (n = 6) = true ∧ decide (n = 7) = false ∧ decide (n = 8) = false ∧ (bif decide (2 ≤ n) then decide (n ≤ 6) else false) = true) ∨ (decide (n = 1) = false ∧ decide (n = 2) = false ∧ decide (n = 3) = false ∧ decide (n = 4) = false ∧ decide (n = 5) = false ∧ decide (n = 6) = false ∧ decide (n = 7) = true ∧ decide (n = 8) = false ∧ (bif decide (2 ≤ n) then decide (n ≤ 6) else false) = false) ∨ (decide (n = 1) = false ∧ decide (n = 2) = false ∧ decide (n = 3) = false ∧ decide (n = 4) = false ∧ decide (n = 5) = false ∧ decide (n = 6) = false ∧ decide (n = 7) = false ∧ decide (n = 8) = true ∧ (bif decide (2 ≤ n) then decide (n ≤ 6) else false) = false) ∨ (decide (n = 1) = false ∧ decide (n = 2) = false ∧ decide (n = 3) = false ∧ decide (n = 4) = false ∧ decide (n = 5) = false ∧ decide (n = 6) = false ∧ decide (n = 7) = false ∧ decide (n = 8) = false ∧ (bif decide (2 ≤ n) then decide (n ≤ 6) else false) = false) := by
  by_cases h : n = 1 ∨ n = 2 ∨ n = 3 ∨ n = 4 ∨ n = 5 ∨ n = 6 ∨ n = 7 ∨ n = 8
  · rcases h with rfl | rfl | rfl | rfl | rfl | rfl | rfl | rfl
    · exact .inl ⟨rfl, rfl, rfl, rfl, rfl, rfl, rfl, rfl, rfl⟩
    · exact .inr (.inl ⟨rfl, rfl, rfl, rfl, rfl, rfl, rfl, rfl, rfl⟩)
    · exact .inr (.inr (.inl ⟨rfl, rfl, rfl, rfl, rfl, rfl, rfl, rfl, rfl⟩))
    · exact .inr (.inr (.inr (.inl ⟨rfl, rfl, rfl, rfl, rfl, rfl, rfl, rfl, rfl⟩)))
    · exact .inr (.inr (.inr (.inr (.inl ⟨rfl, rfl, rfl, rfl, rfl, rfl, rfl, rfl, rfl⟩))))
    · exact .inr (.inr (.inr (.inr (.inr (.inl ⟨rfl, rfl, rfl, rfl, rfl, rfl, rfl, rfl, rfl⟩)))))
    · exact .inr (.inr (.inr (.inr (.inr (.inr (.inl ⟨rfl, rfl, rfl, rfl, rfl, rfl, rfl, rfl, rfl⟩))))))
    · exact .inr (.inr (.inr (.inr (.inr (.inr (.inr (.inl ⟨rfl, rfl, rfl, rfl, rfl, rfl, rfl, rfl, rfl⟩)))))))
  · iterate 8 right
    refine ⟨decide_eq_false (by omega), decide_eq_false (by omega), decide_eq_false (by omega), decide_eq_false (by omega), decide_eq_false (by omega), decide_eq_false (by omega), decide_eq_false (by omega), decide_eq_false (by omega), ?_⟩
    by_cases h2 : 2 ≤ n
    · rw [decide_eq_true h2, decide_eq_false (by omega : ¬ n ≤ 6)]; rfl
    · rw [decide_eq_false h2]; rfl

/-- What the children are. -/
theorem kids_cases (l : List Ex) : (decide ((l.length : Int) = 0) = true ∧ decide (0 < (l.length : Int)) = false ∧ decide ((l.length : Int) = 2) = false ∧ l = []) ∨
    (decide ((l.length : Int) = 0) = false ∧ decide (0 < (l.length : Int)) = true ∧ decide ((l.length : Int) = 2) = false ∧ (match l with | [] => true | _ => false) = false ∧ ∀ f : Ex → Bool, twoB f l = false) ∨
    (decide ((l.length : Int) = 0) = false ∧ decide (0 < (l.length : Int)) = true ∧ decide ((l.length : Int) = 2) = true ∧ ∃ a b, l = [a, b]) := by
  match l with
  | [] => exact .inl ⟨rfl, rfl, rfl, rfl⟩
  | [a] => exact .inr (.inl ⟨rfl, rfl, rfl, rfl, fun _ => rfl⟩)
  | [a, b] => exact .inr (.inr ⟨rfl, rfl, rfl, a, b, rfl⟩)
  | a :: b :: c :: r => exact .inr (.inl ⟨decide_eq_false (by simp only [List.length_cons]; omega), decide_eq_true (by simp only [List.length_cons]; omega), decide_eq_false (by simp only [List.length_cons]; omega), rfl, fun _ => rfl⟩)

section
variable {k : Nat} (h18 : 18 < k)
include h18

theorem G92_spec {s92 : shsDen I92 → Option (shsDen O92 × shsDen (shsUpd I92))} {x : Ex} {m : Nat} (hm : m < 9223372036854775807) (hx : ExS k m x) (hs : ∀ y, y ∈ Ex.kids x → 1 ≤ m → s92 (y, ((m - 1 : Nat) : Int), ()) = some ((exprB (m - 1) y, ()), ())) : G92 k s92 (x, (m : Int), ()) = some ((exprB m x, ()), ()) := by
  cases m with
  | zero => rw [G92_eq]; rfl
  | succ m =>
    obtain ⟨q1, q2, q3, q4⟩ := hx
    have n1 := F29_of h18 q1
    have n2 := F29_of h18 q2
    have e0 := E92_0_spec (k := k) s92 (x := x) (by omega) (by omega)
    have e1 := F112_spec k (Ex.vk x, Ex.vn x, Ex.vs x)
    have em : decide (((m + 1 : Nat) : Int) < 1) = false := decide_eq_false (by omega)
    have ew : IntKind.i64.wrap (((m + 1 : Nat) : Int) - 1) = ((m : Nat) : Int) := by rw [wrap_le (by omega) (by omega)]; omega
    have hs' : ∀ y, y ∈ Ex.kids x → s92 (y, (m : Int), ()) = some ((exprB m y, ()), ()) := fun y hy => hs y hy (by omega)
    have hq : ∃ o, E92_0 k s92 k ((x, ()), 0, ()) = o := ⟨_, rfl⟩
    rw [G92_eq, em, ew]
    simp only [Ex.eta]
    unfold exprB bareB zeroB noKids plainB
    rw [n1, n2, e0]
    generalize decide (Ex.var x = { data := #[] : ByteArray }) = b1
    generalize decide (Ex.fld x = { data := #[] : ByteArray }) = b2
    generalize decide (Ex.vk x = 0) = b3
    generalize decide (Ex.vn x = 0) = b4
    generalize decide (Ex.vs x = { data := #[] : ByteArray }) = b5
    generalize anyR (badT (Ex.vs x)) 0 (Ex.vs x).size = b6
    generalize nameB (Ex.var x) = b7
    generalize nameB (Ex.fld x) = b8
    rcases kids_cases (Ex.kids x) with ⟨l1, l2, l3, l4⟩ | ⟨l1, l2, l3, l4, l5⟩ | ⟨l1, l2, l3, a, b, l4⟩
    · rw [l2, l3, l4]
      rcases kinds (Ex.kind x) with ⟨d1, d2, d3, d4, d5, d6, d7, d8, d9⟩ | ⟨d1, d2, d3, d4, d5, d6, d7, d8, d9⟩ | ⟨d1, d2, d3, d4, d5, d6, d7, d8, d9⟩ | ⟨d1, d2, d3, d4, d5, d6, d7, d8, d9⟩ | ⟨d1, d2, d3, d4, d5, d6, d7, d8, d9⟩ | ⟨d1, d2, d3, d4, d5, d6, d7, d8, d9⟩ | ⟨d1, d2, d3, d4, d5, d6, d7, d8, d9⟩ | ⟨d1, d2, d3, d4, d5, d6, d7, d8, d9⟩ | ⟨d1, d2, d3, d4, d5, d6, d7, d8, d9⟩
      · rw [d1, d2, d3, d4, d5, d6, d7, d8]
        generalize valB (Ex.vk x, Ex.vn x, Ex.vs x) = b9 at e1 ⊢
        cases b1 <;> cases b2 <;> cases b6 <;> first | rfl | (cases b9 <;> rfl) | skip
        show (bif decide (Ex.kind x = 1) then F112 k ((Ex.vk x, Ex.vn x, Ex.vs x), ()) else some ((Ty.b.dflt, ()), ())).bind (fun y_1 => some ((bif decide (Ex.kind x = 1) then y_1.fst.fst else false, ()), ())) = _
        rw [d1, e1]
        cases b9 <;> rfl
      all_goals rw [d1, d2, d3, d4, d5, d6, d7, d8]
      all_goals (cases b1 <;> cases b2 <;> cases b3 <;> cases b4 <;> cases b5 <;> cases b7 <;> cases b8 <;> first | rfl | skip)
      all_goals (cases b6 <;> first | rfl | skip)
      all_goals (show (bif decide (Ex.kind x = 1) then F112 k ((Ex.vk x, Ex.vn x, Ex.vs x), ()) else some ((Ty.b.dflt, ()), ())).bind (fun y_1 => some ((bif decide (Ex.kind x = 1) then y_1.fst.fst else false, ()), ())) = _; rw [d1]; rfl)
    · rw [l2, l3, l4, l5 (exprB m)]
      rcases kinds (Ex.kind x) with ⟨d1, d2, d3, d4, d5, d6, d7, d8, d9⟩ | ⟨d1, d2, d3, d4, d5, d6, d7, d8, d9⟩ | ⟨d1, d2, d3, d4, d5, d6, d7, d8, d9⟩ | ⟨d1, d2, d3, d4, d5, d6, d7, d8, d9⟩ | ⟨d1, d2, d3, d4, d5, d6, d7, d8, d9⟩ | ⟨d1, d2, d3, d4, d5, d6, d7, d8, d9⟩ | ⟨d1, d2, d3, d4, d5, d6, d7, d8, d9⟩ | ⟨d1, d2, d3, d4, d5, d6, d7, d8, d9⟩ | ⟨d1, d2, d3, d4, d5, d6, d7, d8, d9⟩
      all_goals rw [d1, d2, d3, d4, d5, d6, d7, d8]
      all_goals (cases b1 <;> cases b2 <;> cases b3 <;> cases b4 <;> cases b5 <;> rfl)
    · have h1 := hs' a (by rw [l4]; simp)
      have h2 := hs' b (by rw [l4]; simp)
      rw [l2, l3, l4, show rd Ty.ex [a, b] (0 : Int) = a from rfl, show rd Ty.ex [a, b] (1 : Int) = b from rfl, h1, h2]
      rw [show twoB (exprB m) [a, b] = (exprB m a && exprB m b) from rfl]
      generalize exprB m a = c1
      generalize exprB m b = c2
      rcases kinds (Ex.kind x) with ⟨d1, d2, d3, d4, d5, d6, d7, d8, d9⟩ | ⟨d1, d2, d3, d4, d5, d6, d7, d8, d9⟩ | ⟨d1, d2, d3, d4, d5, d6, d7, d8, d9⟩ | ⟨d1, d2, d3, d4, d5, d6, d7, d8, d9⟩ | ⟨d1, d2, d3, d4, d5, d6, d7, d8, d9⟩ | ⟨d1, d2, d3, d4, d5, d6, d7, d8, d9⟩ | ⟨d1, d2, d3, d4, d5, d6, d7, d8, d9⟩ | ⟨d1, d2, d3, d4, d5, d6, d7, d8, d9⟩ | ⟨d1, d2, d3, d4, d5, d6, d7, d8, d9⟩
      all_goals rw [d1, d2, d3, d4, d5, d6, d7, d8]
      all_goals (cases b1 <;> cases b2 <;> cases b3 <;> cases b4 <;> cases b5 <;> first | rfl | (cases c1 <;> cases c2 <;> rfl))
omit h18 in
theorem G98_spec {s98 : shsDen I98 → Option (shsDen O98 × shsDen (shsUpd I98))} {x : Ex} {m : Nat} (hm : m < 9223372036854775807) (hx : ExS k m x) (hs : ∀ y, y ∈ Ex.kids x → 1 ≤ m → s98 (y, ((m - 1 : Nat) : Int), ()) = some ((exprB (m - 1) y, ()), ())) : G98 k s98 (x, (m : Int), ()) = some ((exprB m x, ()), ()) := by
  cases m with
  | zero => rw [G98_eq]; rfl
  | succ m =>
    obtain ⟨q1, q2, q3, q4⟩ := hx
    have n1 := F99_of q1
    have n2 := F99_of q2
    have e0 := F118_spec (k := k) (s := Ex.vs x) (by omega) (by omega)
    have e1 := F117_spec k (Ex.vk x, Ex.vn x, Ex.vs x)
    have em : decide (((m + 1 : Nat) : Int) = 0) = false := decide_eq_false (by omega)
    have ew : IntKind.i64.wrap (((m + 1 : Nat) : Int) - 1) = ((m : Nat) : Int) := by rw [wrap_le (by omega) (by omega)]; omega
    have hs' : ∀ y, y ∈ Ex.kids x → s98 (y, (m : Int), ()) = some ((exprB m y, ()), ()) := fun y hy => hs y hy (by omega)
    rw [G98_eq, em, ew]
    simp only [Ex.eta]
    unfold exprB bareB zeroB noKids
    rw [n1, n2, e0, e1]
    generalize decide (Ex.var x = { data := #[] : ByteArray }) = b1
    generalize decide (Ex.fld x = { data := #[] : ByteArray }) = b2
    generalize decide (Ex.vk x = 0) = b3
    generalize decide (Ex.vn x = 0) = b4
    generalize decide (Ex.vs x = { data := #[] : ByteArray }) = b5
    generalize plainB (Ex.vs x) = b6
    generalize nameB (Ex.var x) = b7
    generalize nameB (Ex.fld x) = b8
    generalize valB (Ex.vk x, Ex.vn x, Ex.vs x) = b9
    rcases kids_cases (Ex.kids x) with ⟨l1, l2, l3, l4⟩ | ⟨l1, l2, l3, l4, l5⟩ | ⟨l1, l2, l3, a, b, l4⟩
    · rw [l1, l3, l4]
      rcases kinds (Ex.kind x) with ⟨d1, d2, d3, d4, d5, d6, d7, d8, d9⟩ | ⟨d1, d2, d3, d4, d5, d6, d7, d8, d9⟩ | ⟨d1, d2, d3, d4, d5, d6, d7, d8, d9⟩ | ⟨d1, d2, d3, d4, d5, d6, d7, d8, d9⟩ | ⟨d1, d2, d3, d4, d5, d6, d7, d8, d9⟩ | ⟨d1, d2, d3, d4, d5, d6, d7, d8, d9⟩ | ⟨d1, d2, d3, d4, d5, d6, d7, d8, d9⟩ | ⟨d1, d2, d3, d4, d5, d6, d7, d8, d9⟩ | ⟨d1, d2, d3, d4, d5, d6, d7, d8, d9⟩
      all_goals rw [d9, d1, d2, d3, d4, d5, d6, d7, d8]
      · cases b1 <;> cases b2 <;> cases b6 <;> cases b9 <;> rfl
      · cases b3 <;> cases b4 <;> cases b5 <;> cases b7 <;> cases b8 <;> rfl
      · cases b3 <;> cases b4 <;> cases b5 <;> cases b7 <;> cases b2 <;> rfl
      · cases b3 <;> cases b4 <;> cases b5 <;> cases b7 <;> cases b8 <;> rfl
      · cases b3 <;> cases b4 <;> cases b5 <;> cases b7 <;> cases b8 <;> rfl
      · cases b3 <;> cases b4 <;> cases b5 <;> cases b7 <;> cases b8 <;> rfl
      · cases b1 <;> cases b2 <;> cases b3 <;> cases b4 <;> cases b5 <;> rfl
      · cases b1 <;> cases b2 <;> cases b3 <;> cases b4 <;> cases b5 <;> rfl
      · rfl
    · rw [l1, l3, l4, l5 (exprB m)]
      rcases kinds (Ex.kind x) with ⟨d1, d2, d3, d4, d5, d6, d7, d8, d9⟩ | ⟨d1, d2, d3, d4, d5, d6, d7, d8, d9⟩ | ⟨d1, d2, d3, d4, d5, d6, d7, d8, d9⟩ | ⟨d1, d2, d3, d4, d5, d6, d7, d8, d9⟩ | ⟨d1, d2, d3, d4, d5, d6, d7, d8, d9⟩ | ⟨d1, d2, d3, d4, d5, d6, d7, d8, d9⟩ | ⟨d1, d2, d3, d4, d5, d6, d7, d8, d9⟩ | ⟨d1, d2, d3, d4, d5, d6, d7, d8, d9⟩ | ⟨d1, d2, d3, d4, d5, d6, d7, d8, d9⟩
      all_goals rw [d9, d1, d2, d3, d4, d5, d6, d7, d8]
      all_goals (cases b1 <;> cases b2 <;> cases b3 <;> cases b4 <;> cases b5 <;> rfl)
    · have h1 := hs' a (by rw [l4]; simp)
      have h2 := hs' b (by rw [l4]; simp)
      rw [l1, l3, l4, show rd Ty.ex [a, b] (0 : Int) = a from rfl, show rd Ty.ex [a, b] (1 : Int) = b from rfl, h1, h2]
      rw [show twoB (exprB m) [a, b] = (exprB m a && exprB m b) from rfl]
      generalize exprB m a = c1
      generalize exprB m b = c2
      rcases kinds (Ex.kind x) with ⟨d1, d2, d3, d4, d5, d6, d7, d8, d9⟩ | ⟨d1, d2, d3, d4, d5, d6, d7, d8, d9⟩ | ⟨d1, d2, d3, d4, d5, d6, d7, d8, d9⟩ | ⟨d1, d2, d3, d4, d5, d6, d7, d8, d9⟩ | ⟨d1, d2, d3, d4, d5, d6, d7, d8, d9⟩ | ⟨d1, d2, d3, d4, d5, d6, d7, d8, d9⟩ | ⟨d1, d2, d3, d4, d5, d6, d7, d8, d9⟩ | ⟨d1, d2, d3, d4, d5, d6, d7, d8, d9⟩ | ⟨d1, d2, d3, d4, d5, d6, d7, d8, d9⟩
      all_goals rw [d9, d1, d2, d3, d4, d5, d6, d7, d8]
      all_goals (cases b1 <;> cases b2 <;> cases b3 <;> cases b4 <;> cases b5 <;> first | rfl | (cases c1 <;> cases c2 <;> rfl))

theorem R92_spec : ∀ (m d : Nat) (x : Ex), m < d → m < 9223372036854775807 → ExS k m x → R92 k d (x, (m : Int), ()) = some ((exprB m x, ()), ())
  | m, 0, x, h, hm, hx => absurd h (Nat.not_lt_zero _)
  | 0, d + 1, x, h, hm, hx => G92_spec h18 hm hx (fun y hy h1 => absurd h1 (by decide))
  | m + 1, d + 1, x, h, hm, hx => G92_spec h18 hm hx (fun y hy h1 => R92_spec m d y (by omega) (by omega) (hx.2.2.2 y hy))
theorem F92_spec {m : Nat} {x : Ex} (hm : m < min k 9223372036854775807) (hx : ExS k m x) : F92 k (x, (m : Int), ()) = some ((exprB m x, ()), ()) := R92_spec h18 m k x (by omega) (by omega) hx
omit h18 in
theorem R98_spec : ∀ (m d : Nat) (x : Ex), m < d → m < 9223372036854775807 → ExS k m x → R98 k d (x, (m : Int), ()) = some ((exprB m x, ()), ())
  | m, 0, x, h, hm, hx => absurd h (Nat.not_lt_zero _)
  | 0, d + 1, x, h, hm, hx => G98_spec hm hx (fun y hy h1 => absurd h1 (by decide))
  | m + 1, d + 1, x, h, hm, hx => G98_spec hm hx (fun y hy h1 => R98_spec m d y (by omega) (by omega) (hx.2.2.2 y hy))
omit h18 in
theorem F98_spec {m : Nat} {x : Ex} (hm : m < min k 9223372036854775807) (hx : ExS k m x) : F98 k (x, (m : Int), ()) = some ((exprB m x, ()), ()) := R98_spec m k x (by omega) (by omega) hx
end
end Go.Pv.L16
