/- Layer 16, plainly: queries that are right. -/
import Derived.Test.YtfmcfigoendjiaaGreatPvC16
namespace Go.Pv.L16
open Go Go.Pv Go.Proofs
set_option linter.all false
set_option linter.constructorNameAsVariable false
set_option linter.unusedSectionVars false
set_option linter.unusedVariables false
set_option linter.unusedSimpArgs false

abbrev Itm := Ty.den T66
abbrev Prd := Ty.den T86
abbrev Qry := Ty.den T53
def itmAt (l : List Itm) (i : Nat) : Itm := l.getD i (Ty.dflt T66)
def prdAt (l : List Prd) (i : Nat) : Prd := l.getD i (Ty.dflt T86)
def varAt (l : List Itm) (i : Nat) : ByteArray := (itmAt l i).2.2.1
def itemsB (l : List Itm) : Bool := !anyR (fun i => dupK (varAt l) i || !itemB (itmAt l i) (decide (i = 0))) 0 l.length
def predB (p : Prd) : Bool := !(decide (p.1 < 1) || decide (6 < p.1)) && (exprB 6 p.2.1 && exprB 6 p.2.2)
def predsB (l : List Prd) : Bool := !anyR (fun i => !predB (prdAt l i)) 0 l.length
def byB (s : ByteArray) : Bool := decide (s = { data := #[] : ByteArray }) || nameB s
def rightB (q : Qry) : Bool :=
  !decide ((q.1.length : Int) < 1) && (!decide (6 < (q.1.length : Int)) && (!decide (8 < (q.2.1.length : Int)) && (itemsB q.1 && (predsB q.2.1 && (decide (0 ≤ q.2.2.1) && (decide (q.2.2.1 ≤ 1099511627776) && (byB q.2.2.2.1 && (decide (1 ≤ q.2.2.2.2) && decide (q.2.2.2.2 ≤ 3)))))))))
/-- Sizes that loops' bounds are beyond. -/
def QOk (k : Nat) (q : Qry) : Prop := 18 < k ∧ q.1.length < min k 9223372036854775807 ∧ q.2.1.length < min k 9223372036854775807 ∧ q.2.2.2.1.size < min k 9223372036854775807 ∧ (∀ x, x ∈ q.1 → ItemOk k x) ∧ ∀ p, p ∈ q.2.1 → ExS k 6 p.2.1 ∧ ExS k 6 p.2.2

theorem itmAt_mem {l : List Itm} {i : Nat} (h : i < l.length) : itmAt l i ∈ l := by
  unfold itmAt
  rw [List.getD_eq_getElem?_getD, List.getElem?_eq_getElem h]
  exact List.getElem_mem h
theorem prdAt_mem {l : List Prd} {i : Nat} (h : i < l.length) : prdAt l i ∈ l := by
  unfold prdAt
  rw [List.getD_eq_getElem?_getD, List.getElem?_eq_getElem h]
  exact List.getElem_mem h

theorem F53_spec {k : Nat} {q : Qry} (hq : QOk k q) : F53 k (q, ()) = some ((rightB q, ()), ()) := by
  obtain ⟨h18, q1, q2, q3, q4, q5⟩ := hq
  have h0 : ∀ i, i < q.1.length → E53_0_0 k k ((q, ()), (i : Int), 0, ()) = some (bif dupK (varAt q.1) i then Sum.inr (Sum.inl (false, ())) else Sum.inl ((q, ()), (i : Int), ())) := by
    intro i hi
    refine scan0 (E := fun j m => E53_0_0 k j ((q, ()), (i : Int), m, ())) (fun j m hm => ?_) (fun j => ?_) (by omega)
    · dsimp only
      rw [E53_0_0_eq, lt_nat hm, inb_nat (by omega), inb_nat hi, wrap_nat (by omega), rd_nat, rd_nat]
      rfl
    · dsimp only
      rw [E53_0_0_eq, nlt_nat]; rfl
  have h1 : E53_0 k k ((q, ()), 0, ()) = some (bif anyR (fun i => dupK (varAt q.1) i || !itemB (itmAt q.1 i) (decide (i = 0))) 0 q.1.length then Sum.inr (Sum.inl (false, ())) else Sum.inl ((q, ()), ())) := by
    refine scan0 (E := fun j m => E53_0 k j ((q, ()), m, ())) (fun j i hi => ?_) (fun j => ?_) (by omega)
    · dsimp only
      have hn : F91 k (rd (Ty.b.p (Ty.s.l.p (Ty.s.p (Ty.i IntKind.i64)))) q.1 (i : Int), decide ((i : Int) = 0), ()) = some ((itemB (itmAt q.1 i) (decide (i = 0)), ()), ()) := by
        rw [rd_nat, show decide ((i : Int) = 0) = decide (i = 0) from decide_eq_decide.2 (by omega)]
        exact F91_spec h18 (q4 _ (itmAt_mem hi)) _
      rw [E53_0_eq, lt_nat hi, inb_nat hi, hn, h0 i hi]
      cases itemB (itmAt q.1 i) (decide (i = 0)) <;> cases dupK (varAt q.1) i <;> first | rfl | (show E53_0 k j ((q, ()), IntKind.i64.wrap ((i : Int) + 1), ()) = _; rw [wrap_nat (by omega)]; rfl)
    · dsimp only
      rw [E53_0_eq, nlt_nat]; rfl
  have h2 : E53_1 k k ((q, ()), 0, ()) = some (bif anyR (fun i => !predB (prdAt q.2.1 i)) 0 q.2.1.length then Sum.inr (Sum.inl (false, ())) else Sum.inl ((q, ()), ())) := by
    refine scan0 (E := fun j m => E53_1 k j ((q, ()), m, ())) (fun j i hi => ?_) (fun j => ?_) (by omega)
    · dsimp only
      obtain ⟨p1, p2⟩ := q5 _ (prdAt_mem hi)
      have n1 : F92 k ((prdAt q.2.1 i).2.1, (6 : Int), ()) = _ := F92_spec (m := 6) h18 (by omega) p1
      have n2 : F92 k ((prdAt q.2.1 i).2.2, (6 : Int), ()) = _ := F92_spec (m := 6) h18 (by omega) p2
      rw [E53_1_eq, lt_nat hi, inb_nat hi, wrap_nat (by omega), rd_nat, Ex.eta, Ex.eta]
      rw [show List.getD q.2.1 i (Ty.dflt ((Ty.i IntKind.i64).p (Ty.ex.p Ty.ex))) = prdAt q.2.1 i from rfl, n1, n2]
      unfold predB
      generalize decide ((prdAt q.2.1 i).1 < 1) = b1
      generalize decide (6 < (prdAt q.2.1 i).1) = b2
      generalize exprB 6 (prdAt q.2.1 i).2.1 = b3
      generalize exprB 6 (prdAt q.2.1 i).2.2 = b4
      cases b1 <;> cases b2 <;> cases b3 <;> cases b4 <;> rfl
    · dsimp only
      rw [E53_1_eq, nlt_nat]; rfl
  have h3 : F29 k (q.2.2.2.1, ()) = _ := F29_of h18 q3
  rw [F53_eq, h1]
  unfold rightB itemsB predsB byB
  generalize decide ((q.1.length : Int) < 1) = b1
  generalize decide (6 < (q.1.length : Int)) = b2
  generalize decide (8 < (q.2.1.length : Int)) = b3
  cases b1 <;> cases b2 <;> cases b3 <;> first | rfl | skip
  generalize anyR (fun i => dupK (varAt q.1) i || !itemB (itmAt q.1 i) (decide (i = 0))) 0 q.1.length = b4
  cases b4
  · show (E53_1 k k ((q, ()), 0, ())).bind _ = _
    rw [h2]
    generalize anyR (fun i => !predB (prdAt q.2.1 i)) 0 q.2.1.length = b5
    cases b5
    · show (bif (bif decide (0 ≤ q.2.2.1) then decide (q.2.2.1 ≤ 1099511627776) else false) && !decide (q.2.2.2.1 = { data := #[] : ByteArray }) then F29 k (q.2.2.2.1, ()) else some ((Ty.b.dflt, ()), ())).bind (fun y_1 => some ((bif bif bif bif decide (0 ≤ q.2.2.1) then decide (q.2.2.1 ≤ 1099511627776) else false then bif decide (q.2.2.2.1 = { data := #[] : ByteArray }) then true else y_1.fst.fst else false then decide (1 ≤ q.2.2.2.2) else false then decide (q.2.2.2.2 ≤ 3) else false, ()), ())) = _
      rw [h3]
      generalize decide (0 ≤ q.2.2.1) = b6
      generalize decide (q.2.2.1 ≤ 1099511627776) = b7
      generalize decide (q.2.2.2.1 = { data := #[] : ByteArray }) = b8
      generalize nameB q.2.2.2.1 = b9
      generalize decide (1 ≤ q.2.2.2.2) = b10
      generalize decide (q.2.2.2.2 ≤ 3) = b11
      cases b6 <;> cases b7 <;> cases b8 <;> cases b9 <;> cases b10 <;> cases b11 <;> rfl
    · rfl
  · rfl

theorem F62_spec {k : Nat} {q : Qry} (hq : QOk k q) : F62 k (q, ()) = some ((rightB q, ()), ()) := by
  obtain ⟨h18, q1, q2, q3, q4, q5⟩ := hq
  have h1 : E62_0 k k ((q, ()), [], q.1, (q.1.length : Int), 0, ()) = some (bif anyR (fun i => dupK (varAt q.1) i || !itemB (itmAt q.1 i) (decide (i = 0))) 0 q.1.length then Sum.inr (Sum.inl (false, ())) else Sum.inl ((q, ()), ())) := by
    refine scanM0 (E := fun j es m => E62_0 k j ((q, ()), es, q.1, (q.1.length : Int), m, ())) (fun j i es hi => ?_) (fun j es => ?_) (by omega)
    · dsimp only
      have hn : F97 k (rd (Ty.b.p (Ty.s.l.p (Ty.s.p (Ty.i IntKind.i64)))) q.1 (i : Int), (i : Int), ()) = some ((itemB (itmAt q.1 i) (decide (i = 0)), ()), ()) := by
        rw [rd_nat, show decide (i = 0) = decide ((i : Int) = 0) from decide_eq_decide.2 (by omega)]
        exact F97_spec (q4 _ (itmAt_mem hi)) _
      rw [E62_0_eq, lt_nat hi, inb_nat hi, hn, mpGet_same, wrap_nat (by omega), rd_nat]
      show (bif true then bif true then (bif !decide (1 < mpV (varAt q.1 i) es) then some ((itemB (itmAt q.1 i) (decide (i = 0)), ()), ()) else some ((Ty.b.dflt, ()), ())).bind (fun y => bif bif decide (1 < mpV (varAt q.1 i) es) then true else !y.fst.fst then some (Sum.inr (Sum.inl (false, ()))) else E62_0 k j ((q, ()), mpPut (varAt q.1 i) (mpV (varAt q.1 i) es) es, q.1, (q.1.length : Int), (i : Int) + 1, ())) else none else _) = _
      cases decide (1 < mpV (varAt q.1 i) es) <;> cases itemB (itmAt q.1 i) (decide (i = 0)) <;> rfl
    · dsimp only
      rw [E62_0_eq, nlt_nat]; rfl
  have h2 : E62_1 k k ((q, ()), q.2.1, (q.2.1.length : Int), 0, ()) = some (bif anyR (fun i => !predB (prdAt q.2.1 i)) 0 q.2.1.length then Sum.inr (Sum.inl (false, ())) else Sum.inl ((q, ()), ())) := by
    refine scan0 (E := fun j m => E62_1 k j ((q, ()), q.2.1, (q.2.1.length : Int), m, ())) (fun j i hi => ?_) (fun j => ?_) (by omega)
    · dsimp only
      obtain ⟨p1, p2⟩ := q5 _ (prdAt_mem hi)
      have n1 : F98 k ((prdAt q.2.1 i).2.1, (6 : Int), ()) = _ := F98_spec (m := 6) (by omega) p1
      have n2 : F98 k ((prdAt q.2.1 i).2.2, (6 : Int), ()) = _ := F98_spec (m := 6) (by omega) p2
      rw [E62_1_eq, lt_nat hi, inb_nat hi, wrap_nat (by omega), rd_nat, Ex.eta, Ex.eta]
      rw [show List.getD q.2.1 i (Ty.dflt ((Ty.i IntKind.i64).p (Ty.ex.p Ty.ex))) = prdAt q.2.1 i from rfl, n1, n2]
      unfold predB
      generalize decide ((prdAt q.2.1 i).1 < 1) = b1
      generalize decide (6 < (prdAt q.2.1 i).1) = b2
      generalize exprB 6 (prdAt q.2.1 i).2.1 = b3
      generalize exprB 6 (prdAt q.2.1 i).2.2 = b4
      cases b1 <;> cases b2 <;> cases b3 <;> cases b4 <;> rfl
    · dsimp only
      rw [E62_1_eq, nlt_nat]; rfl
  have h3 : F99 k (q.2.2.2.1, ()) = _ := F99_of q3
  rw [F62_eq, h1]
  unfold rightB itemsB predsB byB
  generalize anyR (fun i => dupK (varAt q.1) i || !itemB (itmAt q.1 i) (decide (i = 0))) 0 q.1.length = b4
  cases b4
  · show (E62_1 k k ((q, ()), q.2.1, (q.2.1.length : Int), 0, ())).bind _ = _
    rw [h2]
    generalize anyR (fun i => !predB (prdAt q.2.1 i)) 0 q.2.1.length = b5
    cases b5
    · have e1 : decide ((q.1.length : Int) = 0) = decide ((q.1.length : Int) < 1) := decide_eq_decide.2 (by omega)
      have e2 : decide (q.2.2.1 < 0) = !decide (0 ≤ q.2.2.1) := dec_lt _ _
      have e3 : decide (1099511627776 < q.2.2.1) = !decide (q.2.2.1 ≤ 1099511627776) := dec_lt _ _
      have e4 : decide (q.2.2.2.2 < 1) = !decide (1 ≤ q.2.2.2.2) := dec_lt _ _
      have e5 : decide (3 < q.2.2.2.2) = !decide (q.2.2.2.2 ≤ 3) := dec_lt _ _
      rw [cond_false, Option.bind_some]
      dsimp only
      rw [e1, e2, e3, e4, e5, h3]
      generalize decide ((q.1.length : Int) < 1) = b1
      generalize decide (6 < (q.1.length : Int)) = b2
      generalize decide (8 < (q.2.1.length : Int)) = b3
      generalize decide (0 ≤ q.2.2.1) = b6
      generalize decide (q.2.2.1 ≤ 1099511627776) = b7
      generalize decide (q.2.2.2.1 = { data := #[] : ByteArray }) = b8
      generalize nameB q.2.2.2.1 = b9
      generalize decide (1 ≤ q.2.2.2.2) = b10
      generalize decide (q.2.2.2.2 ≤ 3) = b11
      cases b1 <;> cases b2 <;> cases b3 <;> cases b6 <;> cases b7 <;> cases b8 <;> cases b9 <;> cases b10 <;> cases b11 <;> rfl
    · generalize decide ((q.1.length : Int) < 1) = b1
      generalize decide (6 < (q.1.length : Int)) = b2
      generalize decide (8 < (q.2.1.length : Int)) = b3
      cases b1 <;> cases b2 <;> cases b3 <;> rfl
  · generalize decide ((q.1.length : Int) < 1) = b1
    generalize decide (6 < (q.1.length : Int)) = b2
    generalize decide (8 < (q.2.1.length : Int)) = b3
    cases b1 <;> cases b2 <;> cases b3 <;> rfl
end Go.Pv.L16
