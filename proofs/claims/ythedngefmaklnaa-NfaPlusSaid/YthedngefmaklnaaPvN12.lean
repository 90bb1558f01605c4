/- Layer 12, plainly: states, and names that are accepted. -/
import Derived.Test.YthedngefmaklnaaPvG12
namespace Go.Pv.L12
open Go Go.Pv Go.Proofs
set_option linter.all false
set_option linter.constructorNameAsVariable false
set_option linter.unusedSectionVars false
set_option linter.unusedVariables false
set_option linter.unusedSimpArgs false

abbrev Sta := Ty.den T36
def follow : List Itm → Nat → List Int × List Int
  | [], _ => ([], [])
  | x :: r, j => bif x.1 then ((follow r (j + 1)).1, (j : Int) :: (follow r (j + 1)).2) else bif decide (x.2.2.2 = 3) then ((j : Int) :: (follow r (j + 1)).1, (follow r (j + 1)).2) else ([(j : Int)], [])
def mustB (x : Itm) : Bool := !x.1 && !decide (x.2.2.2 = 3)
def finalB (l : List Itm) : Bool := !l.any mustB
def behindB (l : List Itm) (k : Nat) : Sta :=
  ((bif decide ((itmAt l k).2.2.2 = 2) then [(k : Int)] else []) ++ (follow (l.drop (k + 1)) (k + 1)).1, (follow (l.drop (k + 1)) (k + 1)).2, finalB (l.drop (k + 1)))
def compileB (q : Qry) : List Sta := (([0], [], false) : Sta) :: (List.range q.1.length).map (behindB q.1)

theorem drop_at {l : List Itm} {i : Nat} (h : i < l.length) : l.drop i = itmAt l i :: l.drop (i + 1) := by
  rw [List.drop_eq_getElem_cons h]
  congr 1
  unfold itmAt
  rw [List.getD_eq_getElem?_getD, List.getElem?_eq_getElem h]; rfl

theorem scanI {X : Type} {E : Nat → Int → Option X} {n : Nat} {p : Nat → Bool} {f : Nat → X} {b : X} (h : ∀ j (i : Nat), i < n → E (j + 1) (i : Int) = bif p i then some (f i) else E j ((i : Int) + 1))
    (hend : ∀ j, E (j + 1) (n : Int) = some b) : ∀ (d i j : Nat), n - i = d → i ≤ n → d < j → (anyR p i n = true → ∃ m, p m = true ∧ m < n ∧ E j (i : Int) = some (f m)) ∧ (anyR p i n = false → E j (i : Int) = some b) := by
  intro d
  induction d with
  | zero =>
    intro i j h1 h2 h3
    have : i = n := by omega
    subst this
    match j, h3 with
    | j + 1, _ => rw [hend, anyR_end]; exact ⟨fun e => (by cases e), fun _ => rfl⟩
  | succ d ih =>
    intro i j h1 h2 h3
    match j, h3 with
    | j + 1, h3 =>
      have hlt : i < n := by omega
      have ih := ih (i + 1) j (by omega) (by omega) (by omega)
      rw [show (((i + 1 : Nat)) : Int) = (i : Int) + 1 by omega] at ih
      rw [h j i hlt, anyR_step p hlt]
      cases hp : p i with
      | true => exact ⟨fun _ => ⟨i, hp, hlt, rfl⟩, fun e => (by cases e)⟩
      | false => simpa using ih

theorem any_anyR {α : Type} (l : List α) (p : α → Bool) (d : α) : l.any p = anyR (fun i => p (l.getD i d)) 0 l.length := by
  rw [Bool.eq_iff_iff, List.any_eq_true, anyR_iff]
  constructor
  · rintro ⟨x, hx, hp⟩
    obtain ⟨i, h1, h2⟩ := List.mem_iff_getElem.1 hx
    exact ⟨i, Nat.zero_le _, h1, by rw [List.getD_eq_getElem?_getD, List.getElem?_eq_getElem h1]; simpa [h2] using hp⟩
  · rintro ⟨i, _, h1, hp⟩
    rw [List.getD_eq_getElem?_getD, List.getElem?_eq_getElem h1] at hp
    exact ⟨l[i], List.getElem_mem h1, hp⟩

theorem F34_spec {k : Nat} {l : List Itm} (hl : l.length < min k 9223372036854775807) : F34 k (l, (), ()) = some ((l.any mustB, ()), ()) := by
  have hE := scanI (E := fun j i => E58_0 k j (l, (), (l.length : Int), i, ())) (n := l.length) (p := fun i => mustB (l.getD i (Ty.dflt T38))) (f := fun i => Sum.inr (Sum.inl ((i : Int), ()))) (b := Sum.inl ()) (fun j i hi => by
      dsimp only
      rw [E58_0_eq, lt_nat hi, inb_nat hi, wrap_nat (by omega), rd_nat, F35_eq]
      unfold mustB
      generalize (List.getD l i (Ty.dflt T38)) = x
      show (bif true then bif true then (bif (bif !x.1 then !decide (x.2.2.2 = 3) else false) then some (Sum.inr (Sum.inl ((i : Int), ()))) else E58_0 k j (l, (), (l.length : Int), (i : Int) + 1, ())) else none else _) = _
      cases x.1 <;> cases decide (x.2.2.2 = 3) <;> rfl)
    (fun j => by dsimp only; rw [E58_0_eq, nlt_nat]; rfl) l.length 0 k (by omega) (by omega) (by omega)
  rw [F34_eq, F58_eq, any_anyR l mustB (Ty.dflt T38)]
  cases ha : anyR (fun i => mustB (l.getD i (Ty.dflt T38))) 0 l.length with
  | true =>
    obtain ⟨m, _, _, hm⟩ := hE.1 ha
    have hm : E58_0 k k (l, (), (l.length : Int), 0, ()) = some (Sum.inr (Sum.inl ((m : Int), ()))) := hm
    rw [hm]
    show some ((decide (0 ≤ (m : Int)), ()), ()) = _
    rw [decide_eq_true (by omega : 0 ≤ (m : Int))]
  | false =>
    have hm : E58_0 k k (l, (), (l.length : Int), 0, ()) = some (Sum.inl ()) := hE.2 ha
    rw [hm]
    rfl

theorem E23_0_spec {k : Nat} {l : List Itm} (hl : l.length ≤ 1000) (x4 : Sta) (fin : Bool) : ∀ (d i j : Nat) (nx gd : List Int), l.length - i = d → i ≤ l.length → d < j → nx.length + d ≤ 2000 → gd.length + d ≤ 2000 →
    E23_0 k j (l, (x4, ()), (nx, gd, fin, ()), (i : Int), ()) = some (Sum.inl ((x4, ()), (nx ++ (follow (l.drop i) i).1, gd ++ (follow (l.drop i) i).2, fin, ()), ())) := by
  intro d
  induction d with
  | zero =>
    intro i j nx gd h1 h2 h3 h4 h5
    have : i = l.length := by omega
    subst this
    match j, h3 with
    | j + 1, _ =>
      rw [E23_0_eq, nlt_nat, List.drop_length]
      simp [follow]
  | succ d ih =>
    intro i j nx gd h1 h2 h3 h4 h5
    match j, h3 with
    | j + 1, h3 =>
      have hi : i < l.length := by omega
      rw [E23_0_eq, lt_nat hi, inb_nat hi, wrap_nat (by omega), rd_nat, drop_at hi]
      rw [show List.getD l i (Ty.dflt (Ty.b.p (Ty.s.l.p (Ty.s.p (Ty.i IntKind.i64))))) = itmAt l i from rfl]
      have c1 : decide ((nx.length + [(i : Int)].length) * (7 + 1) ≤ 140737488355328) = true := decide_eq_true (by simp only [List.length_singleton]; omega)
      have c2 : decide ((gd.length + [(i : Int)].length) * (7 + 1) ≤ 140737488355328) = true := decide_eq_true (by simp only [List.length_singleton]; omega)
      have r1 := ih (i + 1) j nx (gd ++ [(i : Int)]) (by omega) (by omega) (by omega) (by omega) (by simp only [List.length_append, List.length_singleton]; omega)
      have r2 := ih (i + 1) j (nx ++ [(i : Int)]) gd (by omega) (by omega) (by omega) (by simp only [List.length_append, List.length_singleton]; omega) (by omega)
      rw [show (((i + 1 : Nat)) : Int) = (i : Int) + 1 by omega] at r1 r2
      rw [c1, c2]
      unfold follow
      cases hn : (itmAt l i).1 with
      | true =>
        show E23_0 k j (l, (x4, ()), (nx, gd ++ [(i : Int)], fin, ()), (i : Int) + 1, ()) = _
        rw [r1]
        simp
      | false =>
        cases ho : decide ((itmAt l i).2.2.2 = 3) with
        | true =>
          show E23_0 k j (l, (x4, ()), (nx ++ [(i : Int)], gd, fin, ()), (i : Int) + 1, ()) = _
          rw [r2]
          simp
        | false => simp

theorem F23_spec {k : Nat} {l : List Itm} (hl : l.length ≤ 1000) (hk : 2000 < k) {i : Nat} (hi : i < l.length) : F23 k (l, (i : Int), ()) = some ((behindB l i, ()), ()) := by
  have hinr : inr ((i : Int) + 1) (l.length : Int) l.length = true := by simp [inr]; omega
  have hext : ext ((i : Int) + 1) (l.length : Int) l = l.drop (i + 1) := by
    unfold ext
    rw [show ((l.length : Int)).toNat = l.length by omega, show ((i : Int) + 1).toNat = i + 1 by omega, List.take_length]
  have h34 : F34 k (l.drop (i + 1), (), ()) = _ := F34_spec (by rw [List.length_drop]; omega)
  have s1 := E23_0_spec (k := k) hl (([], [], false) : Sta) (finalB (l.drop (i + 1))) (l.length - (i + 1)) (i + 1) k [(i : Int)] [] rfl (by omega) (by omega) (by simp only [List.length_singleton]; omega) (by simp only [List.length_nil]; omega)
  have s2 := E23_0_spec (k := k) hl (([], [], false) : Sta) (finalB (l.drop (i + 1))) (l.length - (i + 1)) (i + 1) k [] [] rfl (by omega) (by omega) (by simp only [List.length_nil]; omega) (by simp only [List.length_nil]; omega)
  rw [show (((i + 1 : Nat)) : Int) = (i : Int) + 1 by omega] at s1 s2
  rw [F23_eq, wrap_nat (by omega), hinr, hext, h34, inb_nat hi, rd_nat]
  unfold behindB
  rw [show List.getD l i (Ty.dflt (Ty.b.p (Ty.s.l.p (Ty.s.p (Ty.i IntKind.i64))))) = itmAt l i from rfl]
  have e : (!(l.drop (i + 1)).any mustB) = finalB (l.drop (i + 1)) := rfl
  cases decide ((itmAt l i).2.2.2 = 2) with
  | true =>
    show (E23_0 k k (l, (([], [], false), ()), ([(i : Int)], [], (!(l.drop (i + 1)).any mustB), ()), (i : Int) + 1, ())).bind _ = _
    rw [e, s1]
    rfl
  | false =>
    show (E23_0 k k (l, (([], [], false), ()), ([], [], (!(l.drop (i + 1)).any mustB), ()), (i : Int) + 1, ())).bind _ = _
    rw [e, s2]
    rfl

theorem right_len {q : Qry} (h : rightB q = true) : 1 ≤ q.1.length ∧ q.1.length ≤ 6 := by
  unfold rightB at h
  simp only [Bool.and_eq_true, Bool.not_eq_true', decide_eq_false_iff_not] at h
  obtain ⟨h1, h2, _⟩ := h
  omega

theorem F13_spec {k : Nat} {q : Qry} (hq : QOk k q) (hk : 2000 < k) : F13 k (q, ()) = some ((bif rightB q then compileB q else [], ()), ()) := by
  rw [F13_eq, F22_spec hq]
  cases hr : rightB q with
  | false => rfl
  | true =>
    obtain ⟨l1, l2⟩ := right_len hr
    have key : ∀ (d i j : Nat) (acc : List Sta), q.1.length - i = d → i ≤ q.1.length → d < j → acc.length + d ≤ 2000 → E13_0 k j ((q, ()), acc, (q.1.length : Int), (i : Int), ()) = some (Sum.inl (acc ++ (List.range' i (q.1.length - i)).map (behindB q.1), ())) := by
      intro d
      induction d with
      | zero =>
        intro i j acc h1 h2 h3 h4
        have : i = q.1.length := by omega
        subst this
        match j, h3 with
        | j + 1, _ => rw [E13_0_eq, nlt_nat]; simp
      | succ d ih =>
        intro i j acc h1 h2 h3 h4
        match j, h3 with
        | j + 1, h3 =>
          have hi : i < q.1.length := by omega
          rw [E13_0_eq, lt_nat hi, F23_spec (by omega) hk hi, wrap_nat (by omega)]
          have c1 : decide ((acc.length + [behindB q.1 i].length) * (55 + 1) ≤ 140737488355328) = true := decide_eq_true (by simp only [List.length_singleton]; omega)
          have r1 := ih (i + 1) j (acc ++ [behindB q.1 i]) (by omega) (by omega) (by omega) (by simp only [List.length_append, List.length_singleton]; omega)
          rw [show (((i + 1 : Nat)) : Int) = (i : Int) + 1 by omega] at r1
          show (bif decide ((acc.length + [behindB q.1 i].length) * (55 + 1) ≤ 140737488355328) then E13_0 k j ((q, ()), acc ++ [behindB q.1 i], (q.1.length : Int), (i : Int) + 1, ()) else none) = _
          rw [c1, r1]
          rw [show q.1.length - i = (q.1.length - (i + 1)) + 1 by omega, List.range'_succ]
          simp
    have := key q.1.length 0 k [(([0], [], false) : Sta)] (by omega) (by omega) (by omega) (by simp only [List.length_singleton]; omega)
    have : E13_0 k k ((q, ()), [([0], [], false)], (q.1.length : Int), 0, ()) = _ := this
    show (E13_0 k k ((q, ()), [([0], [], false)], (q.1.length : Int), 0, ())).bind _ = _
    rw [this]
    unfold compileB
    rw [List.range_eq_range']
    simp
end Go.Pv.L12
