/- Layer 12, plainly: what a query accepts, told by the items that are left. -/
import Derived.Test.YthedngefmaklnaaPvT12
namespace Go.Pv.L12
open Go Go.Pv Go.Proofs
set_option linter.all false
set_option linter.constructorNameAsVariable false
set_option linter.unusedSectionVars false
set_option linter.unusedVariables false
set_option linter.unusedSimpArgs false

/-- A way that enters an item; what is behind it is asked by w. -/
def entB (x : Itm) (w : List ByteArray → Bool) : List ByteArray → Bool
  | [] => false
  | n :: r => hasB x.2.1 n && (w r || (decide (x.2.2.2 = 2) && entB x w r))
/-- What is left of the items, behind one. -/
def wayB : List Itm → List ByteArray → Bool
  | [], names => names.isEmpty
  | x :: l, names => bif x.1 then wayB l names else ((decide (x.2.2.2 = 3) && wayB l names) || entB x (wayB l) names)
def bhdB (x : Itm) (l : List Itm) (r : List ByteArray) : Bool := wayB l r || (decide (x.2.2.2 = 2) && entB x (wayB l) r)
theorem entB_cons (x : Itm) (l : List Itm) (n : ByteArray) (r : List ByteArray) : entB x (wayB l) (n :: r) = (hasB x.2.1 n && bhdB x l r) := rfl

theorem wayB_nil : ∀ l : List Itm, wayB l [] = finalB l
  | [] => rfl
  | x :: l => by
    have h := wayB_nil l
    unfold wayB
    rw [h]
    have : finalB (x :: l) = (!mustB x && finalB l) := by
      unfold finalB
      rw [List.any_cons, Bool.not_or]
    rw [this]
    unfold mustB entB
    cases x.1 <;> cases decide (x.2.2.2 = 3) <;> simp

theorem runP_any {items : List Itm} {sts : List Sta} : ∀ (names : List ByteArray) (P : Nat → Prop) (t : Nat), runP items sts names P t ↔ ∃ i, P i ∧ runP items sts names (fun m => m = i) t
  | [], P, t => ⟨fun h => ⟨t, h, rfl⟩, fun ⟨i, h1, h2⟩ => by
      have : t = i := h2
      rw [this]; exact h1⟩
  | nm :: r, P, t => by
    show runP items sts r (stepP items sts nm P) t ↔ ∃ i, P i ∧ runP items sts r (stepP items sts nm fun m => m = i) t
    rw [runP_any r]
    constructor
    · rintro ⟨i, ⟨i', h1, h2, h3⟩, h4⟩
      exact ⟨i', h2, (runP_any r _ _).2 ⟨i, ⟨i', h1, rfl, h3⟩, h4⟩⟩
    · rintro ⟨i', h2, h4⟩
      obtain ⟨i, ⟨i'', h1, e, h3⟩, h5⟩ := (runP_any r _ _).1 h4
      subst e
      exact ⟨i, ⟨i'', h1, h2, h3⟩, h5⟩

/-- The items that follow, and what is behind them. -/
theorem follow_way {items : List Itm} {n : ByteArray} {r : List ByteArray} : ∀ (l : List Itm) (j : Nat), items.drop j = l →
    ((∃ m : Nat, (m : Int) ∈ (follow l j).1 ∧ hasB (itmAt items m).2.1 n = true ∧ bhdB (itmAt items m) (items.drop (m + 1)) r = true) ↔ wayB l (n :: r) = true)
  | [], j, _ => by simp [follow, wayB]
  | x :: l, j, h => by
    have hlt : j < items.length := by
      rcases Nat.lt_or_ge j items.length with q | q
      · exact q
      · rw [List.drop_of_length_le q] at h; cases h
    have hx := drop_at hlt
    rw [h] at hx
    obtain ⟨e1, e2⟩ := List.cons.inj hx
    have ih := follow_way (items := items) (n := n) (r := r) l (j + 1) e2.symm
    have here : ((∃ m : Nat, (m : Int) = (j : Int) ∧ hasB (itmAt items m).2.1 n = true ∧ bhdB (itmAt items m) (items.drop (m + 1)) r = true) ↔ entB x (wayB l) (n :: r) = true) := by
      rw [entB_cons, Bool.and_eq_true]
      constructor
      · rintro ⟨m, e, h1, h2⟩
        have : m = j := by omega
        subst this
        rw [← e1] at h1 h2; rw [← e2] at h2
        exact ⟨h1, h2⟩
      · rintro ⟨h1, h2⟩
        exact ⟨j, rfl, by rw [← e1]; exact h1, by rw [← e1, ← e2]; exact h2⟩
    unfold follow wayB
    cases hy : x.1 with
    | true => exact ih
    | false =>
      rw [cond_false, cond_false]
      cases ho : decide (x.2.2.2 = 3) with
      | true =>
        rw [cond_true, Bool.true_and, Bool.or_eq_true, ← ih, ← here]
        constructor
        · rintro ⟨m, h1, h2⟩
          rcases List.mem_cons.1 h1 with e | e
          · exact .inr ⟨m, e, h2⟩
          · exact .inl ⟨m, e, h2⟩
        · rintro (⟨m, e, h2⟩ | ⟨m, e, h2⟩)
          · exact ⟨m, List.mem_cons.2 (.inr e), h2⟩
          · exact ⟨m, List.mem_cons.2 (.inl e), h2⟩
      | false =>
        rw [cond_false, Bool.false_and, Bool.false_or, ← here]
        simp only [List.mem_singleton]

theorem next_nat {q : Qry} {i : Nat} : ∀ l : List Itm, ∀ j, ∀ x, x ∈ (follow l j).1 → ∃ m : Nat, x = (m : Int)
  | [], j, x, h => by cases h
  | y :: l, j, x, h => by
    unfold follow at h
    cases hy : y.1 with
    | true => rw [hy] at h; exact next_nat (q := q) (i := i) l (j + 1) x h
    | false =>
      rw [hy] at h
      cases ho : decide (y.2.2.2 = 3) with
      | true =>
        rw [ho] at h
        rcases List.mem_cons.1 h with e | e
        · exact ⟨j, e⟩
        · exact next_nat (q := q) (i := i) l (j + 1) x e
      | false =>
        rw [ho] at h
        exact ⟨j, List.mem_singleton.1 h⟩

/-- A way that is behind an item. -/
theorem run_behind {q : Qry} : ∀ (names : List ByteArray) (i : Nat), i < q.1.length →
    ((∃ t, t < (compileB q).length ∧ runP q.1 (compileB q) names (fun m => m = i + 1) t ∧ (staAt (compileB q) t).2.2 = true) ↔ bhdB (itmAt q.1 i) (q.1.drop (i + 1)) names = true)
  | [], i, hi => by
    unfold bhdB
    rw [wayB_nil]
    have e : entB (itmAt q.1 i) (wayB (q.1.drop (i + 1))) [] = false := rfl
    rw [e, Bool.and_false, Bool.or_false]
    constructor
    · rintro ⟨t, h1, h2, h3⟩
      have : t = i + 1 := h2
      subst this
      rw [comp_succ q hi] at h3
      exact h3
    · intro h
      exact ⟨i + 1, by rw [comp_len]; omega, rfl, by rw [comp_succ q hi]; exact h⟩
  | n :: r, i, hi => by
    have key : (∃ t, t < (compileB q).length ∧ runP q.1 (compileB q) (n :: r) (fun m => m = i + 1) t ∧ (staAt (compileB q) t).2.2 = true) ↔
        ∃ m : Nat, (m : Int) ∈ (behindB q.1 i).1 ∧ hasB (itmAt q.1 m).2.1 n = true ∧ bhdB (itmAt q.1 m) (q.1.drop (m + 1)) r = true := by
      have lenB : ∀ m : Nat, (m : Int) ∈ (behindB q.1 i).1 → m < q.1.length := fun m hm => by
        rcases List.mem_append.1 hm with h | h
        · cases hd : decide ((itmAt q.1 i).2.2.2 = 2) with
          | true => rw [hd, cond_true] at h; have : (m : Int) = (i : Int) := by simpa using h
                    omega
          | false => rw [hd, cond_false] at h; cases h
        · have : ∀ (l : List Itm) (j : Nat), ∀ x : Nat, (x : Int) ∈ (follow l j).1 → x < j + l.length := by
            intro l
            induction l with
            | nil => intro j x hx; cases hx
            | cons y l ih =>
              intro j x hx
              unfold follow at hx
              rw [List.length_cons]
              cases hy : y.1 with
              | true => rw [hy] at hx; have := ih (j + 1) x hx; omega
              | false =>
                rw [hy] at hx
                cases ho : decide (y.2.2.2 = 3) with
                | true =>
                  rw [ho] at hx
                  rcases List.mem_cons.1 hx with e | e
                  · omega
                  · have := ih (j + 1) x e; omega
                | false =>
                  rw [ho] at hx
                  have := List.mem_singleton.1 hx
                  omega
          have := this _ _ _ h
          rw [List.length_drop] at this
          omega
      constructor
      · rintro ⟨t, h1, h2, h3⟩
        obtain ⟨i', ⟨i'', g1, e, j, g2, g3, g4⟩, h2⟩ := (runP_any (items := q.1) (sts := compileB q) r _ t).1 h2
        subst e
        rw [comp_succ q hi] at g2
        have hj : ∃ m : Nat, j = (m : Int) := by
          rcases List.mem_append.1 g2 with h | h
          · cases hd : decide ((itmAt q.1 i).2.2.2 = 2) with
            | true => rw [hd, cond_true] at h; exact ⟨i, by simpa using h⟩
            | false => rw [hd, cond_false] at h; cases h
          · exact next_nat (q := q) (i := i) _ _ _ h
        obtain ⟨m, rfl⟩ := hj
        rw [Int.toNat_natCast] at g3 g4
        subst g4
        exact ⟨m, g2, g3, (run_behind r m (lenB m g2)).1 ⟨t, h1, h2, h3⟩⟩
      · rintro ⟨m, g1, g2, g3⟩
        obtain ⟨t, h1, h2, h3⟩ := (run_behind r m (lenB m g1)).2 g3
        exact ⟨t, h1, (runP_any (items := q.1) (sts := compileB q) r _ t).2 ⟨m + 1, ⟨i + 1, by rw [comp_len]; omega, rfl, (m : Int), by rw [comp_succ q hi]; exact g1, by rw [Int.toNat_natCast]; exact g2, by rw [Int.toNat_natCast]⟩, h2⟩, h3⟩
    rw [key]
    unfold bhdB
    rw [Bool.or_eq_true, ← follow_way (q.1.drop (i + 1)) (i + 1) rfl, Bool.and_eq_true, entB_cons, Bool.and_eq_true]
    constructor
    · rintro ⟨m, h1, h2⟩
      rcases List.mem_append.1 h1 with h | h
      · cases hd : decide ((itmAt q.1 i).2.2.2 = 2) with
        | true =>
          rw [hd, cond_true] at h
          have : m = i := by have : (m : Int) = (i : Int) := (by simpa using h); omega
          subst this
          exact .inr ⟨rfl, h2⟩
        | false => rw [hd, cond_false] at h; cases h
      · exact .inl ⟨m, h, h2⟩
    · rintro (⟨m, h1, h2⟩ | ⟨h1, h2⟩)
      · exact ⟨m, List.mem_append.2 (.inr h1), h2⟩
      · refine ⟨i, List.mem_append.2 (.inl ?_), h2⟩
        rw [h1, cond_true]
        exact List.mem_singleton.2 rfl

/-- What a query accepts: its first item is entered. -/
theorem acc_ent {q : Qry} (hq : 0 < q.1.length) (names : List ByteArray) : accB q.1 (compileB q) names = entB (itmAt q.1 0) (wayB (q.1.drop 1)) names := by
  rw [Bool.eq_iff_iff, acc_iff]
  cases names with
  | nil =>
    constructor
    · rintro ⟨i, h1, h2, h3⟩
      have : i = 0 := h2
      subst this
      rw [comp_zero] at h3
      cases h3
    · intro h; cases h
  | cons n r =>
    rw [entB_cons, Bool.and_eq_true, ← run_behind r 0 hq]
    constructor
    · rintro ⟨t, h1, h2, h3⟩
      obtain ⟨i', ⟨i'', g1, e, j, g2, g3, g4⟩, h2⟩ := (runP_any (items := q.1) (sts := compileB q) r _ t).1 h2
      subst e
      rw [comp_zero] at g2
      have : j = 0 := List.mem_singleton.1 g2
      subst this
      have e : i' = 0 + 1 := g4
      subst e
      exact ⟨g3, t, h1, h2, h3⟩
    · rintro ⟨g3, t, h1, h2, h3⟩
      exact ⟨t, h1, (runP_any (items := q.1) (sts := compileB q) r _ t).2 ⟨1, ⟨0, by rw [comp_len]; omega, rfl, 0, by rw [comp_zero]; exact List.mem_singleton.2 rfl, g3, rfl⟩, h2⟩, h3⟩

/-! ### items that are right -/

theorem dup_nodup {l : List Itm} : (∀ i, i < l.length → dupK (varAt l) i = false) ↔ (l.map fun x => x.2.2.1).Nodup := by
  rw [List.nodup_iff_pairwise_ne, List.pairwise_map, List.pairwise_iff_getElem]
  have hv : ∀ i, (h : i < l.length) → varAt l i = l[i].2.2.1 := fun i h => by
    unfold varAt itmAt
    rw [List.getD_eq_getElem?_getD, List.getElem?_eq_getElem h]; rfl
  constructor
  · intro h i j hi hj hij e
    have := h j hj
    have h2 : dupK (varAt l) j = true := anyR_iff.2 ⟨i, Nat.zero_le _, hij, decide_eq_true (by rw [hv i hi, hv j hj]; exact e)⟩
    rw [this] at h2; cases h2
  · intro h i hi
    cases hd : dupK (varAt l) i with
    | false => rfl
    | true =>
      obtain ⟨m, _, h1, h2⟩ := anyR_iff.1 hd
      have := of_decide_eq_true h2
      rw [hv m (by omega), hv i hi] at this
      exact absurd this (h m i (by omega) hi h1)

theorem itemB_first {x : Itm} (h : itemB x true = true) : itemB x false = true := by
  unfold itemB at h ⊢
  simp only [Bool.and_eq_true, Bool.not_eq_true', Bool.true_and, Bool.false_and, Bool.not_false, true_and] at h ⊢
  obtain ⟨h1, h2, h3, h4, h5, h6, h7, h8⟩ := h
  exact ⟨h1, h2, h3, h4, h5, h6, h8⟩

theorem itemsB_iff {l : List Itm} : itemsB l = true ↔ (l.map fun x => x.2.2.1).Nodup ∧ (∀ x, x ∈ l → itemB x false = true) ∧ ∀ x, l.head? = some x → itemB x true = true := by
  have hv : ∀ i, (h : i < l.length) → itmAt l i = l[i] := fun i h => by
    unfold itmAt
    rw [List.getD_eq_getElem?_getD, List.getElem?_eq_getElem h]; rfl
  have h0 : itemsB l = true ↔ ∀ i, i < l.length → dupK (varAt l) i = false ∧ itemB (itmAt l i) (decide (i = 0)) = true := by
    unfold itemsB
    rw [Bool.not_eq_true', ← Bool.not_eq_true, anyR_iff]
    constructor
    · intro h i hi
      constructor
      · cases hd : dupK (varAt l) i with
        | false => rfl
        | true => exact absurd ⟨i, Nat.zero_le _, hi, by rw [hd]; rfl⟩ h
      · cases hd : itemB (itmAt l i) (decide (i = 0)) with
        | true => rfl
        | false => exact absurd ⟨i, Nat.zero_le _, hi, by rw [hd]; simp⟩ h
    · rintro h ⟨i, _, h1, h2⟩
      obtain ⟨g1, g2⟩ := h i h1
      rw [g1, g2] at h2
      cases h2
  rw [h0, ← dup_nodup]
  constructor
  · intro h
    refine ⟨fun i hi => (h i hi).1, fun x hx => ?_, fun x hx => ?_⟩
    · obtain ⟨i, hi, rfl⟩ := List.getElem_of_mem hx
      have := (h i hi).2
      rw [hv i hi] at this
      by_cases he : i = 0
      · rw [decide_eq_true he] at this; exact itemB_first this
      · rw [decide_eq_false he] at this; exact this
    · cases l with
      | nil => cases hx
      | cons y l =>
        have e : y = x := by simpa using hx
        subst e
        exact (h 0 (by simp)).2
  · rintro ⟨h1, h2, h3⟩ i hi
    refine ⟨h1 i hi, ?_⟩
    rw [hv i hi]
    by_cases he : i = 0
    · subst he
      rw [decide_eq_true rfl]
      exact h3 _ (by cases l with | nil => (exact absurd hi (Nat.not_lt_zero _)) | cons y l => rfl)
    · rw [decide_eq_false he]
      exact h2 _ (List.getElem_mem hi)

/-- Fewer items, with the first one, are right. -/
theorem itemsB_sub {l l' : List Itm} (h : itemsB l = true) (hs : l'.Sublist l) (hh : l'.head? = l.head?) : itemsB l' = true := by
  obtain ⟨h1, h2, h3⟩ := itemsB_iff.1 h
  exact itemsB_iff.2 ⟨h1.sublist (hs.map _), fun x hx => h2 x (hs.subset hx), fun x hx => h3 x (by rw [← hh]; exact hx)⟩

theorem right_iff {q : Qry} : rightB q = true ↔ 1 ≤ q.1.length ∧ q.1.length ≤ 6 ∧ q.2.1.length ≤ 8 ∧ itemsB q.1 = true ∧ predsB q.2.1 = true ∧ 0 ≤ q.2.2.1 ∧ q.2.2.1 ≤ (1099511627776 : Int) ∧ byB q.2.2.2.1 = true ∧ (1 : Int) ≤ q.2.2.2.2 ∧ q.2.2.2.2 ≤ (3 : Int) := by
  unfold rightB
  simp only [Bool.and_eq_true, Bool.not_eq_true', decide_eq_false_iff_not, decide_eq_true_eq]
  constructor
  · rintro ⟨h1, h2, h3, h⟩
    exact ⟨by omega, by omega, by omega, h⟩
  · rintro ⟨h1, h2, h3, h⟩
    exact ⟨by omega, by omega, by omega, h⟩
/-- Fewer items, with the first one, and no predicates. -/
theorem right_sub {q : Qry} {l : List Itm} (h : rightB q = true) (hs : l.Sublist q.1) (hh : l.head? = q.1.head?) : rightB (l, [], q.2.2.1, q.2.2.2.1, q.2.2.2.2) = true := by
  obtain ⟨h1, h2, h3, h4, h5, h6⟩ := right_iff.1 h
  have hl := hs.length_le
  have h0 : 1 ≤ l.length := by
    cases l with
    | nil =>
      cases hq : q.1 with
      | nil => rw [hq] at h1; exact h1
      | cons y r => rw [hq] at hh; cases hh
    | cons y r => simp
  exact right_iff.2 ⟨h0, by (show l.length ≤ 6); omega, Nat.zero_le _, itemsB_sub h4 hs hh, rfl, h6⟩
/-- What is accepted by a right query. -/
theorem accepts_ent {q : Qry} (h : rightB q = true) (names : List ByteArray) : acceptsB q names = entB (itmAt q.1 0) (wayB (q.1.drop 1)) names := by
  unfold acceptsB
  rw [h, cond_true]
  exact acc_ent (by have := (right_len h).1; omega) names
/-- The first item is no Not, and no Opt. -/
theorem right_first {q : Qry} (h : rightB q = true) : ∃ y r, q.1 = y :: r ∧ y.1 = false ∧ decide (y.2.2.2 = (3 : Int)) = false := by
  obtain ⟨h1, h2, h3, h4, h5, h6⟩ := right_iff.1 h
  obtain ⟨_, _, g⟩ := itemsB_iff.1 h4
  cases hq : q.1 with
  | nil => rw [hq] at h1; exact absurd h1 (by simp)
  | cons y r =>
    have := g y (by rw [hq]; rfl)
    unfold itemB at this
    simp only [Bool.and_eq_true, Bool.not_eq_true', Bool.true_and, Bool.or_eq_false_iff] at this
    exact ⟨y, r, rfl, this.2.2.2.2.2.2.1.1, this.2.2.2.2.2.2.1.2⟩
end Go.Pv.L12
