/- Layer 12: NfaStates, plainly. -/
import Derived.Test.YthedngefmaklnaaPvT12
import Derived.Test.YthedngefmaklnaaPvQs12
import Derived.Test.YthedngefmaklnaaPvHead12
namespace Go.Pv.L12
open Go Go.Pv Go.Proofs
set_option linter.all false
set_option linter.constructorNameAsVariable false
set_option linter.unusedSectionVars false
set_option linter.unusedVariables false
set_option linter.unusedSimpArgs false

theorem head_at' {k : Nat} (hk : 140737488351232 < k) : F9 k () = some ((true, ()), ()) := by
  have := head_ok (k - 100)
  rwa [show k - 100 + 100 = k by omega] at this

theorem follow_next : ∀ (l : List Itm) (j : Nat), (∀ x, x ∈ (follow l j).1 → ∃ m : Nat, x = ((j + m : Nat) : Int) ∧ m < l.length ∧ (itmAt l m).1 = false ∧ (finalB l = true → (itmAt l m).2.2.2 = 3)) ∧ (follow l j).1.Pairwise (· < ·) ∧
    (∀ x, x ∈ (follow l j).2 → ∃ m : Nat, x = ((j + m : Nat) : Int) ∧ m < l.length ∧ (itmAt l m).1 = true) ∧ (follow l j).2.Pairwise (· < ·)
  | [], j => by simp [follow]
  | y :: r, j => by
    obtain ⟨ih1, ih2, ih3, ih4⟩ := follow_next r (j + 1)
    have up1 : ∀ x, x ∈ (follow r (j + 1)).1 → ∃ m : Nat, x = ((j + m : Nat) : Int) ∧ m < (y :: r).length ∧ (itmAt (y :: r) m).1 = false ∧ (finalB r = true → (itmAt (y :: r) m).2.2.2 = 3) := fun x hx => by
      obtain ⟨m, rfl, h2, h3, h4⟩ := ih1 x hx
      exact ⟨m + 1, by congr 1; omega, by simpa using h2, h3, h4⟩
    have up2 : ∀ x, x ∈ (follow r (j + 1)).2 → ∃ m : Nat, x = ((j + m : Nat) : Int) ∧ m < (y :: r).length ∧ (itmAt (y :: r) m).1 = true := fun x hx => by
      obtain ⟨m, rfl, h2, h3⟩ := ih3 x hx
      exact ⟨m + 1, by congr 1; omega, by simpa using h2, h3⟩
    have gt1 : ∀ x, x ∈ (follow r (j + 1)).1 → (j : Int) < x := fun x hx => by obtain ⟨m, rfl, _⟩ := ih1 x hx; omega
    have gt2 : ∀ x, x ∈ (follow r (j + 1)).2 → (j : Int) < x := fun x hx => by obtain ⟨m, rfl, _⟩ := ih3 x hx; omega
    have hf : finalB (y :: r) = true → finalB r = true ∧ mustB y = false := fun h => by
      unfold finalB at h ⊢
      rw [List.any_cons, Bool.not_eq_true', Bool.or_eq_false_iff] at h
      exact ⟨by rw [h.2]; rfl, h.1⟩
    unfold follow
    cases hy : y.1 with
    | true =>
      refine ⟨fun x hx => ?_, ih2, fun x hx => ?_, List.pairwise_cons.2 ⟨gt2, ih4⟩⟩
      · obtain ⟨m, a1, a2, a3, a4⟩ := up1 x hx
        exact ⟨m, a1, a2, a3, fun h => a4 (hf h).1⟩
      · rcases List.mem_cons.1 hx with rfl | hx
        · exact ⟨0, by simp, by simp, hy⟩
        · exact up2 x hx
    | false =>
      cases ho : decide (y.2.2.2 = 3) with
      | true =>
        refine ⟨fun x hx => ?_, List.pairwise_cons.2 ⟨gt1, ih2⟩, up2, ih4⟩
        rcases List.mem_cons.1 hx with rfl | hx
        · exact ⟨0, by simp, by simp, hy, fun _ => of_decide_eq_true ho⟩
        · obtain ⟨m, a1, a2, a3, a4⟩ := up1 x hx
          exact ⟨m, a1, a2, a3, fun h => a4 (hf h).1⟩
      | false =>
        refine ⟨fun x hx => ?_, List.pairwise_singleton _ _, fun x hx => (by cases hx), List.Pairwise.nil⟩
        have hx : x = (j : Int) := by simpa using hx
        subst hx
        refine ⟨0, by simp, by simp, hy, fun h => ?_⟩
        have := (hf h).2
        unfold mustB at this
        rw [hy, ho] at this
        cases this

theorem itm_drop {l : List Itm} {i m : Nat} : itmAt (l.drop i) m = itmAt l (i + m) := by
  unfold itmAt
  rw [List.getD_eq_getElem?_getD, List.getD_eq_getElem?_getD, List.getElem?_drop]

/-- What the law asks of a state's next ones. -/
structure NextOk (q : Qry) (kk : Nat) (s : Sta) : Prop where
  mem : ∀ x, x ∈ s.1 → ∃ m : Nat, x = (m : Int) ∧ kk ≤ m + 1 ∧ m < q.1.length ∧ ((itmAt q.1 m).1 = true → m + 1 = kk) ∧ (m + 1 = kk → (itmAt q.1 m).2.2.2 = 2) ∧ (s.2.2 = true → m + 1 ≠ kk → (itmAt q.1 m).2.2.2 = 3)
  up : s.1.Pairwise (· < ·)
structure GuardOk (q : Qry) (kk : Nat) (s : Sta) : Prop where
  mem : ∀ x, x ∈ s.2.1 → ∃ m : Nat, x = (m : Int) ∧ kk ≤ m ∧ m < q.1.length ∧ (itmAt q.1 m).1 = true
  up : s.2.1.Pairwise (· < ·)

theorem behind_next {q : Qry} {i : Nat} (hi : i < q.1.length) : NextOk q (i + 1) (behindB q.1 i) ∧ GuardOk q (i + 1) (behindB q.1 i) := by
  obtain ⟨f1, f2, f3, f4⟩ := follow_next (q.1.drop (i + 1)) (i + 1)
  have m1 : ∀ x, x ∈ (follow (q.1.drop (i + 1)) (i + 1)).1 → ∃ m : Nat, x = (m : Int) ∧ i + 1 ≤ m ∧ m < q.1.length ∧ (itmAt q.1 m).1 = false ∧ (finalB (q.1.drop (i + 1)) = true → (itmAt q.1 m).2.2.2 = 3) := fun x hx => by
    obtain ⟨m, a1, a2, a3, a4⟩ := f1 x hx
    rw [itm_drop] at a3 a4
    rw [List.length_drop] at a2
    exact ⟨i + 1 + m, a1, by omega, by omega, a3, a4⟩
  refine ⟨⟨fun x hx => ?_, ?_⟩, ⟨fun x hx => ?_, f4⟩⟩
  · rcases List.mem_append.1 hx with h | h
    · cases hd : decide ((itmAt q.1 i).2.2.2 = 2) with
      | true =>
        rw [hd, cond_true] at h
        have : x = (i : Int) := by simpa using h
        exact ⟨i, this, Nat.le_refl _, hi, fun _ => rfl, fun _ => of_decide_eq_true hd, fun _ hne => absurd rfl hne⟩
      | false => rw [hd, cond_false] at h; cases h
    · obtain ⟨m, rfl, b1, b2, b3, b4⟩ := m1 x h
      exact ⟨m, rfl, by omega, b2, fun e => by (rw [b3] at e; cases e), fun e => by omega, fun e _ => b4 e⟩
  · show ((bif decide ((itmAt q.1 i).2.2.2 = 2) then [(i : Int)] else []) ++ (follow (q.1.drop (i + 1)) (i + 1)).1).Pairwise (· < ·)
    cases decide ((itmAt q.1 i).2.2.2 = 2) with
    | true =>
      refine List.pairwise_cons.2 ⟨fun x hx => ?_, f2⟩
      obtain ⟨m, rfl, b1, _⟩ := m1 x hx
      omega
    | false => exact f2
  · obtain ⟨m, a1, a2, a3⟩ := f3 x hx
    rw [itm_drop] at a3
    rw [List.length_drop] at a2
    exact ⟨i + 1 + m, a1, by omega, by omega, a3⟩

theorem pair_at {l : List Int} (h : l.Pairwise (· < ·)) {i : Nat} (hi : i < l.length) (h0 : 0 < i) : rd (Ty.i IntKind.i64) l ((i - 1 : Nat) : Int) < rd (Ty.i IntKind.i64) l (i : Int) := by
  rw [rd_get (e := .i .i64) hi, rd_get (e := .i .i64) (show i - 1 < l.length by omega)]
  exact List.pairwise_iff_getElem.1 h (i - 1) i (by omega) hi (by omega)

theorem E4_0_0_spec {k : Nat} {q : Qry} {s : Sta} {kk : Nat} (hn : NextOk q kk s) (h1 : 1 ≤ kk) (hkk : kk < 9223372036854775807) (hl : s.1.length < min k 9223372036854775807) (x3 : Bool) (x4 : List Sta) :
    ∀ (d i j : Nat), s.1.length - i = d → i ≤ s.1.length → d < j → E4_0_0 k j ((q, ()), x3, x4, (kk : Int), (s, ()), (i : Int), ()) = some (Sum.inl ((q, ()), x3, x4, (kk : Int), (s, ()), ())) := by
  intro d
  induction d with
  | zero =>
    intro i j e1 e2 e3
    have : i = s.1.length := by omega
    subst this
    match j, e3 with
    | j + 1, _ => rw [E4_0_0_eqn, nlt_nat]; rfl
  | succ d ih =>
    intro i j e1 e2 e3
    match j, e3 with
    | j + 1, e3 =>
      have hi : i < s.1.length := by omega
      have r1 := ih (i + 1) j (by omega) (by omega) (by omega)
      rw [show (((i + 1 : Nat)) : Int) = (i : Int) + 1 by omega] at r1
      obtain ⟨m, hm, g1, g2, g3, g4, g5⟩ := hn.mem _ (List.getElem_mem hi)
      have hrd : rd (Ty.i IntKind.i64) s.1 (i : Int) = (m : Int) := (rd_get (e := .i .i64) hi).trans hm
      have hw : IntKind.i64.wrap ((kk : Int) - 1) = ((kk - 1 : Nat) : Int) := by rw [wrap_le (by omega) (by omega)]; omega
      have hprev : 0 < i → IntKind.i64.wrap ((i : Int) - 1) = ((i - 1 : Nat) : Int) := fun h0 => by rw [wrap_le (by omega) (by omega)]; omega
      have d1 : decide ((m : Int) < ((kk - 1 : Nat) : Int)) = false := decide_eq_false (by omega)
      have d2 : decide ((q.1.length : Int) ≤ (m : Int)) = false := decide_eq_false (by omega)
      have hit : rd (Ty.b.p (Ty.s.l.p (Ty.s.p (Ty.i IntKind.i64)))) q.1 (m : Int) = itmAt q.1 m := rd_nat q.1 m
      rw [E4_0_0_eqn, lt_nat hi, inb_nat hi, hw, hrd, d1, d2, inb_nat g2, hit, wrap_nat (by omega), r1]
      have h4 : (bif decide (0 < (i : Int)) then decide ((m : Int) ≤ rd (Ty.i IntKind.i64) s.1 (IntKind.i64.wrap ((i : Int) - 1))) else false) = false := by
        by_cases h0 : 0 < i
        · rw [decide_eq_true (by omega : 0 < (i : Int)), cond_true, hprev h0]
          have := pair_at hn.up hi h0
          rw [hrd] at this
          exact decide_eq_false (Int.not_le.2 this)
        · rw [decide_eq_false (by omega : ¬ 0 < (i : Int))]; rfl
      have h4' : (bif decide (0 < (i : Int)) then inb (IntKind.i64.wrap ((i : Int) - 1)) s.1.length else true) = true := by
        by_cases h0 : 0 < i
        · rw [decide_eq_true (by omega : 0 < (i : Int)), hprev h0]
          exact inb_nat (by omega)
        · rw [decide_eq_false (by omega : ¬ 0 < (i : Int))]; rfl
      have h3 : (bif (itmAt q.1 m).1 then !decide ((m : Int) = ((kk - 1 : Nat) : Int)) else false) = false := by
        cases hh : (itmAt q.1 m).1 with
        | true => rw [cond_true, decide_eq_true (by have := g3 hh; omega)]; rfl
        | false => rfl
      have h5 : (bif decide ((m : Int) = ((kk - 1 : Nat) : Int)) then !decide ((itmAt q.1 m).2.2.2 = 2) else false) = false := by
        by_cases he : m + 1 = kk
        · rw [decide_eq_true (by omega), cond_true, decide_eq_true (g4 he)]; rfl
        · rw [decide_eq_false (by omega)]; rfl
      have h6 : (bif (bif s.2.2 then !decide ((m : Int) = ((kk - 1 : Nat) : Int)) else false) then !decide ((itmAt q.1 m).2.2.2 = 3) else false) = false := by
        cases hf : s.2.2 with
        | true =>
          by_cases he : m + 1 = kk
          · rw [cond_true, decide_eq_true (by omega : (m : Int) = ((kk - 1 : Nat) : Int))]; rfl
          · rw [cond_true, decide_eq_true (g5 hf he)]
            cases (!decide ((m : Int) = ((kk - 1 : Nat) : Int))) <;> rfl
        | false => rfl
      simp only [cond_false, cond_true, h3, h4, h5, h6, h4', Bool.not_false, Bool.true_and, ite_self, Bool.cond_self]

theorem E4_0_1_spec {k : Nat} {q : Qry} {s : Sta} {kk : Nat} (hn : GuardOk q kk s) (hkk : kk < 9223372036854775807) (hl : s.2.1.length < min k 9223372036854775807) (x3 : Bool) (x4 : List Sta) :
    ∀ (d i j : Nat), s.2.1.length - i = d → i ≤ s.2.1.length → d < j → E4_0_1 k j ((q, ()), x3, x4, (kk : Int), (s, ()), (i : Int), ()) = some (Sum.inl ((q, ()), x3, x4, (kk : Int), (s, ()), ())) := by
  intro d
  induction d with
  | zero =>
    intro i j e1 e2 e3
    have : i = s.2.1.length := by omega
    subst this
    match j, e3 with
    | j + 1, _ => rw [E4_0_1_eqn, nlt_nat]; rfl
  | succ d ih =>
    intro i j e1 e2 e3
    match j, e3 with
    | j + 1, e3 =>
      have hi : i < s.2.1.length := by omega
      have r1 := ih (i + 1) j (by omega) (by omega) (by omega)
      rw [show (((i + 1 : Nat)) : Int) = (i : Int) + 1 by omega] at r1
      obtain ⟨m, hm, g1, g2, g3⟩ := hn.mem _ (List.getElem_mem hi)
      have hrd : rd (Ty.i IntKind.i64) s.2.1 (i : Int) = (m : Int) := (rd_get (e := .i .i64) hi).trans hm
      have hprev : 0 < i → IntKind.i64.wrap ((i : Int) - 1) = ((i - 1 : Nat) : Int) := fun h0 => by rw [wrap_le (by omega) (by omega)]; omega
      have d1 : decide ((m : Int) < (kk : Int)) = false := decide_eq_false (by omega)
      have d2 : decide ((q.1.length : Int) ≤ (m : Int)) = false := decide_eq_false (by omega)
      have hit : rd (Ty.b.p (Ty.s.l.p (Ty.s.p (Ty.i IntKind.i64)))) q.1 (m : Int) = itmAt q.1 m := rd_nat q.1 m
      rw [E4_0_1_eqn, lt_nat hi, inb_nat hi, hrd, d1, d2, inb_nat g2, hit, wrap_nat (by omega), r1]
      have h4 : (bif decide (0 < (i : Int)) then decide ((m : Int) ≤ rd (Ty.i IntKind.i64) s.2.1 (IntKind.i64.wrap ((i : Int) - 1))) else false) = false := by
        by_cases h0 : 0 < i
        · rw [decide_eq_true (by omega : 0 < (i : Int)), cond_true, hprev h0]
          have := pair_at hn.up hi h0
          rw [hrd] at this
          exact decide_eq_false (Int.not_le.2 this)
        · rw [decide_eq_false (by omega : ¬ 0 < (i : Int))]; rfl
      have h4' : (bif decide (0 < (i : Int)) then inb (IntKind.i64.wrap ((i : Int) - 1)) s.2.1.length else true) = true := by
        by_cases h0 : 0 < i
        · rw [decide_eq_true (by omega : 0 < (i : Int)), hprev h0]
          exact inb_nat (by omega)
        · rw [decide_eq_false (by omega : ¬ 0 < (i : Int))]; rfl
      simp only [cond_false, cond_true, g3, h4, h4', Bool.not_false, Bool.not_true, Bool.true_and, Bool.cond_self]

theorem E4_0_2_spec {k : Nat} {q : Qry} (hq : q.1.length < min k 9223372036854775807) (x3 : Bool) (x4 : List Sta) (x5 : Int) (x6 : Sta) :
    ∀ (d i j : Nat) (b : Bool), q.1.length - i = d → i ≤ q.1.length → d < j → E4_0_2 k j ((q, ()), x3, x4, x5, (x6, ()), b, (i : Int), ()) = some (Sum.inl ((q, ()), x3, x4, x5, (x6, ()), b && finalB (q.1.drop i), ())) := by
  intro d
  induction d with
  | zero =>
    intro i j b e1 e2 e3
    have : i = q.1.length := by omega
    subst this
    match j, e3 with
    | j + 1, _ =>
      rw [E4_0_2_eq, nlt_nat, List.drop_length]
      show some (Sum.inl ((q, ()), x3, x4, x5, (x6, ()), b, ())) = some (Sum.inl ((q, ()), x3, x4, x5, (x6, ()), b && true, ()))
      rw [Bool.and_true]
  | succ d ih =>
    intro i j b e1 e2 e3
    match j, e3 with
    | j + 1, e3 =>
      have hi : i < q.1.length := by omega
      have r1 := ih (i + 1) j (b && !mustB (itmAt q.1 i)) (by omega) (by omega) (by omega)
      rw [show (((i + 1 : Nat)) : Int) = (i : Int) + 1 by omega] at r1
      have hit : rd (Ty.b.p (Ty.s.l.p (Ty.s.p (Ty.i IntKind.i64)))) q.1 (i : Int) = itmAt q.1 i := rd_nat q.1 i
      have hf : finalB (q.1.drop i) = (!mustB (itmAt q.1 i) && finalB (q.1.drop (i + 1))) := by
        rw [drop_at hi]
        unfold finalB
        rw [List.any_cons, Bool.not_or]
      have hb : (bif b then bif (itmAt q.1 i).1 then true else decide ((itmAt q.1 i).2.2.2 = 3) else false) = (b && !mustB (itmAt q.1 i)) := by
        unfold mustB
        cases b <;> cases (itmAt q.1 i).1 <;> cases decide ((itmAt q.1 i).2.2.2 = 3) <;> rfl
      rw [E4_0_2_eq, lt_nat hi, inb_nat hi, hit, wrap_nat (by omega), hb, r1, hf]
      cases b <;> cases (itmAt q.1 i).1 <;> simp only [cond_false, cond_true, Bool.not_false, Bool.not_true, Bool.true_and, Bool.and_true, Bool.false_and, Bool.cond_self, Bool.and_assoc] <;> rfl

theorem follow_lens : ∀ (l : List Itm) (j : Nat), (follow l j).1.length ≤ l.length ∧ (follow l j).2.length ≤ l.length
  | [], j => ⟨Nat.le_refl _, Nat.le_refl _⟩
  | y :: r, j => by
    obtain ⟨h1, h2⟩ := follow_lens r (j + 1)
    unfold follow
    cases y.1 with
    | true => exact ⟨Nat.le_succ_of_le h1, Nat.succ_le_succ h2⟩
    | false =>
      cases decide (y.2.2.2 = 3) with
      | true => exact ⟨Nat.succ_le_succ h1, Nat.le_succ_of_le h2⟩
      | false => exact ⟨Nat.succ_le_succ (Nat.zero_le _), Nat.zero_le _⟩
theorem behind_len {l : List Itm} {i : Nat} (h : i < l.length) : (behindB l i).1.length ≤ l.length ∧ (behindB l i).2.1.length ≤ l.length := by
  obtain ⟨h1, h2⟩ := follow_lens (l.drop (i + 1)) (i + 1)
  rw [List.length_drop] at h1 h2
  refine ⟨?_, by show (follow (l.drop (i + 1)) (i + 1)).2.length ≤ _; omega⟩
  show ((bif decide ((itmAt l i).2.2.2 = 2) then [(i : Int)] else []) ++ (follow (l.drop (i + 1)) (i + 1)).1).length ≤ _
  rw [List.length_append]
  cases decide ((itmAt l i).2.2.2 = 2) with
  | true => show 1 + _ ≤ _; omega
  | false => show 0 + _ ≤ _; omega

theorem E4_0_spec {k : Nat} {q : Qry} (hq : q.1.length + 1 < min k 9223372036854775807) (x3 : Bool) :
    ∀ (d i j : Nat), q.1.length + 1 - i = d → 1 ≤ i → i ≤ q.1.length + 1 → d < j → E4_0 k j ((q, ()), x3, compileB q, (i : Int), ()) = some (Sum.inl (x3, ())) := by
  intro d
  induction d with
  | zero =>
    intro i j e1 e0 e2 e3
    have : i = q.1.length + 1 := by omega
    subst this
    match j, e3 with
    | j + 1, _ =>
      rw [E4_0_eq, comp_len, nlt_nat]
      rfl
  | succ d ih =>
    intro i j e1 e0 e2 e3
    match j, e3 with
    | j + 1, e3 =>
      have hi : i < (compileB q).length := by rw [comp_len]; omega
      have r1 := ih (i + 1) j (by omega) (by omega) (by omega) (by omega)
      rw [show (((i + 1 : Nat)) : Int) = (i : Int) + 1 by omega] at r1
      obtain ⟨p, rfl⟩ : ∃ p, i = p + 1 := ⟨i - 1, by omega⟩
      have hp : p < q.1.length := by omega
      obtain ⟨hn, hg⟩ := behind_next hp
      obtain ⟨l1, l2⟩ := behind_len hp
      have hst : rd ((Ty.i IntKind.i64).l.p ((Ty.i IntKind.i64).l.p Ty.b)) (compileB q) ((p + 1 : Nat) : Int) = behindB q.1 p := (rd_nat _ _).trans (comp_succ q hp)
      have s0 := E4_0_0_spec (k := k) hn (by omega) (by omega) (by omega) x3 (compileB q) _ 0 k rfl (Nat.zero_le _) (by omega)
      have s1 := E4_0_1_spec (k := k) hg (by omega) (by omega) x3 (compileB q) _ 0 k rfl (Nat.zero_le _) (by omega)
      have s2 := E4_0_2_spec (k := k) (q := q) (by omega) x3 (compileB q) ((p + 1 : Nat) : Int) (behindB q.1 p) _ (p + 1) k true rfl (by omega) (by omega)
      rw [E4_0_eq, lt_nat hi, inb_nat hi, hst, show (0 : Int) = ((0 : Nat) : Int) from rfl, s0, cond_true, cond_true, Option.bind_some]
      dsimp only
      rw [s1, Option.bind_some]
      dsimp only
      rw [s2, Option.bind_some]
      dsimp only
      rw [show (behindB q.1 p).2.2 = finalB (q.1.drop (p + 1)) from rfl, Bool.true_and, wrap_nat (by omega), decide_eq_true rfl, r1]
      rfl

theorem PureNfaStates (x : shsDen (argSh [T25])) (hok : okAll [T25] x) : ∃ k z, F4 k x = some ((true, ()), z) := by
  obtain ⟨q, u⟩ := x
  obtain ⟨ok1, _⟩ := hok
  have ok1 : T25.ok q := ok1
  obtain ⟨N, hT⟩ := qt_of ok1
  refine ⟨140737488351232 + 3000 + N, (), ?_⟩
  generalize hkk : 140737488351232 + 3000 + N = k
  have hk : 140737488351232 < k := by omega
  have hq := hT.ok hk
  obtain ⟨b1, h10⟩ := F10_total hT hk (by omega)
  have h13 := F13_spec hq (by omega)
  have h17 := F17_spec hq
  have g10 : F10 k (q, ()) = _ := h10
  show F4 k (q, ()) = _
  rw [F4_eq, head_at' hk]
  show (F10 k (q, ())).bind _ = _
  rw [h10]
  cases b1 with
  | true => rfl
  | false =>
    show (F13 k (q, ())).bind _ = _
    rw [h13]
    show (F17 k (q, ())).bind _ = _
    rw [h17]
    cases hr : rightB q with
    | false => exact rfl
    | true =>
      obtain ⟨r1, r2⟩ := right_len hr
      have hlen : decide (((compileB q).length : Int) = IntKind.i64.wrap ((q.1.length : Int) + 1)) = true := by
        rw [wrap_nat (by have := hq.2.1; omega), comp_len]
        exact decide_eq_true (by omega)
      have h0 : rd ((Ty.i IntKind.i64).l.p ((Ty.i IntKind.i64).l.p Ty.b)) (compileB q) 0 = (([0], [], false) : Sta) := rfl
      have hin : inb 0 (compileB q).length = true := by rw [comp_len]; exact inb_nat (i := 0) (by omega)
      have s := E4_0_spec (k := k) (q := q) (by omega) true _ 1 k rfl (Nat.le_refl _) (by omega) (by omega)
      refine Eq.trans (Option.bind_some _ _) ?_
      dsimp only
      simp only [cond_true, cond_false, Bool.not_true, Bool.not_false]
      rw [hlen, hin]
      show (E4_0 k k ((q, ()), true, compileB q, 1, ())).bind _ = _
      have s : E4_0 k k ((q, ()), true, compileB q, 1, ()) = _ := s
      rw [s]
      rfl
end Go.Pv.L12
