/- Layer 12, plainly: the document's states, and how they are compared. -/
import Derived.Test.YthedngefmaklnaaPvT12
import Derived.Test.YthedngefmaklnaaPvH12
namespace Go.Pv.L12
open Go Go.Pv Go.Proofs
set_option linter.all false
set_option linter.constructorNameAsVariable false
set_option linter.unusedSectionVars false
set_option linter.unusedVariables false
set_option linter.unusedSimpArgs false

theorem E24_0_spec {k : Nat} {q : Qry} (hl : q.1.length ≤ 1000) (x4 : Sta) : ∀ (d i j : Nat) (nx gd : List Int) (f o : Bool), q.1.length - i = d → i ≤ q.1.length → d < j → nx.length + d ≤ 2000 → gd.length + d ≤ 2000 →
    E24_0 k j ((q, ()), (x4, ()), (nx, gd, f, ()), o, (i : Int), ()) = some (Sum.inl ((x4, ()), (nx ++ (bif o then (follow (q.1.drop i) i).1 else []), gd ++ (bif o then (follow (q.1.drop i) i).2 else []), f && finalB (q.1.drop i), ()), ())) := by
  intro d
  induction d with
  | zero =>
    intro i j nx gd f o h1 h2 h3 h4 h5
    have : i = q.1.length := by omega
    subst this
    match j, h3 with
    | j + 1, h3 =>
      rw [E24_0_eq, nlt_nat, List.drop_length]
      show some (Sum.inl ((x4, ()), (nx, gd, f, ()), ())) = some (Sum.inl ((x4, ()), (nx ++ (bif o then [] else []), gd ++ (bif o then [] else []), f && true, ()), ()))
      rw [Bool.and_true, Bool.cond_self, List.append_nil, List.append_nil]
  | succ d ih =>
    intro i j nx gd f o h1 h2 h3 h4 h5
    match j, h3 with
    | j + 1, h3 =>
      have hi : i < q.1.length := by omega
      have hit : rd (Ty.b.p (Ty.s.l.p (Ty.s.p (Ty.i IntKind.i64)))) q.1 (i : Int) = itmAt q.1 i := rd_nat q.1 i
      have c1 : decide ((nx.length + [(i : Int)].length) * (7 + 1) ≤ 140737488355328) = true := decide_eq_true (by simp only [List.length_singleton]; omega)
      have c2 : decide ((gd.length + [(i : Int)].length) * (7 + 1) ≤ 140737488355328) = true := decide_eq_true (by simp only [List.length_singleton]; omega)
      have r1 := fun f' => ih (i + 1) j nx (gd ++ [(i : Int)]) f' true (by omega) (by omega) (by omega) (by omega) (by simp only [List.length_append, List.length_singleton]; omega)
      have r2 := fun f' o' => ih (i + 1) j (nx ++ [(i : Int)]) gd f' o' (by omega) (by omega) (by omega) (by simp only [List.length_append, List.length_singleton]; omega) (by omega)
      have r3 := fun f' => ih (i + 1) j nx gd f' false (by omega) (by omega) (by omega) (by omega) (by omega)
      rw [show (((i + 1 : Nat)) : Int) = (i : Int) + 1 by omega] at r1 r2 r3
      have hf : finalB (q.1.drop i) = (!mustB (itmAt q.1 i) && finalB (q.1.drop (i + 1))) := by
        rw [drop_at hi]
        unfold finalB
        rw [List.any_cons, Bool.not_or]
      rw [E24_0_eq, lt_nat hi, inb_nat hi, hit, wrap_nat (by omega), c1, c2, hf, drop_at hi]
      unfold follow mustB
      cases o with
      | false =>
        rw [r3, r3]
        cases (itmAt q.1 i).1 <;> cases decide ((itmAt q.1 i).2.2.2 = 3) <;> simp
      | true =>
        rw [r1, r1, r2, r2]
        cases (itmAt q.1 i).1 <;> cases decide ((itmAt q.1 i).2.2.2 = 3) <;> simp

theorem F24_spec {k : Nat} {q : Qry} (hl : q.1.length ≤ 1000) (hk : 2000 < k) {i : Nat} (hi : i < q.1.length) : F24 k (q, (i : Int), ()) = some ((behindB q.1 i, ()), ()) := by
  have s1 := E24_0_spec (k := k) hl (([], [], false) : Sta) (q.1.length - (i + 1)) (i + 1) k [(i : Int)] [] true true rfl (by omega) (by omega) (by simp only [List.length_singleton]; omega) (by simp only [List.length_nil]; omega)
  have s2 := E24_0_spec (k := k) hl (([], [], false) : Sta) (q.1.length - (i + 1)) (i + 1) k [] [] true true rfl (by omega) (by omega) (by simp only [List.length_nil]; omega) (by simp only [List.length_nil]; omega)
  rw [show (((i + 1 : Nat)) : Int) = (i : Int) + 1 by omega] at s1 s2
  have hit : rd (Ty.b.p (Ty.s.l.p (Ty.s.p (Ty.i IntKind.i64)))) q.1 (i : Int) = itmAt q.1 i := rd_nat q.1 i
  rw [F24_eq, decide_eq_false (by omega : ¬ (i : Int) < 0), inb_nat hi, hit, wrap_nat (by omega), s1, s2]
  unfold behindB
  cases decide ((itmAt q.1 i).2.2.2 = 2) <;> simp <;> rfl

theorem F24_ahead {k : Nat} {q : Qry} : F24 k (q, -1, ()) = some ((([0], [], false), ()), ()) := by
  rw [F24_eq]; rfl

theorem F14_spec {k : Nat} {q : Qry} (hq : QOk k q) (hk : 2000 < k) : F14 k (q, ()) = some ((bif rightB q then compileB q else [], ()), ()) := by
  rw [F14_eq, F17_spec hq]
  cases hr : rightB q with
  | false => rfl
  | true =>
    obtain ⟨l1, l2⟩ := right_len hr
    have key : ∀ (d i j : Nat) (acc : List Sta), q.1.length - i = d → i ≤ q.1.length → d < j → acc.length + d ≤ 2000 → E14_0 k j ((q, ()), acc, (i : Int), ()) = some (Sum.inl (acc ++ (List.range' i (q.1.length - i)).map (behindB q.1), ())) := by
      intro d
      induction d with
      | zero =>
        intro i j acc h1 h2 h3 h4
        have : i = q.1.length := by omega
        subst this
        match j, h3 with
        | j + 1, _ => rw [E14_0_eq, nlt_nat]; simp
      | succ d ih =>
        intro i j acc h1 h2 h3 h4
        match j, h3 with
        | j + 1, h3 =>
          have hi : i < q.1.length := by omega
          rw [E14_0_eq, lt_nat hi, F24_spec (by omega) hk hi, wrap_nat (by omega)]
          have c1 : decide ((acc.length + [behindB q.1 i].length) * (55 + 1) ≤ 140737488355328) = true := decide_eq_true (by simp only [List.length_singleton]; omega)
          have r1 := ih (i + 1) j (acc ++ [behindB q.1 i]) (by omega) (by omega) (by omega) (by simp only [List.length_append, List.length_singleton]; omega)
          rw [show (((i + 1 : Nat)) : Int) = (i : Int) + 1 by omega] at r1
          show (bif decide ((acc.length + [behindB q.1 i].length) * (55 + 1) ≤ 140737488355328) then E14_0 k j ((q, ()), acc ++ [behindB q.1 i], (i : Int) + 1, ()) else none) = _
          rw [c1, r1]
          rw [show q.1.length - i = (q.1.length - (i + 1)) + 1 by omega, List.range'_succ]
          simp
    have h0 := key q.1.length 0 (k - 1) [(([0], [], false) : Sta)] (by omega) (by omega) (by omega) (by simp only [List.length_singleton]; omega)
    have h0 : E14_0 k (k - 1) ((q, ()), [([0], [], false)], 0, ()) = _ := h0
    have h1 : E14_0 k k ((q, ()), [], -1, ()) = E14_0 k (k - 1) ((q, ()), [([0], [], false)], 0, ()) := by
      obtain ⟨m, rfl⟩ : ∃ m, k = m + 1 := ⟨k - 1, by omega⟩
      rw [E14_0_eq, decide_eq_true (by omega : (-1 : Int) < (q.1.length : Int)), F24_ahead]
      rfl
    show (E14_0 k k ((q, ()), [], -1, ())).bind _ = _
    rw [h1, h0]
    refine Eq.trans (Option.bind_some _ _) ?_
    dsimp only
    rw [cond_true]
    unfold compileB
    rw [Nat.sub_zero, List.range_eq_range']
    rfl

/-! ### alike -/
theorem F20_spec {k : Nat} {a : List Int} (ha : a.length < min k 9223372036854775807) : F20 k (a, a, ()) = some ((true, ()), ()) := by
  have key : ∀ (d i j : Nat), a.length - i = d → i ≤ a.length → d < j → E20_0 k j (a, a, (i : Int), ()) = some (Sum.inl ()) := by
    intro d
    induction d with
    | zero =>
      intro i j h1 h2 h3
      have : i = a.length := by omega
      subst this
      match j, h3 with
      | j + 1, _ => rw [E20_0_eq, nlt_nat]; rfl
    | succ d ih =>
      intro i j h1 h2 h3
      match j, h3 with
      | j + 1, h3 =>
        have hi : i < a.length := by omega
        have r1 := ih (i + 1) j (by omega) (by omega) (by omega)
        rw [show (((i + 1 : Nat)) : Int) = (i : Int) + 1 by omega] at r1
        rw [E20_0_eq, lt_nat hi, inb_nat hi, wrap_nat (by omega), decide_eq_true rfl, r1]
        rfl
  have h0 : E20_0 k k (a, a, 0, ()) = _ := key a.length 0 k (by omega) (by omega) (by omega)
  rw [F20_eq, decide_eq_true rfl, h0]
  rfl

theorem F12_spec {k : Nat} {a : List Sta} (ha : a.length < min k 9223372036854775807) (hs : ∀ s, s ∈ a → s.1.length < min k 9223372036854775807 ∧ s.2.1.length < min k 9223372036854775807) : F12 k (a, a, ()) = some ((true, ()), ()) := by
  have key : ∀ (d i j : Nat), a.length - i = d → i ≤ a.length → d < j → E12_0 k j (a, a, (i : Int), ()) = some (Sum.inl ()) := by
    intro d
    induction d with
    | zero =>
      intro i j h1 h2 h3
      have : i = a.length := by omega
      subst this
      match j, h3 with
      | j + 1, _ => rw [E12_0_eq, nlt_nat]; rfl
    | succ d ih =>
      intro i j h1 h2 h3
      match j, h3 with
      | j + 1, h3 =>
        have hi : i < a.length := by omega
        have r1 := ih (i + 1) j (by omega) (by omega) (by omega)
        rw [show (((i + 1 : Nat)) : Int) = (i : Int) + 1 by omega] at r1
        have hst : rd T36 a (i : Int) = staAt a i := rd_nat a i
        have hm : staAt a i ∈ a := by
          unfold staAt
          rw [List.getD_eq_getElem?_getD, List.getElem?_eq_getElem hi]
          exact List.getElem_mem hi
        obtain ⟨g1, g2⟩ := hs _ hm
        rw [E12_0_eq, lt_nat hi, inb_nat hi, wrap_nat (by omega), hst, decide_eq_true rfl, F20_spec g1]
        show (F20 k ((staAt a i).2.1, (staAt a i).2.1, ())).bind _ = _
        rw [F20_spec g2]
        exact r1
  have h0 : E12_0 k k (a, a, 0, ()) = _ := key a.length 0 k (by omega) (by omega) (by omega)
  rw [F12_eq, decide_eq_true rfl, h0]
  rfl
end Go.Pv.L12
