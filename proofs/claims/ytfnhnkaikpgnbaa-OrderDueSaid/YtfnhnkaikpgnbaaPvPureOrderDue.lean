/- Layer 06: OrderDue, plainly. -/
import Derived.Test.YtfnhnkaikpgnbaaPvPureOrderOne
namespace Go.Pv.L06
open Go Go.Pv Go.Proofs
set_option linter.all false
set_option linter.constructorNameAsVariable false
set_option linter.unusedSectionVars false
set_option linter.unusedVariables false
set_option linter.unusedSimpArgs false
theorem evs_ok {l : List Ev} (h : T34.ok l) : l.length ≤ MX ∧ ∀ e, e ∈ l → EvOk e := by
  obtain ⟨h1, h2⟩ := h
  refine ⟨h1, fun o ho => ?_⟩
  obtain ⟨_, _, _, q1, q2, _⟩ := h2 o ho
  exact ⟨q1, q2⟩
theorem filter_ins (p : Ev → Bool) (e : Ev) : ∀ l : List Ev, ((insR l e).filter p).length = (l.filter p).length + bif p e then 1 else 0
  | [] => by
    unfold insR
    rw [List.filter_cons, List.filter_nil]
    cases p e <;> rfl
  | a :: r => by
    have ih := filter_ins p e r
    unfold insR
    cases lessB e a with
    | true =>
      simp only [cond_true]
      rw [List.filter_cons]
      cases p e <;> simp
    | false =>
      simp only [cond_false]
      rw [List.filter_cons, List.filter_cons]
      cases p a <;> simp [ih] <;> omega
theorem E7_spec {k : Nat} (hk : MX < k) {l : List Ev} (hl : l.length ≤ 200) (hok : ∀ e, e ∈ l → EvOk e) (x : Int) (up : Bool) : ∀ (d i j : Nat) (L : List Ev) (n : Nat), Bf L → n = (L.filter (fun e => decide (e.1 ≤ x))).length → l.length - i = d → i ≤ l.length → d < j →
    E7_0 k j (l, x, up, (L, -1, ()), (n : Int), (i : Int), ()) = some (Sum.inr (Sum.inl (up, ()))) ∨
    ∃ (L' : List Ev), Bf L' ∧ E7_0 k j (l, x, up, (L, -1, ()), (n : Int), (i : Int), ()) = some (Sum.inl (x, up, (L', -1, ()), ((L'.filter (fun e => decide (e.1 ≤ x))).length : Int), ())) := by
  have hk0 : MX = 140737488351232 := rfl
  intro d
  induction d with
  | zero =>
    intro i j L n hL hn h1 h2 h3
    have : i = l.length := by omega
    match j, h3 with
    | j + 1, _ =>
      rw [E7_0_eq, this, nlt_nat, hn]
      exact .inr ⟨L, hL, rfl⟩
  | succ d ih =>
    intro i j L n hL hn h1 h2 h3
    match j, h3 with
    | j + 1, h3 =>
      have hlt : i < l.length := by omega
      have hlen := hL.len
      have he := hok _ (List.getElem_mem hlt)
      rw [E7_0_eq, lt_nat hlt, inb_nat hlt, wrap_nat (i := i) (by omega)]
      simp only [cond_true]
      rw [rd_get (e := T31) hlt]
      obtain ⟨b, hb⟩ := F22_total hk he
      cases b with
      | true => exact .inl (ob hb rfl)
      | false =>
        have hn256 : n ≤ 256 := by rw [hn]; exact Nat.le_trans (List.length_filter_le _ _) hlen
        have hp := hL.put (-1) he
        cases h0 : decide ((putB L (-1) l[i]).1 = 0) with
        | true =>
          obtain ⟨q1, q2, q3, q4⟩ := putB_ok (of_decide_eq_true h0)
          rw [q1] at hp
          have hf := filter_ins (fun e => decide (e.1 ≤ x)) l[i] L
          cases hx : decide (l[i].1 ≤ x) with
          | true =>
            rw [hx] at hf
            rcases ih (i + 1) j (insR L l[i]) (n + 1) hp (by rw [hn]; exact hf.symm) (by omega) (by omega) (by omega) with g | ⟨L', g1, g2⟩
            · rw [show (((i + 1 : Nat)) : Int) = (i : Int) + 1 by omega, show (((n + 1 : Nat)) : Int) = (n : Int) + 1 by omega] at g
              refine .inl (ob hb ?_)
              dsimp only
              simp only [cond_false]
              refine ob (F15_spec hk hL (-1) he) ?_
              dsimp only
              rw [h0, q1, wrap_nat (i := n) (by omega)]
              exact g
            · rw [show (((i + 1 : Nat)) : Int) = (i : Int) + 1 by omega, show (((n + 1 : Nat)) : Int) = (n : Int) + 1 by omega] at g2
              refine .inr ⟨L', g1, ob hb ?_⟩
              dsimp only
              simp only [cond_false]
              refine ob (F15_spec hk hL (-1) he) ?_
              dsimp only
              rw [h0, q1, wrap_nat (i := n) (by omega)]
              exact g2
          | false =>
            rw [hx] at hf
            rcases ih (i + 1) j (insR L l[i]) n hp (by rw [hn]; exact hf.symm) (by omega) (by omega) (by omega) with g | ⟨L', g1, g2⟩
            · rw [show (((i + 1 : Nat)) : Int) = (i : Int) + 1 by omega] at g
              refine .inl (ob hb ?_)
              dsimp only
              simp only [cond_false]
              refine ob (F15_spec hk hL (-1) he) ?_
              dsimp only
              rw [h0, q1]
              exact g
            · rw [show (((i + 1 : Nat)) : Int) = (i : Int) + 1 by omega] at g2
              refine .inr ⟨L', g1, ob hb ?_⟩
              dsimp only
              simp only [cond_false]
              refine ob (F15_spec hk hL (-1) he) ?_
              dsimp only
              rw [h0, q1]
              exact g2
        | false =>
          have hno := putB_no (of_decide_eq_false h0)
          rcases ih (i + 1) j L n hL hn (by omega) (by omega) (by omega) with g | ⟨L', g1, g2⟩
          · rw [show (((i + 1 : Nat)) : Int) = (i : Int) + 1 by omega] at g
            refine .inl (ob hb ?_)
            dsimp only
            simp only [cond_false]
            refine ob (F15_spec hk hL (-1) he) ?_
            dsimp only
            rw [h0, hno]
            exact g
          · rw [show (((i + 1 : Nat)) : Int) = (i : Int) + 1 by omega] at g2
            refine .inr ⟨L', g1, ob hb ?_⟩
            dsimp only
            simp only [cond_false]
            refine ob (F15_spec hk hL (-1) he) ?_
            dsimp only
            rw [h0, hno]
            exact g2
theorem E71_spec {k : Nat} {x n m : Int} {up : Bool} {a b : List Ev} (ha : ∀ e, e ∈ a → decide (e.1 ≤ x) = true) (hl : a.length ≤ 1000000) (hk : a.length < k) : E7_1 k k (x, up, n, m, a, b, 0, ()) = some (Sum.inl (x, up, n, m, a, b, ())) := by
  have hE : E7_1 k k (x, up, n, m, a, b, 0, ()) = some (bif anyR (fun i => decide (x < k0 (evAt a i))) 0 a.length then Sum.inr (Sum.inl (false, ())) else Sum.inl (x, up, n, m, a, b, ())) := by
    refine scan0 (E := fun j i => E7_1 k j (x, up, n, m, a, b, i, ())) (fun j i hi => ?_) (fun j => ?_) hk
    · dsimp only
      rw [E7_1_eq, lt_nat hi, inb_nat hi, wrap_nat (by omega)]
      simp only [cond_true]
      rw [rd_get (e := T31) hi, evAt_get hi]
      rfl
    · dsimp only
      rw [E7_1_eq, nlt_nat]; rfl
  have h0 : anyR (fun i => decide (x < k0 (evAt a i))) 0 a.length = false := by
    cases h : anyR (fun i => decide (x < k0 (evAt a i))) 0 a.length with
    | false => rfl
    | true =>
      obtain ⟨m, _, h1, q⟩ := anyR_iff.1 h
      have q : x < k0 (evAt a m) := of_decide_eq_true q
      rw [evAt_get h1] at q
      have : k0 a[m] ≤ x := of_decide_eq_true (ha _ (List.getElem_mem h1))
      omega
  rw [h0] at hE
  exact hE
theorem E72_spec {k : Nat} {x n m : Int} {up : Bool} {a b : List Ev} (ha : ∀ e, e ∈ b → decide (e.1 ≤ x) = false) (hl : b.length ≤ 1000000) (hk : b.length < k) : E7_2 k k (x, up, n, m, a, b, 0, ()) = some (Sum.inl (up, n, m, a, b, ())) := by
  have hE : E7_2 k k (x, up, n, m, a, b, 0, ()) = some (bif anyR (fun i => decide (k0 (evAt b i) ≤ x)) 0 b.length then Sum.inr (Sum.inl (false, ())) else Sum.inl (up, n, m, a, b, ())) := by
    refine scan0 (E := fun j i => E7_2 k j (x, up, n, m, a, b, i, ())) (fun j i hi => ?_) (fun j => ?_) hk
    · dsimp only
      rw [E7_2_eq, lt_nat hi, inb_nat hi, wrap_nat (by omega)]
      simp only [cond_true]
      rw [rd_get (e := T31) hi, evAt_get hi]
      rfl
    · dsimp only
      rw [E7_2_eq, nlt_nat]; rfl
  have h0 : anyR (fun i => decide (k0 (evAt b i) ≤ x)) 0 b.length = false := by
    cases h : anyR (fun i => decide (k0 (evAt b i) ≤ x)) 0 b.length with
    | false => rfl
    | true =>
      obtain ⟨m, _, h1, q⟩ := anyR_iff.1 h
      rw [evAt_get h1] at q
      have := ha _ (List.getElem_mem h1)
      rw [show decide (b[m].1 ≤ x) = decide (k0 b[m] ≤ x) from rfl, q] at this
      cases this
  rw [h0] at hE
  exact hE
theorem due_all {k : Nat} (hk : MX < k) {l : List Ev} (hM : l.length ≤ MX) (hl : ∀ e, e ∈ l → EvOk e) (x : Int) : F7 k (l, x, ()) = some ((true, ()), ()) := by
  have hk0 : MX = 140737488351232 := rfl
  rw [F7_eq]
  refine ob (head_at hk) ?_
  refine ob (F9_eq k) ?_
  dsimp only
  cases h200 : decide (200 < (l.length : Int)) with
  | true => rfl
  | false =>
    have h200 : ¬ 200 < (l.length : Int) := of_decide_eq_false h200
    simp only [cond_false]
    rcases E7_spec hk (by omega) hl x true l.length 0 k [] 0 Bf.nil rfl (by omega) (by omega) (by omega) with g | ⟨L, g1, g2⟩
    · exact ob g rfl
    · refine ob g2 ?_
      dsimp only
      have hlen := g1.len
      refine ob (F19_spec g1 _) ?_
      dsimp only
      refine ob (F12_spec g1 _ _) ?_
      dsimp only
      refine ob (F19_spec (g1.adv _ _) _) ?_
      dsimp only
      have hfl := filter_len (fun e => decide (e.1 ≤ x)) L
      unfold advB
      cases hc : decide (x < 0) || decide (1099511627776 < x) with
      | true =>
        simp only [cond_true]
        rw [show decide ((1 : Int) = 0) = false from rfl, show decide (((([] : List Ev).length : Nat) : Int) = 0) = true from rfl]
        simp only [decide_true, Bool.not_false, cond_true]
      | false =>
        rw [Bool.or_eq_false_iff, decide_eq_false_iff_not, decide_eq_false_iff_not] at hc
        rw [show decide (x < -1) = false from decide_eq_false (by omega)]
        simp only [cond_false]
        simp only [decide_true, Bool.not_true, cond_false]
        have q1 := E71_spec (k := k) (x := x) (n := ((L.filter (fun e => decide (e.1 ≤ x))).length : Int)) (m := (L.length : Int)) (up := true) (a := L.filter (fun e => decide (e.1 ≤ x))) (b := L.filter (fun e => !decide (e.1 ≤ x))) (fun e he => (List.mem_filter.1 he).2) (by omega) (by omega)
        have q2 := E72_spec (k := k) (x := x) (n := ((L.filter (fun e => decide (e.1 ≤ x))).length : Int)) (m := (L.length : Int)) (up := true) (a := L.filter (fun e => decide (e.1 ≤ x))) (b := L.filter (fun e => !decide (e.1 ≤ x))) (fun e he => by have := (List.mem_filter.1 he).2; simpa using this) (by omega) (by omega)
        refine ob q1 ?_
        refine ob q2 ?_
        dsimp only
        rw [wrap_le (x := (L.length : Int) - ((L.filter (fun e => decide (e.1 ≤ x))).length : Int)) (by omega) (by omega), decide_eq_true (show (((L.filter (fun e => !decide (e.1 ≤ x))).length : Nat) : Int) = (L.length : Int) - ((L.filter (fun e => decide (e.1 ≤ x))).length : Int) by omega)]
        simp only [decide_true]
        rfl
theorem PureOrderDue (x : shsDen (argSh [T34, T2])) (hok : okAll [T34, T2] x) : ∃ k z, F7 k x = some ((true, ()), z) := by
  obtain ⟨l, x, u⟩ := x
  obtain ⟨ok1, _⟩ := hok
  have ok1 : T34.ok l := ok1
  obtain ⟨hM, hl⟩ := evs_ok ok1
  exact ⟨MX + 3000, (), due_all (by omega) hM hl x⟩
end Go.Pv.L06
