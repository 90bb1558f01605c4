/- Layer 06: OrderPlays, plainly. -/
import Derived.Test.YtfnhnkaikpgnbaaPvG06
import Derived.Test.YtfnhnkaikpgnbaaPv15
namespace Go.Pv.L06
open Go Go.Pv Go.Proofs
set_option linter.all false
set_option linter.constructorNameAsVariable false
set_option linter.unusedSectionVars false
set_option linter.unusedVariables false
set_option linter.unusedSimpArgs false
theorem ops_ok {l : List Op6} (h : T22.ok l) : OpsOk l := by
  obtain ⟨h1, h2⟩ := h
  refine ⟨h1, fun o ho => ?_⟩
  obtain ⟨_, ⟨_, _, _, q1, q2, _⟩, _⟩ := h2 o ho
  exact ⟨q1, q2⟩
/-- A time that a buffer may have. -/
def Tm (t : Int) : Prop := -1 ≤ t ∧ t ≤ 1099511627776
theorem Tm.adv {l : List Ev} {t : Int} (h : Tm t) (x : Int) : Tm (advB l t x).2.2.2 := by
  unfold advB
  cases hb : decide (x < 0) || decide (1099511627776 < x) with
  | true => exact h
  | false =>
    rw [Bool.or_eq_false_iff, decide_eq_false_iff_not, decide_eq_false_iff_not] at hb
    cases decide (x < t) with
    | true => exact h
    | false => exact ⟨by show -1 ≤ x; omega, by show x ≤ 1099511627776; omega⟩
theorem advB_ok (l : List Ev) (h : ∀ a, a ∈ l → EvOk a) (t x : Int) : ∀ a, a ∈ (advB l t x).1 → EvOk a := by
  unfold advB
  cases decide (x < 0) || decide (1099511627776 < x) with
  | true => intro a ha; cases ha
  | false =>
    cases decide (x < t) with
    | true => intro a ha; cases ha
    | false => intro a ha; exact h a (List.mem_filter.1 ha).1
theorem advB_len (l : List Ev) (t x : Int) : (advB l t x).1.length ≤ l.length := by
  unfold advB
  cases decide (x < 0) || decide (1099511627776 < x) with
  | true => exact Nat.zero_le _
  | false =>
    cases decide (x < t) with
    | true => exact Nat.zero_le _
    | false => exact List.length_filter_le _ _
theorem F18_spec {k : Nat} {l : List Ev} {t : Int} (h : Tm t) : F18 k ((l, t + 1, ()), ()) = some ((t, ()), (l, t + 1, ()), ()) := by
  rw [F18_eq]
  have h1 := h.1; have h2 := h.2
  rw [show t + 1 - 1 = t by omega, wrap_le (by omega) (by omega)]
theorem E3_spec {k : Nat} (hk : MX < k) {l : List Op6} (hl : OpsOk l) (up : Bool) : ∀ (d i j : Nat) (L : List Ev) (t : Int), Bf L → Tm t → l.length - i = d → i ≤ l.length → d < j →
    ∃ (L' : List Ev) (t' : Int), Bf L' ∧ E3_0 k j (l, up, (L, t, ()), (L, t + 1, ()), (i : Int), ()) = some (Sum.inl (up, (L', t', ()), (L', t' + 1, ()), ())) := by
  have hM := hl.1
  have hk0 : MX = 140737488351232 := rfl
  intro d
  induction d with
  | zero =>
    intro i j L t hL ht h1 h2 h3
    have : i = l.length := by omega
    match j, h3 with
    | j + 1, _ =>
      rw [E3_0_eq, this, nlt_nat]
      exact ⟨L, t, hL, rfl⟩
  | succ d ih =>
    intro i j L t hL ht h1 h2 h3
    match j, h3 with
    | j + 1, h3 =>
      have hlt : i < l.length := by omega
      have hlen := hL.len
      rw [E3_0_eq, lt_nat hlt, inb_nat hlt, wrap_nat (by omega)]
      simp only [cond_true, rdO hlt]
      cases h3 : decide (l[i].1 = 3) with
      | true =>
        obtain ⟨L', t', g1, g2⟩ := ih (i + 1) j _ _ (hL.adv t l[i].2.2) (ht.adv l[i].2.2) (by omega) (by omega) (by omega)
        rw [show (((i + 1 : Nat)) : Int) = (i : Int) + 1 by omega] at g2
        refine ⟨L', t', g1, ?_⟩
        simp only [cond_true]
        refine ob (F12_spec hL t _) ?_
        refine ob (F13_spec (by omega) hL t _) ?_
        dsimp only
        simp only [decide_true, Bool.not_true, Bool.not_false, cond_true]
        refine ob (F14_same hk (by have := advB_len L t l[i].2.2; omega) (advB_ok L hL.ok t _)) ?_
        dsimp only
        simp only [Bool.not_true, cond_false]
        refine ob (F17_eq k _ _) ?_
        refine ob (F18_spec (ht.adv _)) ?_
        dsimp only
        simp only [decide_true, Bool.not_true, cond_false]
        exact g2
      | false =>
        obtain ⟨L', t', g1, g2⟩ := ih (i + 1) j _ _ (hL.put t (hl.2 _ (List.getElem_mem hlt))) ht (by omega) (by omega) (by omega)
        rw [show (((i + 1 : Nat)) : Int) = (i : Int) + 1 by omega] at g2
        refine ⟨L', t', g1, ?_⟩
        simp only [cond_false]
        refine ob (F15_spec hk hL t (hl.2 _ (List.getElem_mem hlt))) ?_
        refine ob (F16_spec hk hL t (hl.2 _ (List.getElem_mem hlt))) ?_
        dsimp only
        simp only [decide_true, Bool.not_true, cond_false]
        refine ob (F17_eq k _ _) ?_
        refine ob (F18_spec ht) ?_
        dsimp only
        simp only [decide_true, Bool.not_true, cond_false]
        exact g2
theorem PureOrderPlays (x : shsDen (argSh [T22])) (hok : okAll [T22] x) : ∃ k z, F3 k x = some ((true, ()), z) := by
  obtain ⟨l, u⟩ := x
  obtain ⟨ok1, _⟩ := hok
  have hl : OpsOk l := ops_ok ok1
  refine ⟨MX + 3000, (), ?_⟩
  generalize hkk : MX + 3000 = k
  have hk : MX < k := by omega
  have hM := hl.1
  have hk0 : MX = 140737488351232 := rfl
  show F3 k (l, ()) = _
  rw [F3_eq]
  refine ob (head_at hk) ?_
  refine ob (F9_eq k) ?_
  refine ob (F10_eq k) ?_
  obtain ⟨b, h11, _⟩ := F11_total hk hl
  simp only [Bool.not_false, cond_true]
  refine ob h11 ?_
  dsimp only
  cases b with
  | true => rfl
  | false =>
    obtain ⟨L', t', g1, g2⟩ := E3_spec hk hl true l.length 0 k [] (-1) Bf.nil ⟨by omega, by omega⟩ (by omega) (by omega) (by omega)
    simp only [cond_false]
    refine ob g2 ?_
    dsimp only
    simp only [cond_true]
    refine ob (F19_spec g1 _) ?_
    refine ob (F14_same (l := L') hk (by have := g1.len; omega) g1.ok) ?_
    rfl
end Go.Pv.L06
