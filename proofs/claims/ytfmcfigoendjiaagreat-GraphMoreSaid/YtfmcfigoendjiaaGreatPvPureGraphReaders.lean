/- Layer 16: GraphReaders, plainly. -/
import Derived.Test.YtfmcfigoendjiaaGreatPvPureGraphRing
namespace Go.Pv.L16
open Go Go.Pv Go.Proofs
set_option linter.all false
set_option linter.constructorNameAsVariable false
set_option linter.unusedSectionVars false
set_option linter.unusedVariables false
set_option linter.unusedSimpArgs false

theorem readsA_eq {l : List Ent} (hr : rightE l = true) {i : Nat} (hi : i < l.length) : readsA l (i : Int) = readsOf l i := by
  unfold readsA
  rw [hr, lt_nat hi, decide_eq_true (show (0 : Int) ≤ (i : Int) by omega), Int.toNat_natCast]; rfl
section
variable {k : Nat} {l : List Ent} (hl : LOk k l) (hr : rightE l = true) (hk : 2000 < k)
include hl hr hk
theorem E5_0_0_0_spec (up : Bool) (er : Int) (i c : Int) {al r : List Int} (ha : al.length ≤ 8) (hrl : r.length ≤ 8) : ∀ (d m j : Nat) (w : Bool), r.length - m = d → m ≤ r.length → d < j →
    E5_0_0_0 k j (l, up, er, i, al, c, r, w, (m : Int), ()) = some (Sum.inl (l, up, er, i, al, c, w || (r.drop m).any (fun t => conB al t), ())) := by
  intro d
  induction d with
  | zero =>
    intro m j w h1 h2 h3
    have : m = r.length := by omega
    subst this
    match j, h3 with
    | j + 1, _ => rw [E5_0_0_0_eq, nlt_nat, List.drop_length, List.any_nil, Bool.or_false]; rfl
  | succ d ih =>
    intro m j w h1 h2 h3
    match j, h3 with
    | j + 1, h3 =>
      have hm : m < r.length := by omega
      have e : rd (Ty.i IntKind.i64) r (m : Int) = r[m] := rd_get hm
      rw [E5_0_0_0_eq, lt_nat hm, inb_nat hm, wrap_nat (by omega), e, List.drop_eq_getElem_cons hm, List.any_cons]
      cases w with
      | true =>
        have := ih (m + 1) j true (by omega) (by omega) (by omega)
        simp only [Bool.true_or] at this ⊢
        exact this
      | false =>
        simp only [Bool.not_false, cond_true, cond_false, Bool.false_or]
        refine ob (F21_spec (k := k) (x := al) (by omega) r[m]) ?_
        dsimp only
        rw [plc_ge]
        exact ih (m + 1) j _ (by omega) (by omega) (by omega)
theorem E5_0_0_spec (up : Bool) (er : Int) (her : er = (depthsB l).2) {i : Nat} (hi : i < l.length) : ∀ (d m j : Nat), (readersB l (i : Int)).length - m = d → m ≤ (readersB l (i : Int)).length → d < j →
    E5_0_0 k j (l, up, er, (i : Int), readersB l (i : Int), (m : Int), ()) = some (Sum.inl (l, up, er, (i : Int), readersB l (i : Int), ())) := by
  have h8 := rightE_len hr
  have hal := readersB_len (l := l) (x := (i : Int))
  have hsorted := rl_sorted (rchB (readsOf l) l.length i) 0 l.length
  rw [← readersB_eq hr hi] at hsorted
  intro d
  induction d with
  | zero =>
    intro m j h1 h2 h3
    have : m = (readersB l (i : Int)).length := by omega
    subst this
    match j, h3 with
    | j + 1, _ => rw [E5_0_0_eq, nlt_nat]; rfl
  | succ d ih =>
    intro m j h1 h2 h3
    match j, h3 with
    | j + 1, h3 =>
      have hm : m < (readersB l (i : Int)).length := by omega
      have e : rd (Ty.i IntKind.i64) (readersB l (i : Int)) (m : Int) = (readersB l (i : Int))[m] := rd_get hm
      have hmem := List.getElem_mem hm
      have hprev : (bif decide (0 < (m : Int)) then decide ((readersB l (i : Int))[m] ≤ rd (Ty.i IntKind.i64) (readersB l (i : Int)) (IntKind.i64.wrap ((m : Int) - 1))) else false) = false ∧ (bif decide (0 < (m : Int)) then inb (IntKind.i64.wrap ((m : Int) - 1)) (readersB l (i : Int)).length else true) = true := by
        cases m with
        | zero => exact ⟨rfl, rfl⟩
        | succ m =>
          rw [decide_eq_true (show (0 : Int) < ((m + 1 : Nat) : Int) by omega), wrap_pred (by omega) (Nat.succ_pos m), show m + 1 - 1 = m from rfl, inb_nat (show m < (readersB l (i : Int)).length by omega)]
          have e' : rd (Ty.i IntKind.i64) (readersB l (i : Int)) (m : Int) = (readersB l (i : Int))[m] := rd_get (by omega)
          rw [e']
          have := List.pairwise_iff_getElem.1 hsorted m (m + 1) (by omega) hm (by omega)
          exact ⟨decide_eq_false (by omega), rfl⟩
      rw [E5_0_0_eq, lt_nat hm, inb_nat hm, e]
      obtain ⟨z, hz, hzl, hrz⟩ : ∃ z : Nat, (readersB l (i : Int))[m] = (z : Int) ∧ z < l.length ∧ Rch (readsOf l) l.length i z := by
        have key : ∀ z0, z0 ∈ readersB l (i : Int) → ∃ z : Nat, z0 = (z : Int) ∧ z < l.length ∧ Rch (readsOf l) l.length i z := by
          intro z0 h
          rw [readersB_eq hr hi] at h
          obtain ⟨z, h1, _, h2, h3⟩ := mem_rl.1 h
          exact ⟨z, h1, h2, rchB_iff.1 h3⟩
        exact key _ hmem
      rw [hz] at hprev ⊢
      obtain ⟨hp1, hp2⟩ := hprev
      have hself : (bif decide (er = 0) then decide ((z : Int) = (i : Int)) else false) = false := by
        cases h0 : decide (er = 0) with
        | false => rfl
        | true =>
          have h0 := of_decide_eq_true h0
          simp only [cond_true]
          refine decide_eq_false fun e => ?_
          have : z = i := by omega
          subst this
          have := (ring_err hr).2 ⟨z, hzl, hrz⟩
          have := of_decide_eq_true this
          rw [her, this] at h0
          cases h0
      have f17 := F17_spec hl (z : Int)
      rw [readsA_eq hr hzl] at f17
      have hrl := readsOf_len l z
      have f21 := F21_spec (k := k) (x := readsOf l z) (by omega) (i : Int)
      have e5 := E5_0_0_0_spec hl hr hk up er (i : Int) (m : Int) (al := readersB l (i : Int)) (r := readsOf l z) hal (by omega) (readsOf l z).length 0 k (decide (0 ≤ plc (readsOf l z) (i : Int))) (by omega) (by omega) (by omega)
      have e5 : E5_0_0_0 k k (l, up, er, (i : Int), readersB l (i : Int), (m : Int), readsOf l z, decide (0 ≤ plc (readsOf l z) (i : Int)), 0, ()) = _ := e5
      rw [List.drop_zero] at e5
      have hway : (decide (0 ≤ plc (readsOf l z) (i : Int)) || (readsOf l z).any (fun t => conB (readersB l (i : Int)) t)) = true := by
        rw [plc_ge, Bool.or_eq_true, conB_iff, List.any_eq_true]
        cases hrz with
        | base h1 h2 => exact .inl h2
        | @step _ t h1 h2 h3 => exact .inr ⟨(t : Int), h2, conB_iff.2 ((mem_readers hr hi).2 h3)⟩
      rw [hway] at e5
      dsimp only
      rw [decide_eq_false (show ¬ (z : Int) < 0 by omega), decide_eq_false (show ¬ ((List.length l : Nat) : Int) ≤ (z : Int) by omega)]
      simp only [cond_false, cond_true, Bool.not_false, Bool.true_and]
      rw [hp2, hp1, hself]
      simp only [cond_false, cond_true]
      refine ob f17 ?_
      refine ob f21 ?_
      refine ob e5 ?_
      dsimp only
      rw [wrap_nat (by omega)]
      exact ih (m + 1) j (by omega) (by omega) (by omega)
theorem E5_0_1_0_spec (up : Bool) (er i c : Int) {al rr oth : List Int} (ha : al.length ≤ 8) (ho : oth.length ≤ 8) (hsub : ∀ z, z ∈ al → z ∈ oth) : ∀ (d m j : Nat), al.length - m = d → m ≤ al.length → d < j →
    E5_0_1_0 k j (l, up, er, i, al, rr, c, oth, (m : Int), ()) = some (Sum.inl (l, up, er, i, al, rr, c, ())) := by
  intro d
  induction d with
  | zero =>
    intro m j h1 h2 h3
    have : m = al.length := by omega
    subst this
    match j, h3 with
    | j + 1, _ => rw [E5_0_1_0_eq, nlt_nat]; rfl
  | succ d ih =>
    intro m j h1 h2 h3
    match j, h3 with
    | j + 1, h3 =>
      have hm : m < al.length := by omega
      have e : rd (Ty.i IntKind.i64) al (m : Int) = al[m] := rd_get hm
      have hp := ((plc_pos oth al[m]).1 (hsub _ (List.getElem_mem hm))).1
      rw [E5_0_1_0_eq, lt_nat hm, inb_nat hm, wrap_nat (by omega), e]
      simp only [cond_true]
      refine ob (F21_spec (k := k) (x := oth) (by omega) al[m]) ?_
      dsimp only
      rw [decide_eq_false (show ¬ plc oth al[m] < 0 by omega)]
      exact ih (m + 1) j (by omega) (by omega) (by omega)
theorem E5_0_1_spec (up : Bool) (er : Int) {i : Nat} (hi : i < l.length) : ∀ (d m j : Nat), (readsOf l i).length - m = d → m ≤ (readsOf l i).length → d < j →
    E5_0_1 k j (l, up, er, (i : Int), readersB l (i : Int), readsOf l i, (m : Int), ()) = some (Sum.inl (l, up, er, (i : Int), ())) := by
  have h8 := rightE_len hr
  have hal := readersB_len (l := l) (x := (i : Int))
  obtain ⟨hR1, hR2⟩ := reads_ok l i
  intro d
  induction d with
  | zero =>
    intro m j h1 h2 h3
    have : m = (readsOf l i).length := by omega
    subst this
    match j, h3 with
    | j + 1, _ => rw [E5_0_1_eq, nlt_nat]; rfl
  | succ d ih =>
    intro m j h1 h2 h3
    match j, h3 with
    | j + 1, h3 =>
      have hm : m < (readsOf l i).length := by omega
      have e : rd (Ty.i IntKind.i64) (readsOf l i) (m : Int) = (readsOf l i)[m] := rd_get hm
      have hmem := List.getElem_mem hm
      obtain ⟨b1, b2⟩ := hR2 _ hmem
      rw [E5_0_1_eq, lt_nat hm, inb_nat hm, e]
      generalize (readsOf l i)[m] = t at b1 b2 hmem ⊢
      obtain ⟨u, rfl⟩ : ∃ u : Nat, t = (u : Int) := ⟨t.toNat, by omega⟩
      have hu : u < l.length := by omega
      have hoth := readersB_len (l := l) (x := (u : Int))
      have hbase : Rch (readsOf l) l.length u i := .base hi hmem
      have hp := ((plc_pos (readersB l (u : Int)) (i : Int)).1 ((mem_readers hr hu).2 hbase)).1
      have e5 := E5_0_1_0_spec hl hr hk up er (i : Int) (m : Int) (al := readersB l (i : Int)) (rr := readsOf l i) (oth := readersB l (u : Int)) hal hoth (fun z hz => by
        have hz2 := hz
        rw [readersB_eq hr hi] at hz2
        obtain ⟨y, rfl, _, _, hy⟩ := mem_rl.1 hz2
        exact (mem_readers hr hu).2 ((rchB_iff.1 hy).trans hbase)) (readersB l (i : Int)).length 0 k (by omega) (by omega) (by omega)
      have e5 : E5_0_1_0 k k (l, up, er, (i : Int), readersB l (i : Int), readsOf l i, (m : Int), readersB l (u : Int), 0, ()) = _ := e5
      simp only [cond_true]
      refine ob (F19_spec hl hk (u : Int)) ?_
      refine ob (F21_spec (k := k) (x := readersB l (u : Int)) (by omega) (i : Int)) ?_
      dsimp only
      rw [decide_eq_false (show ¬ plc (readersB l (u : Int)) (i : Int) < 0 by omega)]
      simp only [cond_false]
      refine ob e5 ?_
      dsimp only
      rw [wrap_nat (by omega)]
      exact ih (m + 1) j (by omega) (by omega) (by omega)
theorem E5_0_spec (up : Bool) : ∀ (d i j : Nat), l.length - i = d → i ≤ l.length → d < j → E5_0 k j (l, up, (depthsB l).2, (i : Int), ()) = some (Sum.inl (up, ())) := by
  have h8 := rightE_len hr
  intro d
  induction d with
  | zero =>
    intro i j h1 h2 h3
    have : i = l.length := by omega
    subst this
    match j, h3 with
    | j + 1, _ => rw [E5_0_eq, nlt_nat]; rfl
  | succ d ih =>
    intro i j h1 h2 h3
    match j, h3 with
    | j + 1, h3 =>
      have hi : i < l.length := by omega
      have hal := readersB_len (l := l) (x := (i : Int))
      have hR1 := readsOf_len l i
      have e1 := E5_0_0_spec hl hr hk up (depthsB l).2 rfl hi (readersB l (i : Int)).length 0 k (by omega) (by omega) (by omega)
      have e1 : E5_0_0 k k (l, up, (depthsB l).2, (i : Int), readersB l (i : Int), 0, ()) = _ := e1
      have e2 := E5_0_1_spec hl hr hk up (depthsB l).2 hi (readsOf l i).length 0 k (by omega) (by omega) (by omega)
      have e2 : E5_0_1 k k (l, up, (depthsB l).2, (i : Int), readersB l (i : Int), readsOf l i, 0, ()) = _ := e2
      have f17 := F17_spec hl (i : Int)
      rw [readsA_eq hr hi] at f17
      rw [E5_0_eq, lt_nat hi]
      simp only [cond_true]
      refine ob (F19_spec hl hk (i : Int)) ?_
      refine ob e1 ?_
      refine ob f17 ?_
      refine ob e2 ?_
      dsimp only
      rw [wrap_nat (by omega)]
      exact ih (i + 1) j (by omega) (by omega) (by omega)
end
theorem PureGraphReaders (x : shsDen (argSh [T22])) (hok : okAll [T22] x) : ∃ k z, F5 k x = some ((true, ()), z) := by
  obtain ⟨l, u⟩ := x
  obtain ⟨ok1, _⟩ := hok
  have ok1 : T22.ok l := ok1
  obtain ⟨N, hT⟩ := lt_of ok1
  refine ⟨140737488351232 + 3000 + N, (), ?_⟩
  generalize hkk : 140737488351232 + 3000 + N = k
  have hk : 140737488351232 < k := by omega
  have hl := LT.ok hk hT
  obtain ⟨b, h9, _⟩ := F9_total hk (by omega) hT
  show F5 k (l, ()) = _
  rw [F5_eq]
  refine ob (head_at hk) ?_
  refine ob h9 ?_
  dsimp only
  cases b with
  | true => rfl
  | false =>
    simp only [Bool.not_false, cond_true, cond_false]
    refine ob (F13_spec hl) ?_
    dsimp only
    cases hr : rightE l with
    | false => rfl
    | true =>
      simp only [Bool.not_true, cond_false]
      refine ob (F10_spec hl (by omega)) ?_
      dsimp only
      have e := E5_0_spec hl hr (by omega) true l.length 0 k (by omega) (by omega) (by have := hl.2.1; omega)
      have e : E5_0 k k (l, true, (depthsB l).2, 0, ()) = _ := e
      exact ob e rfl
end Go.Pv.L16
