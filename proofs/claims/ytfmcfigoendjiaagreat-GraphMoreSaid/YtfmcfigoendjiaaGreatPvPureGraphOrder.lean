/- Layer 16: GraphOrder, plainly. -/
import Derived.Test.YtfmcfigoendjiaaGreatPvPl16
namespace Go.Pv.L16
open Go Go.Pv Go.Proofs
set_option linter.all false
set_option linter.constructorNameAsVariable false
set_option linter.unusedSectionVars false
set_option linter.unusedVariables false
set_option linter.unusedSimpArgs false

def dm (o : List Int) (a t : Int) : Int := bif decide (a < o.getD t.toNat 0) then o.getD t.toNat 0 else a
theorem mx_dm (o : List Int) : ∀ (r : List Int) (a : Int), r.foldl (mx o) (a + 1) = r.foldl (dm o) a + 1
  | [], a => rfl
  | t :: r, a => by
    rw [List.foldl_cons, List.foldl_cons, ← mx_dm o r]
    refine congrArg (fun z => r.foldl (mx o) z) ?_
    unfold mx dm
    rw [show decide (a + 1 < o.getD t.toNat 0 + 1) = decide (a < o.getD t.toNat 0) from decide_eq_decide.2 (by omega)]
    cases decide (a < o.getD t.toNat 0) <;> rfl
theorem fold_le (o : List Int) : ∀ (r : List Int) (a : Int), a ≤ r.foldl (mx o) a ∧ ∀ t, t ∈ r → o.getD t.toNat 0 + 1 ≤ r.foldl (mx o) a
  | [], a => ⟨Int.le_refl _, fun t h => by cases h⟩
  | t :: r, a => by
    rw [List.foldl_cons]
    obtain ⟨h1, h2⟩ := fold_le o r (mx o a t)
    have e : a ≤ mx o a t ∧ o.getD t.toNat 0 + 1 ≤ mx o a t := by
      unfold mx
      cases h : decide (a < o.getD t.toNat 0 + 1) with
      | true => have := of_decide_eq_true h; simp only [cond_true]; omega
      | false => have := of_decide_eq_false h; simp only [cond_false]; omega
    refine ⟨by omega, fun u hu => ?_⟩
    rcases List.mem_cons.1 hu with rfl | hu
    · omega
    · exact h2 u hu
theorem bks_len {d : List Int} {n : Nat} (h : ∀ t, t < n → 1 ≤ d.getD t 0 ∧ d.getD t 0 ≤ 3) : ∀ m, m ≤ n → (bks d m).length = m
  | 0, _ => rfl
  | m + 1, hm => by
    rw [← up_bks (h m (by omega)), up_len, List.length_reverse, bks_len h m (by omega)]
    simp
theorem mem_bk_iff {d : List Int} {c : Int} {n i : Nat} : (i : Int) ∈ bk d c n ↔ i < n ∧ d.getD i 0 = c := by
  unfold bk
  rw [mem_rl]
  constructor
  · rintro ⟨j, h1, _, h2, h3⟩
    have : i = j := by omega
    subst this
    exact ⟨h2, of_decide_eq_true h3⟩
  · rintro ⟨h1, h2⟩
    exact ⟨i, rfl, Nat.zero_le _, h1, decide_eq_true h2⟩
/-- Who is less deep stands ahead. -/
theorem bks_ahead {d : List Int} {n i m : Nat} (hi : i < n) (hm : m < n) (h1 : 1 ≤ d.getD m 0) (h2 : d.getD m 0 < d.getD i 0) (h3 : d.getD i 0 ≤ 3) : plc (bks d n) (m : Int) < plc (bks d n) (i : Int) := by
  unfold bks
  by_cases e : d.getD m 0 = 1
  · refine plc_lt (mem_bk_iff.2 ⟨hm, e⟩) (fun h => by have := (mem_bk_iff.1 h).2; omega) ?_
    rw [List.mem_append]
    by_cases e2 : d.getD i 0 = 2
    · exact .inl (mem_bk_iff.2 ⟨hi, e2⟩)
    · exact .inr (mem_bk_iff.2 ⟨hi, by omega⟩)
  · rw [← List.append_assoc]
    refine plc_lt (List.mem_append.2 (.inr (mem_bk_iff.2 ⟨hm, by omega⟩))) (fun h => ?_) (mem_bk_iff.2 ⟨hi, by omega⟩)
    rcases List.mem_append.1 h with h | h <;> (have := (mem_bk_iff.1 h).2; omega)
theorem bks_mem {d : List Int} {n i : Nat} (hi : i < n) (h1 : 1 ≤ d.getD i 0) (h3 : d.getD i 0 ≤ 3) : (i : Int) ∈ bks d n := by
  unfold bks
  rw [List.mem_append, List.mem_append]
  have : d.getD i 0 = 1 ∨ d.getD i 0 = 2 ∨ d.getD i 0 = 3 := by omega
  rcases this with e | e | e
  · exact .inl (mem_bk_iff.2 ⟨hi, e⟩)
  · exact .inr (.inl (mem_bk_iff.2 ⟨hi, e⟩))
  · exact .inr (.inr (mem_bk_iff.2 ⟨hi, e⟩))

section
variable {k : Nat} {l : List Ent} (hl : LOk k l) (hk : 2000 < k) (h0 : (depthsB l).2 = 0)
include hl hk h0
theorem order_eq : orderB l = bks (depthsB l).1 l.length := by
  unfold orderB
  rw [decide_eq_true h0, (depths_ok h0).2.1]; rfl
theorem E4_0_0_spec (up : Bool) {i : Nat} (hi : i < l.length) : ∀ (d m j : Nat) (a : Int), (readsOf l i).length - m = d → m ≤ (readsOf l i).length → d < j →
    E4_0_0 k j (l, up, (depthsB l).1, orderB l, (i : Int), plc (orderB l) (i : Int), readsOf l i, a, (m : Int), ()) = some (Sum.inl (l, up, (depthsB l).1, orderB l, (i : Int), ((readsOf l i).drop m).foldl (dm (depthsB l).1) a, ())) := by
  obtain ⟨hr, hlen, hD, _⟩ := depths_ok h0
  have h8 := rightE_len hr
  obtain ⟨hR1, hR2⟩ := reads_ok l i
  have ho := order_eq hl hk h0
  have hol := order_len (l := l)
  intro d
  induction d with
  | zero =>
    intro m j a h1 h2 h3
    have : m = (readsOf l i).length := by omega
    subst this
    match j, h3 with
    | j + 1, _ => rw [E4_0_0_eq, nlt_nat, List.drop_length]; rfl
  | succ d ih =>
    intro m j a h1 h2 h3
    match j, h3 with
    | j + 1, h3 =>
      have hm : m < (readsOf l i).length := by omega
      have e : rd (Ty.i IntKind.i64) (readsOf l i) (m : Int) = (readsOf l i)[m] := rd_get hm
      have hmem := List.getElem_mem hm
      obtain ⟨b1, b2⟩ := hR2 _ hmem
      rw [E4_0_0_eq, lt_nat hm, inb_nat hm, wrap_nat (by omega), e, List.drop_eq_getElem_cons hm, List.foldl_cons]
      generalize (readsOf l i)[m] = t at b1 b2 hmem ⊢
      obtain ⟨u, rfl⟩ : ∃ u : Nat, t = (u : Int) := ⟨t.toNat, by omega⟩
      have hu : u < l.length := by omega
      obtain ⟨q1, q2, q3⟩ := hD u hu
      obtain ⟨p1, p2, p3⟩ := hD i hi
      have hdeep := (fold_le (depthsB l).1 (readsOf l i) 1).2 _ hmem
      rw [Int.toNat_natCast] at hdeep
      have hff : (depthsB l).1.getD i 0 = (readsOf l i).foldl (mx (depthsB l).1) 1 := p1
      have hpl : plc (orderB l) (u : Int) < plc (orderB l) (i : Int) := by
        rw [ho]; exact bks_ahead hi hu q2 (by omega) p3
      have hpu : 0 ≤ plc (orderB l) (u : Int) := by
        rw [ho]; exact ((plc_pos _ _).1 (bks_mem hu q2 q3)).1
      have f := F21_spec (k := k) (x := orderB l) (by omega) (u : Int)
      have e2 : rd (Ty.i IntKind.i64) (depthsB l).1 (u : Int) = (depthsB l).1.getD u 0 := rd_nat (e := Ty.i IntKind.i64) _ u
      simp only [cond_true]
      refine ob f ?_
      dsimp only
      rw [decide_eq_false (show ¬ plc (orderB l) (u : Int) < 0 by omega), decide_eq_false (show ¬ plc (orderB l) (i : Int) ≤ plc (orderB l) (u : Int) by omega), decide_eq_false (show ¬ (u : Int) < 0 by omega), decide_eq_false (show ¬ ((List.length (depthsB l).1 : Nat) : Int) ≤ (u : Int) by omega), inb_nat (show u < (depthsB l).1.length by omega), e2]
      exact ih (m + 1) j _ (by omega) (by omega) (by omega)
theorem E4_0_spec (up : Bool) : ∀ (d i j : Nat), l.length - i = d → i ≤ l.length → d < j → E4_0 k j (l, up, (depthsB l).1, orderB l, (i : Int), ()) = some (Sum.inl (up, ())) := by
  obtain ⟨hr, hlen, hD, _⟩ := depths_ok h0
  have h8 := rightE_len hr
  have ho := order_eq hl hk h0
  have hol := order_len (l := l)
  intro d
  induction d with
  | zero =>
    intro i j h1 h2 h3
    have : i = l.length := by omega
    subst this
    match j, h3 with
    | j + 1, _ => rw [E4_0_eq, nlt_nat]; rfl
  | succ d ih =>
    intro i j h1 h2 h3
    match j, h3 with
    | j + 1, h3 =>
      have hi : i < l.length := by omega
      obtain ⟨p1, p2, p3⟩ := hD i hi
      obtain ⟨hR1, hR2⟩ := reads_ok l i
      have hpi : 0 ≤ plc (orderB l) (i : Int) := by
        rw [ho]; exact ((plc_pos _ _).1 (bks_mem hi p2 p3)).1
      have f := F21_spec (k := k) (x := orderB l) (by omega) (i : Int)
      have e2 : rd (Ty.i IntKind.i64) (depthsB l).1 (i : Int) = (depthsB l).1.getD i 0 := rd_nat (e := Ty.i IntKind.i64) _ i
      have ea : readsA l (i : Int) = readsOf l i := by
        unfold readsA
        rw [hr, lt_nat hi, decide_eq_true (show (0 : Int) ≤ (i : Int) by omega), Int.toNat_natCast]; rfl
      have f17 := F17_spec hl (i : Int)
      rw [ea] at f17
      have e := E4_0_0_spec hl hk h0 up hi (readsOf l i).length 0 k 0 (by omega) (by omega) (by omega)
      rw [List.drop_zero] at e
      have e : E4_0_0 k k (l, up, (depthsB l).1, orderB l, (i : Int), plc (orderB l) (i : Int), readsOf l i, 0, 0, ()) = _ := e
      have hff : (depthsB l).1.getD i 0 = (readsOf l i).foldl (mx (depthsB l).1) 1 := p1
      have hdm : (depthsB l).1.getD i 0 = (readsOf l i).foldl (dm (depthsB l).1) 0 + 1 := by rw [hff]; exact mx_dm _ _ 0
      rw [E4_0_eq, lt_nat hi]
      simp only [cond_true]
      refine ob f ?_
      dsimp only
      rw [decide_eq_false (show ¬ plc (orderB l) (i : Int) < 0 by omega), inb_nat (show i < (depthsB l).1.length by omega), e2, decide_eq_false (show ¬ (depthsB l).1.getD i 0 < 1 by omega), decide_eq_false (show ¬ 3 < (depthsB l).1.getD i 0 by omega)]
      simp only [Bool.not_false, cond_true, cond_false]
      refine ob f17 ?_
      refine ob e ?_
      dsimp only
      rw [inb_nat (show i < (depthsB l).1.length by omega), e2, wrap_nat (by omega), wrap_le (by omega) (by omega), decide_eq_true hdm]
      exact ih (i + 1) j (by omega) (by omega) (by omega)
end

theorem PureGraphOrder (x : shsDen (argSh [T22])) (hok : okAll [T22] x) : ∃ k z, F4 k x = some ((true, ()), z) := by
  obtain ⟨l, u⟩ := x
  obtain ⟨ok1, _⟩ := hok
  have ok1 : T22.ok l := ok1
  obtain ⟨N, hT⟩ := lt_of ok1
  refine ⟨140737488351232 + 3000 + N, (), ?_⟩
  generalize hkk : 140737488351232 + 3000 + N = k
  have hk : 140737488351232 < k := by omega
  have hl := LT.ok hk hT
  obtain ⟨b, h9, _⟩ := F9_total hk (by omega) hT
  show F4 k (l, ()) = _
  rw [F4_eq]
  refine ob (head_at hk) ?_
  refine ob h9 ?_
  dsimp only
  cases b with
  | true => rfl
  | false =>
    simp only [Bool.not_false, cond_true, cond_false]
    refine ob (F13_spec hl) ?_
    dsimp only
    cases hr : rightE l with
    | false => rfl
    | true =>
      simp only [Bool.not_true, cond_false]
      refine ob (F10_spec hl (by omega)) ?_
      refine ob (F15_spec hl (by omega)) ?_
      dsimp only
      by_cases h0 : (depthsB l).2 = 0
      · obtain ⟨_, hlen, hD, _⟩ := depths_ok h0
        have ho := order_eq hl (by omega) h0
        have hol : (orderB l).length = l.length := by rw [ho]; exact bks_len (fun t ht => (hD t ht).2) l.length (by omega)
        have e := E4_0_spec hl (by omega) h0 true l.length 0 k (by omega) (by omega) (by have := hl.2.1; omega)
        have e : E4_0 k k (l, true, (depthsB l).1, orderB l, 0, ()) = _ := e
        rw [decide_eq_true h0, hol, hlen, decide_eq_true (show (l.length : Int) = (l.length : Int) from rfl)]
        simp only [Bool.not_true, cond_false]
        exact ob e rfl
      · obtain ⟨g1, g2⟩ := depths_err h0
        have g2 : (depthsB l).2 = 161 ∨ (depthsB l).2 = 2 := by
          rw [depthsB_right hr] at h0 ⊢
          cases hd : dep (readsOf l) l.length (l.length + 1) (List.replicate l.length 0) with
          | none => exact .inl rfl
          | some o =>
            rw [hd] at h0
            rw [show resD (some o) = bif deepB o then ([], 2) else (o, 0) from rfl] at h0 ⊢
            cases hb : deepB o with
            | true => exact .inr rfl
            | false => rw [hb] at h0; exact absurd rfl h0
        have ho : orderB l = [] := by unfold orderB; rw [decide_eq_false h0]; rfl
        rw [decide_eq_false h0, ho, g1]
        rcases g2 with g2 | g2 <;> (rw [g2]; rfl)
end Go.Pv.L16
