/- Layer 06: OrderAny, plainly. -/
import Derived.Test.YtfnhnkaikpgnbaaPvPureOrderDue
namespace Go.Pv.L06
open Go Go.Pv Go.Proofs
set_option linter.all false
set_option linter.constructorNameAsVariable false
set_option linter.unusedSectionVars false
set_option linter.unusedVariables false
set_option linter.unusedSimpArgs false
/-- Two rows in order of the same events are one. -/
theorem srt_ext : ∀ {a b : List Ev}, Srt a → Srt b → (∀ x, x ∈ a ↔ x ∈ b) → a = b
  | [], [], _, _, _ => rfl
  | [], y :: b, _, _, h => by have := (h y).2 (List.mem_cons_self ..); cases this
  | x :: a, [], _, _, h => by have := (h x).1 (List.mem_cons_self ..); cases this
  | x :: a, y :: b, ha, hb, h => by
    obtain ⟨ha1, ha2⟩ := List.pairwise_cons.1 ha
    obtain ⟨hb1, hb2⟩ := List.pairwise_cons.1 hb
    have hxy : x = y := by
      rcases List.mem_cons.1 ((h x).1 (List.mem_cons_self ..)) with q | q
      · exact q
      · rcases List.mem_cons.1 ((h y).2 (List.mem_cons_self ..)) with p | p
        · exact p.symm
        · have h1 := hb1 x q
          have h2 := ha1 y p
          rw [less_asym h1] at h2; cases h2
    subst hxy
    congr 1
    refine srt_ext ha2 hb2 fun z => ⟨fun hz => ?_, fun hz => ?_⟩
    · rcases List.mem_cons.1 ((h z).1 (List.mem_cons_of_mem _ hz)) with q | q
      · subst q
        have := ha1 z hz
        rw [less_irr] at this; cases this
      · exact q
    · rcases List.mem_cons.1 ((h z).2 (List.mem_cons_of_mem _ hz)) with q | q
      · subst q
        have := hb1 z hz
        rw [less_irr] at this; cases this
      · exact q
theorem there_no {l : List Ev} {e : Ev} : thereB l e = false ↔ ∀ a, a ∈ l → sameK a e = false := by
  unfold thereB
  constructor
  · intro h a ha
    cases q : sameK a e with
    | false => rfl
    | true => rw [List.any_eq_true.2 ⟨a, ha, q⟩] at h; cases h
  · intro h
    cases q : l.any (fun a => sameK a e) with
    | false => rfl
    | true =>
      obtain ⟨a, ha, q'⟩ := List.any_eq_true.1 q
      rw [h a ha] at q'; cases q'
theorem putB_right {l : List Ev} {t : Int} {e : Ev} (h : (putB l t e).1 = 0) : rightE e = true := by
  unfold putB at h
  cases hr : rightE e with
  | true => rfl
  | false => rw [hr] at h; exact absurd h (show (1 : Int) ≠ 0 by decide)
theorem putB_yes {l : List Ev} {t : Int} {e : Ev} (h1 : rightE e = true) (h2 : t < k0 e) (h3 : thereB l e = false) (h4 : l.length < 256) : putB l t e = (0, insR l e) := by
  unfold putB
  rw [h1, h3, show decide (e.1 ≤ t) = false from decide_eq_false (show ¬ k0 e ≤ t by omega), decide_eq_false (show ¬ l.length = 256 by omega)]
  rfl
structure Any (L inn : List Ev) : Prop where
  bf : Bf L
  mem : ∀ a, a ∈ L ↔ a ∈ inn
  pw : inn.Pairwise fun a b => sameK a b = false
  ok : ∀ a, a ∈ inn → rightE a = true ∧ -1 < k0 a ∧ EvOk a
theorem E50_spec {k : Nat} (hk : MX < k) {l : List Ev} {ts : List Int} (hl : l.length ≤ 200) (hok : ∀ e, e ∈ l → EvOk e) (up : Bool) : ∀ (d i j : Nat) (L inn : List Ev), Any L inn → inn.length ≤ i → l.length - i = d → i ≤ l.length → d < j →
    E5_0 k j (l, ts, up, (L, -1, ()), ([], -1, ()), inn, (i : Int), ()) = some (Sum.inr (Sum.inl (up, ()))) ∨
    ∃ (L' inn' : List Ev), Any L' inn' ∧ inn'.length ≤ l.length ∧ E5_0 k j (l, ts, up, (L, -1, ()), ([], -1, ()), inn, (i : Int), ()) = some (Sum.inl (ts, up, (L', -1, ()), ([], -1, ()), inn', ())) := by
  have hk0 : MX = 140737488351232 := rfl
  intro d
  induction d with
  | zero =>
    intro i j L inn hL hi h1 h2 h3
    have : i = l.length := by omega
    match j, h3 with
    | j + 1, _ =>
      rw [E5_0_eq, this, nlt_nat]
      exact .inr ⟨L, inn, hL, by omega, rfl⟩
  | succ d ih =>
    intro i j L inn hL hi h1 h2 h3
    match j, h3 with
    | j + 1, h3 =>
      have hlt : i < l.length := by omega
      have he := hok _ (List.getElem_mem hlt)
      rw [E5_0_eq, lt_nat hlt, inb_nat hlt, wrap_nat (i := i) (by omega)]
      simp only [cond_true]
      rw [rd_get (e := T31) hlt]
      obtain ⟨b, hb⟩ := F22_total hk he
      cases b with
      | true => exact .inl (ob hb rfl)
      | false =>
        have hp := hL.bf.put (-1) he
        cases h0 : decide ((putB L (-1) l[i]).1 = 0) with
        | true =>
          obtain ⟨q1, q2, q3, q4⟩ := putB_ok (of_decide_eq_true h0)
          rw [q1] at hp
          have hr := putB_right (of_decide_eq_true h0)
          have hA : Any (insR L l[i]) (inn ++ [l[i]]) := by
            refine ⟨hp, fun a => ?_, List.pairwise_append.2 ⟨hL.pw, List.pairwise_singleton _ _, fun a ha b hb => ?_⟩, fun a ha => ?_⟩
            · rw [insR_mem, List.mem_append, List.mem_singleton, hL.mem]
              exact Or.comm
            · rw [List.mem_singleton.1 hb]
              exact there_no.1 q3 a ((hL.mem a).2 ha)
            · rcases List.mem_append.1 ha with ha | ha
              · exact hL.ok a ha
              · rw [List.mem_singleton.1 ha]; exact ⟨hr, q2, he⟩
          rcases ih (i + 1) j _ _ hA (by rw [List.length_append, List.length_singleton]; omega) (by omega) (by omega) (by omega) with g | ⟨L', inn', g1, g3, g2⟩
          · rw [show (((i + 1 : Nat)) : Int) = (i : Int) + 1 by omega] at g
            refine .inl (ob hb ?_)
            dsimp only
            simp only [cond_false]
            refine ob (F15_spec hk hL.bf (-1) he) ?_
            dsimp only
            rw [h0, q1, CAPE (by simp only [List.length_cons, List.length_nil]; omega)]
            exact g
          · rw [show (((i + 1 : Nat)) : Int) = (i : Int) + 1 by omega] at g2
            refine .inr ⟨L', inn', g1, g3, ob hb ?_⟩
            dsimp only
            simp only [cond_false]
            refine ob (F15_spec hk hL.bf (-1) he) ?_
            dsimp only
            rw [h0, q1, CAPE (by simp only [List.length_cons, List.length_nil]; omega)]
            exact g2
        | false =>
          have hno := putB_no (of_decide_eq_false h0)
          rcases ih (i + 1) j L inn hL (by omega) (by omega) (by omega) (by omega) with g | ⟨L', inn', g1, g3, g2⟩
          · rw [show (((i + 1 : Nat)) : Int) = (i : Int) + 1 by omega] at g
            refine .inl (ob hb ?_)
            dsimp only
            simp only [cond_false]
            refine ob (F15_spec hk hL.bf (-1) he) ?_
            dsimp only
            rw [h0, hno]
            exact g
          · rw [show (((i + 1 : Nat)) : Int) = (i : Int) + 1 by omega] at g2
            refine .inr ⟨L', inn', g1, g3, ob hb ?_⟩
            dsimp only
            simp only [cond_false]
            refine ob (F15_spec hk hL.bf (-1) he) ?_
            dsimp only
            rw [h0, hno]
            exact g2
theorem E51_spec {k : Nat} (hk : MX < k) {inn : List Ev} {ts : List Int} {A : List Ev} (hl : inn.length ≤ 200) (hA : Any A inn) (up : Bool) : ∀ (i j : Nat) (L : List Ev), Bf L → (∀ a, a ∈ L ↔ a ∈ inn.drop i) → L.length = inn.length - i → i ≤ inn.length → i < j →
    ∃ L' : List Ev, Bf L' ∧ (∀ a, a ∈ L' ↔ a ∈ inn) ∧ E5_1 k j (ts, up, (A, -1, ()), (L, -1, ()), inn, (i : Int) - 1, ()) = some (Sum.inl (ts, up, (A, -1, ()), (L', -1, ()), ())) := by
  intro i
  induction i with
  | zero =>
    intro j L hL hm hn h2 h3
    match j, h3 with
    | j + 1, _ =>
      rw [E5_1_eq, show decide ((0 : Int) ≤ ((0 : Nat) : Int) - 1) = false by decide]
      exact ⟨L, hL, by simpa using hm, rfl⟩
  | succ i ih =>
    intro j L hL hm hn h2 h3
    match j, h3 with
    | j + 1, h3 =>
      have hlt : i < inn.length := by omega
      obtain ⟨o1, o2, o3⟩ := hA.ok _ (List.getElem_mem hlt)
      have hth : thereB L inn[i] = false := there_no.2 fun a ha => by
        have hd := (hm a).1 ha
        obtain ⟨n, hn1, rfl⟩ := List.mem_iff_getElem.1 hd
        rw [List.getElem_drop]
        rw [List.length_drop] at hn1
        rw [sameK_comm]
        exact List.pairwise_iff_getElem.1 hA.pw i (i + 1 + n) hlt (by omega) (by omega)
      have hy := putB_yes (t := -1) o1 o2 hth (by omega)
      have hp := hL.put (-1) o3
      rw [hy] at hp
      obtain ⟨L', g1, g2, g3⟩ := ih j (insR L inn[i]) hp (fun a => by rw [insR_mem, hm, List.drop_eq_getElem_cons hlt, List.mem_cons]) (by rw [insR_len]; omega) (by omega) (by omega)
      refine ⟨L', g1, g2, ?_⟩
      rw [E5_1_eq, show (((i + 1 : Nat)) : Int) - 1 = (i : Int) by omega, inb_nat hlt, show decide ((0 : Int) ≤ (i : Int)) = true from decide_eq_true (by omega), wrap_le (x := (i : Int) - 1) (by omega) (by omega)]
      simp only [cond_true]
      rw [rd_get (e := T31) hlt]
      refine ob (F15_spec hk hL (-1) o3) ?_
      rw [hy]
      exact g3
theorem E52_spec {k : Nat} (hk : MX < k) {ts : List Int} (hl : ts.length ≤ 100) (up : Bool) : ∀ (d i j : Nat) (L : List Ev) (t : Int), Bf L → ts.length - i = d → i ≤ ts.length → d < j →
    ∃ (L' : List Ev) (t' : Int), Bf L' ∧ E5_2 k j (ts, up, (L, t, ()), (L, t, ()), (i : Int), ()) = some (Sum.inl (up, (L', t', ()), (L', t', ()), ())) := by
  have hk0 : MX = 140737488351232 := rfl
  intro d
  induction d with
  | zero =>
    intro i j L t hL h1 h2 h3
    have : i = ts.length := by omega
    match j, h3 with
    | j + 1, _ =>
      rw [E5_2_eq, this, nlt_nat]
      exact ⟨L, t, hL, rfl⟩
  | succ d ih =>
    intro i j L t hL h1 h2 h3
    match j, h3 with
    | j + 1, h3 =>
      have hlt : i < ts.length := by omega
      have hlen := hL.len
      obtain ⟨L', t', g1, g2⟩ := ih (i + 1) j _ _ (hL.adv t (rd (Ty.i IntKind.i64) ts (i : Int))) (by omega) (by omega) (by omega)
      rw [show (((i + 1 : Nat)) : Int) = (i : Int) + 1 by omega] at g2
      refine ⟨L', t', g1, ?_⟩
      rw [E5_2_eq, lt_nat hlt, inb_nat hlt, wrap_nat (i := i) (by omega)]
      simp only [cond_true]
      refine ob (F12_spec hL t _) ?_
      refine ob (F12_spec hL t _) ?_
      dsimp only
      simp only [decide_true, Bool.not_true, Bool.not_false, cond_true]
      refine ob (F14_same hk (by have := advB_len L t (rd (Ty.i IntKind.i64) ts (i : Int)); omega) (advB_ok L hL.ok t _)) ?_
      dsimp only
      simp only [Bool.not_true, cond_false]
      exact g2
theorem any_all {k : Nat} (hk : MX < k) {l : List Ev} (hM : l.length ≤ MX) (hl : ∀ e, e ∈ l → EvOk e) (ts : List Int) : F5 k (l, ts, ()) = some ((true, ()), ()) := by
  have hk0 : MX = 140737488351232 := rfl
  rw [F5_eq]
  refine ob (head_at hk) ?_
  refine ob (F9_eq k) ?_
  refine ob (F9_eq k) ?_
  dsimp only
  simp only [cond_false, cond_true]
  rw [bif_or]
  cases hc : decide (200 < (l.length : Int)) || decide (100 < (ts.length : Int)) with
  | true => rfl
  | false =>
    rw [Bool.or_eq_false_iff, decide_eq_false_iff_not, decide_eq_false_iff_not] at hc
    simp only [cond_false]
    rcases E50_spec hk (l := l) (ts := ts) (by omega) hl true l.length 0 k [] [] ⟨Bf.nil, fun a => Iff.rfl, List.Pairwise.nil, fun a h => by cases h⟩ (Nat.zero_le _) (by omega) (by omega) (by omega) with g | ⟨A, inn, g1, g3, g2⟩
    · exact ob g rfl
    · refine ob g2 ?_
      dsimp only
      obtain ⟨L', b1, b2, b3⟩ := E51_spec (k := k) (ts := ts) hk (by omega) g1 true inn.length k [] Bf.nil (fun a => by rw [List.drop_length]) (by simp) (Nat.le_refl _) (by omega)
      rw [wrap_le (x := (inn.length : Int) - 1) (by omega) (by omega)]
      refine ob b3 ?_
      dsimp only
      have hAL : L' = A := srt_ext b1.srt g1.bf.srt fun x => by rw [b2, g1.mem]
      subst hAL
      obtain ⟨L2, t2, c1, c2⟩ := E52_spec hk (ts := ts) (by omega) true ts.length 0 k L' (-1) b1 (by omega) (by omega) (by omega)
      refine ob c2 ?_
      dsimp only
      simp only [cond_true]
      refine ob (F19_spec c1 _) ?_
      refine ob (F19_spec c1 _) ?_
      dsimp only
      have := c1.len
      refine ob (F14_same (l := L2) hk (by omega) c1.ok) ?_
      dsimp only
      simp only [cond_true]
      refine ob (F17_eq k _ _) ?_
      refine ob (F17_eq k _ _) ?_
      dsimp only
      simp only [decide_true]
theorem PureOrderAny (x : shsDen (argSh [T34, T45])) (hok : okAll [T34, T45] x) : ∃ k z, F5 k x = some ((true, ()), z) := by
  obtain ⟨l, ts, u⟩ := x
  obtain ⟨ok1, _⟩ := hok
  have ok1 : T34.ok l := ok1
  obtain ⟨hM, hl⟩ := evs_ok ok1
  exact ⟨MX + 3000, (), any_all (by omega) hM hl ts⟩
end Go.Pv.L06
