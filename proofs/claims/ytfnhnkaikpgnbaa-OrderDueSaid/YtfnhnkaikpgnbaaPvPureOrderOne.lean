/- Layer 06: OrderOne, plainly. -/
import Derived.Test.YtfnhnkaikpgnbaaPvPureOrderPlays
namespace Go.Pv.L06
open Go Go.Pv Go.Proofs
set_option linter.all false
set_option linter.constructorNameAsVariable false
set_option linter.unusedSectionVars false
set_option linter.unusedVariables false
set_option linter.unusedSimpArgs false
theorem putB_ok {l : List Ev} {t : Int} {e : Ev} (h : (putB l t e).1 = 0) : (putB l t e).2 = insR l e ∧ t < k0 e ∧ thereB l e = false ∧ k0 e ≤ 1099511627776 := by
  unfold putB at h ⊢
  cases hr : rightE e with
  | false => rw [hr] at h; exact absurd h (show (1 : Int) ≠ 0 by decide)
  | true =>
    rw [hr] at h
    cases h1 : decide (e.1 ≤ t) with
    | true => rw [h1] at h; exact absurd h (show (61 : Int) ≠ 0 by decide)
    | false =>
      rw [h1] at h
      cases h2 : thereB l e with
      | true => rw [h2] at h; exact absurd h (show (151 : Int) ≠ 0 by decide)
      | false =>
        rw [h2] at h
        cases h3 : decide (l.length = 256) with
        | true => rw [h3] at h; exact absurd h (show (2 : Int) ≠ 0 by decide)
        | false =>
          have h1 : ¬ k0 e ≤ t := of_decide_eq_false h1
          have hr' := hr
          unfold rightE inM at hr'
          simp only [Bool.and_eq_true, decide_eq_true_eq] at hr'
          exact ⟨rfl, by omega, rfl, hr'.1.2⟩
theorem putB_no {l : List Ev} {t : Int} {e : Ev} (h : (putB l t e).1 ≠ 0) : (putB l t e).2 = l := by
  unfold putB at h ⊢
  cases hr : rightE e with
  | false => rfl
  | true =>
    rw [hr] at h
    cases h1 : decide (e.1 ≤ t) with
    | true => rfl
    | false =>
      rw [h1] at h
      cases h2 : thereB l e with
      | true => rfl
      | false =>
        rw [h2] at h
        cases h3 : decide (l.length = 256) with
        | true => rfl
        | false => rw [h3] at h; exact absurd (show (0 : Int) = 0 from rfl) h
/-- What went, what waits, and what was taken. -/
structure One (out L inn : List Ev) (t : Int) : Prop where
  bf : Bf L
  tm : Tm t
  so : Srt out
  le : ∀ a, a ∈ out → k0 a ≤ t
  gt : ∀ a, a ∈ L → t < k0 a
  mx : ∀ a, a ∈ L → k0 a ≤ 1099511627776
  len : out.length + L.length = inn.length
  mem : ∀ a, a ∈ inn → a ∈ out ∨ a ∈ L
  oko : ∀ a, a ∈ out → EvOk a
  oki : ∀ a, a ∈ inn → EvOk a
theorem One.put {out L inn : List Ev} {t : Int} (h : One out L inn t) {e : Ev} (he : EvOk e) (h0 : (putB L t e).1 = 0) : One out (putB L t e).2 (inn ++ [e]) t := by
  have hb := h.bf.put t he
  obtain ⟨q1, q2, q3, q4⟩ := putB_ok h0
  rw [q1] at hb ⊢
  refine ⟨hb, h.tm, h.so, h.le, fun a ha => ?_, fun a ha => ?_, ?_, fun a ha => ?_, h.oko, fun a ha => ?_⟩
  · rcases insR_mem.1 ha with rfl | ha
    · exact q2
    · exact h.gt a ha
  · rcases insR_mem.1 ha with rfl | ha
    · exact q4
    · exact h.mx a ha
  · rw [insR_len, List.length_append, List.length_singleton]; have := h.len; omega
  · rcases List.mem_append.1 ha with ha | ha
    · rcases h.mem a ha with g | g
      · exact .inl g
      · exact .inr (insR_mem.2 (.inr g))
    · exact .inr (insR_mem.2 (.inl (List.mem_singleton.1 ha)))
  · rcases List.mem_append.1 ha with ha | ha
    · exact h.oki a ha
    · rw [List.mem_singleton.1 ha]; exact he
theorem filter_len (p : Ev → Bool) : ∀ l : List Ev, (l.filter p).length + (l.filter fun a => !p a).length = l.length
  | [] => rfl
  | a :: l => by
    have := filter_len p l
    rw [List.filter_cons, List.filter_cons]
    cases p a <;> simp <;> omega
theorem One.adv {out L inn : List Ev} {t : Int} (h : One out L inn t) (x : Int) : One (out ++ (advB L t x).1) (advB L t x).2.2.1 inn (advB L t x).2.2.2 := by
  have hb := h.bf.adv t x
  have ht := h.tm.adv (l := L) x
  have ho := advB_ok L h.bf.ok t x
  unfold advB at hb ht ho ⊢
  cases hc : decide (x < 0) || decide (1099511627776 < x) with
  | true => simp only [cond_true, List.append_nil]; exact h
  | false =>
    rw [hc] at hb ht ho
    simp only [cond_false] at hb ht ho ⊢
    cases hd : decide (x < t) with
    | true => simp only [cond_true, List.append_nil]; exact h
    | false =>
      rw [hd] at hb ht ho
      simp only [cond_false] at hb ht ho ⊢
      have hd : ¬ x < t := by simpa using hd
      have mf : ∀ a, a ∈ L.filter (fun e => decide (e.1 ≤ x)) → a ∈ L ∧ k0 a ≤ x := fun a ha => by
        obtain ⟨g1, g2⟩ := List.mem_filter.1 ha
        exact ⟨g1, of_decide_eq_true g2⟩
      refine ⟨hb, ht, List.pairwise_append.2 ⟨h.so, h.bf.srt.filter _, fun a ha b hb' => ?_⟩, fun a ha => ?_, fun a ha => ?_, fun a ha => h.mx a (List.mem_filter.1 ha).1, ?_, fun a ha => ?_, fun a ha => ?_, h.oki⟩
      · have h1 := h.le a ha
        have h2 := h.gt b (mf b hb').1
        exact lessB_iff.2 (.inl (by omega))
      · rcases List.mem_append.1 ha with ha | ha
        · have := h.le a ha; omega
        · exact (mf a ha).2
      · obtain ⟨g1, g2⟩ := List.mem_filter.1 ha
        have : ¬ k0 a ≤ x := fun hc => by
          have e : decide (a.1 ≤ x) = true := decide_eq_true hc
          rw [e] at g2; cases g2
        omega
      · rw [List.length_append, Nat.add_assoc, filter_len]; exact h.len
      · rcases h.mem a ha with g | g
        · exact .inl (List.mem_append_left _ g)
        · cases hq : decide (a.1 ≤ x) with
          | true => exact .inl (List.mem_append_right _ (List.mem_filter.2 ⟨g, hq⟩))
          | false => exact .inr (List.mem_filter.2 ⟨g, by rw [hq]; rfl⟩)
      · rcases List.mem_append.1 ha with ha | ha
        · exact h.oko a ha
        · exact ho a ha
theorem E4_spec {k : Nat} (hk : MX < k) {l : List Op6} (hl : OpsOk l) (h600 : l.length ≤ 600) (up : Bool) : ∀ (d i j : Nat) (L out inn : List Ev) (t : Int), One out L inn t → inn.length ≤ i → l.length - i = d → i ≤ l.length → d < j →
    ∃ (L' out' inn' : List Ev) (t' : Int), One out' L' inn' t' ∧ inn'.length ≤ l.length ∧ E4_0 k j (l, up, (L, t, ()), out, inn, (i : Int), ()) = some (Sum.inl (up, (L', t', ()), out', inn', ())) := by
  have hM := hl.1
  have hk0 : MX = 140737488351232 := rfl
  intro d
  induction d with
  | zero =>
    intro i j L out inn t hL hi h1 h2 h3
    have : i = l.length := by omega
    match j, h3 with
    | j + 1, _ =>
      rw [E4_0_eq, this, nlt_nat]
      exact ⟨L, out, inn, t, hL, by omega, rfl⟩
  | succ d ih =>
    intro i j L out inn t hL hi h1 h2 h3
    match j, h3 with
    | j + 1, h3 =>
      have hlt : i < l.length := by omega
      have hlen := hL.bf.len
      have hln := hL.len
      rw [E4_0_eq, lt_nat hlt, inb_nat hlt, wrap_nat (by omega)]
      simp only [cond_true, rdO hlt]
      cases h3 : decide (l[i].1 = 3) with
      | true =>
        have hA := hL.adv l[i].2.2
        have hAl := hA.len
        rw [List.length_append] at hAl
        obtain ⟨L', out', inn', t', g1, g3, g2⟩ := ih (i + 1) j _ _ _ _ hA (by omega) (by omega) (by omega) (by omega)
        rw [show (((i + 1 : Nat)) : Int) = (i : Int) + 1 by omega] at g2
        refine ⟨L', out', inn', t', g1, g3, ?_⟩
        simp only [cond_true]
        refine ob (F12_spec hL.bf t _) ?_
        dsimp only
        have hz : (bif !decide ((advB L t l[i].2.2).2.1 = 0) then decide ((0 : Int) < ((advB L t l[i].2.2).1.length : Int)) else false) = false := by
          unfold advB
          cases decide (l[i].2.2 < 0) || decide (1099511627776 < l[i].2.2) with
          | true => rfl
          | false =>
            cases decide (l[i].2.2 < t) with
            | true => rfl
            | false => rfl
        rw [hz, CAPE (by omega)]
        simp only [cond_false, cond_true]
        exact g2
      | false =>
        have he : EvOk l[i].2.1 := hl.2 _ (List.getElem_mem hlt)
        simp only [cond_false]
        cases h0 : decide ((putB L t l[i].2.1).1 = 0) with
        | true =>
          have hA := hL.put he (of_decide_eq_true h0)
          obtain ⟨L', out', inn', t', g1, g3, g2⟩ := ih (i + 1) j _ _ _ _ hA (by rw [List.length_append, List.length_singleton]; omega) (by omega) (by omega) (by omega)
          rw [show (((i + 1 : Nat)) : Int) = (i : Int) + 1 by omega] at g2
          refine ⟨L', out', inn', t', g1, g3, ?_⟩
          refine ob (F15_spec hk hL.bf t he) ?_
          dsimp only
          rw [h0, CAPE (by simp only [List.length_cons, List.length_nil]; omega)]
          exact g2
        | false =>
          obtain ⟨L', out', inn', t', g1, g3, g2⟩ := ih (i + 1) j _ _ _ _ hL (by omega) (by omega) (by omega) (by omega)
          rw [show (((i + 1 : Nat)) : Int) = (i : Int) + 1 by omega] at g2
          refine ⟨L', out', inn', t', g1, g3, ?_⟩
          refine ob (F15_spec hk hL.bf t he) ?_
          dsimp only
          rw [h0, putB_no (of_decide_eq_false h0)]
          exact g2
theorem E4_1_spec {k : Nat} {out inn : List Ev} (hs : Srt out) (hl : out.length ≤ 1000000) (up : Bool) : ∀ (d i j : Nat), 1 ≤ i → out.length - i = d → d < j →
    E4_1 k j (up, out, inn, (i : Int), ()) = some (Sum.inl (up, out, inn, ())) := by
  intro d
  induction d with
  | zero =>
    intro i j h0 h1 h3
    match j, h3 with
    | j + 1, _ =>
      rw [E4_1_eq, show decide ((i : Int) < (out.length : Int)) = false by simp; omega]; rfl
  | succ d ih =>
    intro i j h0 h1 h3
    match j, h3 with
    | j + 1, h3 =>
      have hlt : i < out.length := by omega
      have hlt' : i - 1 < out.length := by omega
      have := ih (i + 1) j (by omega) (by omega) (by omega)
      rw [show (((i + 1 : Nat)) : Int) = (i : Int) + 1 by omega] at this
      rw [E4_1_eq, lt_nat hlt, inb_nat hlt, wrap_nat (by omega), wrap_le (x := (i : Int) - 1) (by omega) (by omega), show (i : Int) - 1 = ((i - 1 : Nat) : Int) by omega, inb_nat hlt']
      simp only [cond_true]
      rw [rd_get (e := T31) hlt, rd_get (e := T31) hlt']
      have h20 := F20_spec (k := k) out[i - 1] out[i]
      rw [List.pairwise_iff_getElem.1 hs (i - 1) i hlt' hlt (by omega)] at h20
      exact ob h20 this
theorem F21_self {k : Nat} (hk : MX < k) {e f : Ev} (he : EvOk e) (hf : EvOk f) : ∃ b : Bool, F21 k (e, f, ()) = some ((b, ()), ()) ∧ (e = f → b = true) := by
  have h2 : e.2.2.2.2.length ≤ MX := he.2
  have hk0 : MX = 140737488351232 := rfl
  have h32 : ∃ b : Bool, F32 k (e.2.2.2.2, f.2.2.2.2, ()) = some ((b, ()), ()) := by
    rw [F32_eq]
    by_cases hd : ((e.2.2.2.2.length : Nat) : Int) = (f.2.2.2.2.length : Nat)
    · have hd' : e.2.2.2.2.length = f.2.2.2.2.length := by omega
      have hE : E32_0 k k (e.2.2.2.2, f.2.2.2.2, 0, ()) = some (bif anyR (fun i => !(decide ((rd ((Ty.i IntKind.i64).p ((Ty.i IntKind.i64).p Ty.s)) e.2.2.2.2 (i : Int)).fst = (rd ((Ty.i IntKind.i64).p ((Ty.i IntKind.i64).p Ty.s)) f.2.2.2.2 (i : Int)).fst) && (decide ((rd ((Ty.i IntKind.i64).p ((Ty.i IntKind.i64).p Ty.s)) e.2.2.2.2 (i : Int)).snd.fst = (rd ((Ty.i IntKind.i64).p ((Ty.i IntKind.i64).p Ty.s)) f.2.2.2.2 (i : Int)).snd.fst) && (decide ((rd ((Ty.i IntKind.i64).p ((Ty.i IntKind.i64).p Ty.s)) e.2.2.2.2 (i : Int)).snd.snd = (rd ((Ty.i IntKind.i64).p ((Ty.i IntKind.i64).p Ty.s)) f.2.2.2.2 (i : Int)).snd.snd) && true)))) 0 e.2.2.2.2.length then Sum.inr (Sum.inl (false, ())) else Sum.inl ()) := by
        refine scan0 (E := fun j i => E32_0 k j (e.2.2.2.2, f.2.2.2.2, i, ())) (fun j i hi => ?_) (fun j => ?_) (by omega)
        · dsimp only
          rw [E32_0_eq, lt_nat hi, inb_nat hi, inb_nat (by omega), wrap_nat (by omega)]
          simp only [cond_true]
        · dsimp only
          rw [E32_0_eq, nlt_nat]; rfl
      rw [decide_eq_true hd]
      generalize hz : anyR _ 0 _ = z at hE
      cases z with
      | true => exact ⟨false, ob hE rfl⟩
      | false => exact ⟨true, ob hE rfl⟩
    · rw [decide_eq_false hd]
      exact ⟨false, rfl⟩
  by_cases hef : e = f
  · subst hef; exact ⟨true, F21_same hk he, fun _ => rfl⟩
  · obtain ⟨b, hb⟩ := h32
    rw [F21_eq]
    dsimp only
    generalize (bif bif bif decide (e.1 = f.1) then decide (e.2.1 = f.2.1) else false then decide (e.2.2.1 = f.2.2.1) else false then decide (e.2.2.2.1 = f.2.2.2.1) else false) = t
    cases t with
    | true => exact ⟨b, ob hb rfl, fun h => absurd h hef⟩
    | false => exact ⟨false, rfl, fun h => absurd h hef⟩
theorem E420_spec {k : Nat} (hk : MX < k) {out inn : List Ev} (ho : ∀ a, a ∈ out → EvOk a) (hi : ∀ a, a ∈ inn → EvOk a) (hl : out.length ≤ 1000000) (up : Bool) {m : Nat} (hm : m < inn.length) : ∀ (d i j : Nat) (b : Bool), i ≤ out.length → out.length - i = d → d < j →
    ((inn[m] ∈ out.drop i) ∨ b = true → E4_2_0 k j (up, out, inn, (m : Int), b, (i : Int), ()) = some (Sum.inl (up, out, inn, (m : Int), true, ()))) := by
  intro d
  induction d with
  | zero =>
    intro i j b h0 h1 h3 hq
    have : i = out.length := by omega
    subst this
    match j, h3 with
    | j + 1, _ =>
      rw [E4_2_0_eq, nlt_nat]
      rcases hq with hq | hq
      · rw [List.drop_length] at hq; cases hq
      · subst hq; rfl
  | succ d ih =>
    intro i j b h0 h1 h3 hq
    match j, h3 with
    | j + 1, h3 =>
      have hlt : i < out.length := by omega
      have ih' := fun b hq => ih (i + 1) j b (by omega) (by omega) (by omega) hq
      simp only [show (((i + 1 : Nat)) : Int) = (i : Int) + 1 by omega] at ih'
      rw [E4_2_0_eq, lt_nat hlt, inb_nat hlt, inb_nat hm, wrap_nat (by omega)]
      simp only [cond_true]
      cases b with
      | true => exact ih' true (.inr rfl)
      | false =>
        simp only [Bool.not_false, cond_true, cond_false]
        rw [rd_get (e := T31) hlt, rd_get (e := T31) hm]
        obtain ⟨c, g1, g2⟩ := F21_self hk (hi _ (List.getElem_mem hm)) (ho _ (List.getElem_mem hlt))
        refine ob g1 ?_
        refine ih' c ?_
        rcases hq with hq | hq
        · rw [List.drop_eq_getElem_cons hlt] at hq
          rcases List.mem_cons.1 hq with hq | hq
          · exact .inr (g2 hq)
          · exact .inl hq
        · cases hq
theorem E42_spec {k : Nat} (hk : MX < k) {out inn : List Ev} (ho : ∀ a, a ∈ out → EvOk a) (hi : ∀ a, a ∈ inn → EvOk a) (hin : ∀ a, a ∈ inn → a ∈ out) (hl : out.length ≤ 1000000) (hl' : inn.length ≤ 1000000) (up : Bool) : ∀ (d i j : Nat), i ≤ inn.length → inn.length - i = d → d < j →
    E4_2 k j (up, out, inn, (i : Int), ()) = some (Sum.inl (up, ())) := by
  intro d
  induction d with
  | zero =>
    intro i j h0 h1 h3
    have : i = inn.length := by omega
    subst this
    match j, h3 with
    | j + 1, _ => rw [E4_2_eq, nlt_nat]; rfl
  | succ d ih =>
    intro i j h0 h1 h3
    match j, h3 with
    | j + 1, h3 =>
      have hlt : i < inn.length := by omega
      have := ih (i + 1) j (by omega) (by omega) (by omega)
      rw [show (((i + 1 : Nat)) : Int) = (i : Int) + 1 by omega] at this
      have hE := E420_spec hk ho hi hl up hlt out.length 0 k false (by omega) (by omega) (by simp only [MX] at hk; omega) (.inl (by rw [List.drop_zero]; exact hin _ (List.getElem_mem hlt)))
      rw [E4_2_eq, lt_nat hlt]
      simp only [cond_true]
      refine ob hE ?_
      dsimp only
      rw [wrap_nat (by omega)]
      exact this
theorem PureOrderOne (x : shsDen (argSh [T22])) (hok : okAll [T22] x) : ∃ k z, F4 k x = some ((true, ()), z) := by
  obtain ⟨l, u⟩ := x
  obtain ⟨ok1, _⟩ := hok
  have hl : OpsOk l := ops_ok ok1
  refine ⟨MX + 3000, (), ?_⟩
  generalize hkk : MX + 3000 = k
  have hk : MX < k := by omega
  have hM := hl.1
  have hk0 : MX = 140737488351232 := rfl
  show F4 k (l, ()) = _
  rw [F4_eq]
  refine ob (head_at hk) ?_
  refine ob (F9_eq k) ?_
  obtain ⟨b, h11, h600⟩ := F11_total hk hl
  simp only [Bool.not_false, cond_true]
  refine ob h11 ?_
  dsimp only
  cases b with
  | true => rfl
  | false =>
    have h600 := h600 rfl
    obtain ⟨L', out, inn, t', g1, g3, g2⟩ := E4_spec hk hl h600 true l.length 0 k [] [] [] (-1) ⟨Bf.nil, ⟨by omega, by omega⟩, List.Pairwise.nil, (fun a h => by cases h), (fun a h => by cases h), (fun a h => by cases h), rfl, (fun a h => by cases h), (fun a h => by cases h), (fun a h => by cases h)⟩ (Nat.zero_le _) (by omega) (by omega) (by omega)
    simp only [cond_false]
    refine ob g2 ?_
    dsimp only
    refine ob (F12_spec g1.bf t' 1099511627776) ?_
    dsimp only
    have hA := g1.adv 1099511627776
    have hAl := hA.len
    rw [List.length_append] at hAl
    have ht := g1.tm
    have e2 : (advB L' t' 1099511627776).2.1 = 0 ∧ (advB L' t' 1099511627776).2.2.2 = 1099511627776 := by
      unfold advB
      rw [show (decide ((1099511627776 : Int) < 0) || decide ((1099511627776 : Int) < 1099511627776)) = false by decide, show decide ((1099511627776 : Int) < t') = false from decide_eq_false (by have := ht.2; omega)]
      exact ⟨rfl, rfl⟩
    have e3 : (advB L' t' 1099511627776).2.2.1 = [] := by
      have hgt := hA.gt
      have hmx := hA.mx
      rw [e2.2] at hgt
      generalize (advB L' t' 1099511627776).2.2.1 = q at hgt hmx
      cases q with
      | nil => rfl
      | cons a r =>
        have := hgt a (List.mem_cons_self ..)
        have := hmx a (List.mem_cons_self ..)
        omega
    rw [e3, List.length_nil] at hAl
    have hAm : ∀ a, a ∈ inn → a ∈ out ++ (advB L' t' 1099511627776).1 := fun a ha => by
      rcases hA.mem a ha with g | g
      · exact g
      · rw [e3] at g; cases g
    have hlen : (out ++ (advB L' t' 1099511627776).1).length = inn.length := by rw [List.length_append]; omega
    rw [CAPE (by omega)]
    rw [decide_eq_true e2.1, decide_eq_true (show (((out ++ (advB L' t' 1099511627776).1).length : Nat) : Int) = (inn.length : Int) by rw [hlen])]
    simp only [Bool.not_true, cond_false, Bool.not_false, cond_true]
    refine ob (F19_spec hA.bf _) ?_
    dsimp only
    rw [decide_eq_true (show (((advB L' t' 1099511627776).2.2.1.length : Nat) : Int) = 0 by rw [e3]; rfl)]
    simp only [Bool.not_true, cond_false]
    have hE1 := E4_1_spec (k := k) (inn := inn) hA.so (by omega) true (out ++ (advB L' t' 1099511627776).1).length 1 k (Nat.le_refl _)
    have hE1 := E4_1_spec (k := k) (inn := inn) hA.so (by omega) true ((out ++ (advB L' t' 1099511627776).1).length - 1) 1 k (Nat.le_refl _) rfl (by omega)
    refine ob hE1 ?_
    dsimp only
    refine ob (E42_spec hk hA.oko hA.oki hAm (by omega) (by omega) true inn.length 0 k (Nat.zero_le _) rfl (by omega)) ?_
    rfl
end Go.Pv.L06
