/- Layer 06, plainly: Put and Advance, the program's and the document's. -/
import Derived.Test.YtfnhnkaikpgnbaaPvC06
namespace Go.Pv.L06
open Go Go.Pv Go.Proofs
set_option linter.all false
set_option linter.constructorNameAsVariable false
set_option linter.unusedSectionVars false
set_option linter.unusedVariables false
set_option linter.unusedSimpArgs false
/-- Events with one more. -/
def insR : List Ev → Ev → List Ev
  | [], e => [e]
  | a :: r, e => bif lessB e a then e :: a :: r else a :: insR r e
theorem insR_mem {e x : Ev} : ∀ {l : List Ev}, x ∈ insR l e ↔ x = e ∨ x ∈ l
  | [] => by simp [insR]
  | a :: r => by
    unfold insR
    cases lessB e a with
    | true => simp
    | false =>
      simp only [cond_false, List.mem_cons, insR_mem (l := r)]
      constructor
      · rintro (h | h | h)
        · exact .inr (.inl h)
        · exact .inl h
        · exact .inr (.inr h)
      · rintro (h | h | h)
        · exact .inr (.inl h)
        · exact .inl h
        · exact .inr (.inr h)
theorem insR_len (e : Ev) : ∀ l : List Ev, (insR l e).length = l.length + 1
  | [] => rfl
  | a :: r => by
    unfold insR
    cases lessB e a with
    | true => rfl
    | false => simp only [cond_false, List.length_cons, insR_len e r]
theorem insR_srt {e : Ev} : ∀ {l : List Ev}, Srt l → thereB l e = false → Srt (insR l e)
  | [], _, _ => List.pairwise_singleton _ _
  | a :: r, hs, ht => by
    obtain ⟨h1, h2⟩ := List.pairwise_cons.1 hs
    have ht' : sameK a e = false ∧ thereB r e = false := by
      unfold thereB at ht
      rw [List.any_cons, Bool.or_eq_false_iff] at ht
      exact ht
    unfold insR
    cases hea : lessB e a with
    | true =>
      refine List.pairwise_cons.2 ⟨fun b hb => ?_, hs⟩
      rcases List.mem_cons.1 hb with rfl | hb
      · exact hea
      · exact less_tr hea (h1 b hb)
    | false =>
      refine List.pairwise_cons.2 ⟨fun b hb => ?_, insR_srt h2 ht'.2⟩
      rcases insR_mem.1 hb with rfl | hb
      · have := ht'.1
        unfold sameK at this
        rw [hea] at this
        simpa using this
      · exact h1 b hb
theorem insR_pos {e : Ev} : ∀ {l : List Ev}, thereB l e = false → l.take (posOf l e) ++ [e] ++ l.drop (posOf l e) = insR l e
  | [], _ => rfl
  | a :: r, ht => by
    have ht' : sameK a e = false ∧ thereB r e = false := by
      unfold thereB at ht
      rw [List.any_cons, Bool.or_eq_false_iff] at ht
      exact ht
    rw [posOf_cons]
    unfold insR
    have h3 := ht'.1
    unfold sameK at h3
    cases hae : lessB a e with
    | true =>
      rw [less_asym hae]
      simp only [cond_true, cond_false, List.take_succ_cons, List.drop_succ_cons, List.cons_append]
      rw [← insR_pos ht'.2]
    | false =>
      rw [hae] at h3
      have : lessB e a = true := by simpa using h3
      rw [this]
      exact rfl

/-- What a Put answers, and what there is behind it. -/
def putB (l : List Ev) (t : Int) (e : Ev) : Int × List Ev :=
  bif !rightE e then (1, l) else bif decide (e.1 ≤ t) then (61, l) else bif thereB l e then (151, l) else bif decide (l.length = 256) then (2, l) else (0, insR l e)
structure Bf (l : List Ev) : Prop where
  srt : Srt l
  len : l.length ≤ 256
  ok : ∀ a, a ∈ l → EvOk a
theorem Bf.nil : Bf [] := ⟨List.Pairwise.nil, Nat.zero_le _, fun a h => by cases h⟩
theorem Bf.put {l : List Ev} (h : Bf l) (t : Int) {e : Ev} (he : EvOk e) : Bf (putB l t e).2 := by
  unfold putB
  cases rightE e with
  | false => exact h
  | true =>
    cases decide (e.1 ≤ t) with
    | true => exact h
    | false =>
      cases ht : thereB l e with
      | true => exact h
      | false =>
        cases hd : decide (l.length = 256) with
        | true => exact h
        | false =>
          have hd : ¬ l.length = 256 := by simpa using hd
          simp only [Bool.not_true, cond_false]
          refine ⟨insR_srt h.srt ht, ?_, fun a ha => ?_⟩
          · rw [insR_len]; have := h.len; omega
          · rcases insR_mem.1 ha with rfl | ha
            · exact he
            · exact h.ok a ha
theorem rightE_len {e : Ev} (h : rightE e = true) : e.2.2.2.2.length ≤ 8 := by
  unfold rightE at h
  simp only [Bool.and_eq_true, decide_eq_true_eq] at h
  obtain ⟨_, _, _, _, n8, _⟩ := h
  exact Int.ofNat_le.1 n8
theorem F15_spec {k : Nat} (hk : MX < k) {l : List Ev} (hl : Bf l) (t : Int) {e : Ev} (he : EvOk e) : F15 k ((l, t, ()), e, ()) = some (((putB l t e).1, ()), ((putB l t e).2, t, ()), ()) := by
  obtain ⟨r, h25, hr⟩ := F25_spec hk he
  have hlen := hl.len
  have h26 := F26_spec (k := k) (e := e) hl.srt (by omega) (by simp only [MX] at hk; omega)
  rw [F15_eq]
  refine ob h25 ?_
  dsimp only
  rw [hr]
  unfold putB
  cases hre : rightE e with
  | false => rfl
  | true =>
    simp only [Bool.not_true, cond_false]
    refine ob h26 ?_
    dsimp only
    cases decide (e.1 ≤ t) with
    | true => rfl
    | false =>
      simp only [cond_false]
      cases ht : thereB l e with
      | true => rfl
      | false =>
        simp only [cond_false]
        rw [show decide ((l.length : Int) = 256) = decide (l.length = 256) by simp; omega]
        cases hd : decide (l.length = 256) with
        | true => rfl
        | false =>
          have hd : ¬ l.length = 256 := by simpa using hd
          have h8 := rightE_len hre
          have hp := posOf_le l e
          have e28 : F28 k (e.2.2.2.2, ()) = some ((e.2.2.2.2, ()), ()) := by
            show (bif decide (e.2.2.2.2.length * 32 ≤ 140737488355328) then some ((e.2.2.2.2, ()), ()) else none) = _
            rw [decide_eq_true (by omega)]; rfl
          have e29 : F29 k (l, (posOf l e : Int), [(e.1, e.2.1, e.2.2.1, e.2.2.2.1, e.2.2.2.2)], ()) = some ((insR l e, ()), ()) := by
            unfold F29 insF
            dsimp only
            rw [← insR_pos ht, show decide ((0 : Int) ≤ (posOf l e : Int)) = true from decide_eq_true (by omega), show decide ((posOf l e : Int) ≤ (l.length : Int)) = true from decide_eq_true (by omega), show decide ((l.length + 1) * 64 ≤ 140737488355328) = true from decide_eq_true (by omega)]
            rfl
          simp only [cond_false]
          refine ob e28 ?_
          refine ob e29 ?_
          rfl

/-! ### the document's -/
theorem CAPE {n : Nat} (h : n ≤ 1000000) : decide (n * (63 + 1) ≤ 140737488355328) = true := decide_eq_true (by omega)
theorem E31_done {k : Nat} {l : List Ev} {e : Ev} (hl : l.length ≤ 1000) : ∀ (d i j : Nat) (out : List Ev), l.length - i = d → i ≤ l.length → d < j → out.length + d ≤ 5000 →
    E31_0 k j (l, (e, ()), out, true, (i : Int), ()) = some (Sum.inl ((e, ()), out ++ l.drop i, true, ())) := by
  intro d
  induction d with
  | zero =>
    intro i j out h1 h2 h3 h4
    have : i = l.length := by omega
    subst this
    match j, h3 with
    | j + 1, _ =>
      rw [E31_0_eq, nlt_nat, List.drop_length, List.append_nil]; rfl
  | succ d ih =>
    intro i j out h1 h2 h3 h4
    match j, h3 with
    | j + 1, h3 =>
      have hlt : i < l.length := by omega
      rw [E31_0_eq, lt_nat hlt, inb_nat hlt, wrap_nat (by omega)]
      simp only [cond_true, cond_false, Bool.not_true, Option.bind_some]
      rw [rd_get (e := T31) hlt, CAPE (by simp only [List.length_cons, List.length_nil]; omega)]
      simp only [cond_true]
      have := ih (i + 1) j (out ++ [l[i]]) (by omega) (by omega) (by omega) (by simp only [List.length_append, List.length_cons, List.length_nil]; omega)
      rw [show (((i + 1 : Nat)) : Int) = (i : Int) + 1 by omega] at this
      rw [List.drop_eq_getElem_cons hlt]
      simpa using this
theorem E31_ins {k : Nat} {l : List Ev} {e : Ev} (hl : l.length ≤ 1000) : ∀ (d i j : Nat) (out : List Ev), l.length - i = d → i ≤ l.length → d < j → out.length + d ≤ 3000 →
    ∃ (o : List Ev) (b : Bool), E31_0 k j (l, (e, ()), out, false, (i : Int), ()) = some (Sum.inl ((e, ()), o, b, ())) ∧ (bif b then o else o ++ [e]) = out ++ insR (l.drop i) e ∧ o.length ≤ out.length + d + 1 := by
  intro d
  induction d with
  | zero =>
    intro i j out h1 h2 h3 h4
    have : i = l.length := by omega
    subst this
    match j, h3 with
    | j + 1, _ =>
      rw [E31_0_eq, nlt_nat, List.drop_length]
      exact ⟨out, false, rfl, rfl, by omega⟩
  | succ d ih =>
    intro i j out h1 h2 h3 h4
    match j, h3 with
    | j + 1, h3 =>
      have hlt : i < l.length := by omega
      rw [E31_0_eq, lt_nat hlt, inb_nat hlt, wrap_nat (by omega)]
      simp only [cond_true, cond_false, Bool.not_false]
      rw [rd_get (e := T31) hlt, List.drop_eq_getElem_cons hlt]
      have h20 := F20_spec (k := k) e l[i]
      unfold insR
      cases hb : lessB e l[i] with
      | true =>
        rw [hb] at h20
        have := E31_done (k := k) (e := e) hl d (i + 1) j (out ++ [e] ++ [l[i]]) (by omega) (by omega) (by omega) (by simp only [List.length_append, List.length_cons, List.length_nil]; omega)
        rw [show (((i + 1 : Nat)) : Int) = (i : Int) + 1 by omega] at this
        refine ⟨out ++ [e] ++ [l[i]] ++ l.drop (i + 1), true, ob h20 ?_, ?_, ?_⟩
        · dsimp only
          rw [CAPE (by simp only [List.length_cons, List.length_nil]; omega)]
          simp only [cond_true]
          rw [CAPE (by simp only [List.length_append, List.length_cons, List.length_nil]; omega)]
          exact this
        · simp
        · simp only [List.length_append, List.length_cons, List.length_nil, List.length_drop]; omega
      | false =>
        rw [hb] at h20
        obtain ⟨o, b, g1, g2, g3⟩ := ih (i + 1) j (out ++ [l[i]]) (by omega) (by omega) (by omega) (by simp only [List.length_append, List.length_cons, List.length_nil]; omega)
        rw [show (((i + 1 : Nat)) : Int) = (i : Int) + 1 by omega] at g1
        refine ⟨o, b, ob h20 ?_, ?_, ?_⟩
        · dsimp only
          simp only [cond_false]
          rw [CAPE (by simp only [List.length_cons, List.length_nil]; omega)]
          exact g1
        · rw [g2]; simp
        · simp only [List.length_append, List.length_cons, List.length_nil] at g3; omega
theorem F31_spec {k : Nat} {l : List Ev} (hl : l.length ≤ 1000) (hk : l.length < k) (e : Ev) : F31 k (l, e, ()) = some ((insR l e, ()), ()) := by
  obtain ⟨o, b, h1, h2, h3⟩ := E31_ins (k := k) (e := e) hl l.length 0 k [] (by omega) (by omega) hk (by simp; omega)
  rw [F31_eq]
  refine ob h1 ?_
  simp only [List.length_nil, List.drop_zero, List.nil_append] at h2 h3
  cases b with
  | true =>
    simp only [cond_true] at h2
    rw [← h2]; rfl
  | false =>
    simp only [cond_false] at h2
    dsimp only
    simp only [Bool.not_false, cond_true]
    rw [CAPE (by simp only [List.length_cons, List.length_nil]; omega), ← h2]; rfl
theorem anyR_list {l : List Ev} {p : Ev → Bool} : anyR (fun i => p (evAt l i)) 0 l.length = l.any p := by
  rw [Bool.eq_iff_iff, anyR_iff, List.any_eq_true]
  constructor
  · rintro ⟨m, _, h1, h2⟩
    rw [evAt_get h1] at h2
    exact ⟨_, List.getElem_mem h1, h2⟩
  · rintro ⟨a, ha, h⟩
    obtain ⟨i, hi, rfl⟩ := List.mem_iff_getElem.1 ha
    exact ⟨i, Nat.zero_le _, hi, by rw [evAt_get hi]; exact h⟩
theorem F16_spec {k : Nat} (hk : MX < k) {l : List Ev} (hl : Bf l) (t : Int) {e : Ev} (he : EvOk e) : F16 k ((l, t + 1, ()), e, ()) = some (((putB l t e).1, ()), ((putB l t e).2, t + 1, ()), ()) := by
  have h30 := F30_spec hk he
  have hlen := hl.len
  have hE : E16_0 k k ((l, t + 1, ()), (e, ()), 0, ()) = some (bif thereB l e then Sum.inr (Sum.inl ((l, t + 1, ()), 151, ())) else Sum.inl ((l, t + 1, ()), (e, ()), ())) := by
    have := scan0 (E := fun j i => E16_0 k j ((l, t + 1, ()), (e, ()), i, ())) (n := l.length) (p := fun i => sameK (evAt l i) e) (a := Sum.inr (Sum.inl ((l, t + 1, ()), 151, ()))) (b := Sum.inl ((l, t + 1, ()), (e, ()), ())) (k := k) (fun j i hi => ?_) (fun j => ?_) (by simp only [MX] at hk; omega)
    · rw [anyR_list (p := fun a => sameK a e)] at this
      exact this
    · dsimp only
      rw [E16_0_eq, lt_nat hi, inb_nat hi, wrap_nat (by omega)]
      simp only [cond_true]
      rw [rd_get (e := T31) hi, evAt_get hi, sameK_comm]
      unfold sameK
      refine ob (F20_spec _ _) ?_
      dsimp only
      cases lessB e l[i] with
      | true => rfl
      | false =>
        simp only [Bool.not_false, cond_true]
        refine ob (F20_spec _ _) ?_
        dsimp only
        cases lessB l[i] e <;> rfl
    · dsimp only
      rw [E16_0_eq, nlt_nat]; rfl
  rw [F16_eq]
  unfold putB
  cases hr : rightE e with
  | false =>
    rw [hr] at h30
    exact ob h30 rfl
  | true =>
    rw [hr] at h30
    refine ob h30 ?_
    dsimp only
    simp only [Bool.not_true, cond_false]
    have e1 : decide (e.1 < t + 1) = decide (e.1 ≤ t) := decide_eq_decide.2 (Int.lt_add_one_iff)
    rw [e1]
    cases decide (e.1 ≤ t) with
    | true => rfl
    | false =>
      simp only [cond_false]
      refine ob hE ?_
      cases thereB l e with
      | true => rfl
      | false =>
        simp only [cond_false]
        rw [show decide ((256 : Int) ≤ (l.length : Int)) = decide (l.length = 256) by simp; omega]
        cases decide (l.length = 256) with
        | true => rfl
        | false =>
          simp only [cond_false]
          exact ob (F31_spec (k := k) (by omega) (by simp only [MX] at hk; omega) e) rfl

/-! ### Advance -/
/-- What an Advance tells, what it answers, and what there is behind it. -/
def advB (l : List Ev) (t x : Int) : List Ev × Int × List Ev × Int :=
  bif decide (x < 0) || decide (1099511627776 < x) then ([], 1, l, t) else bif decide (x < t) then ([], 61, l, t) else
  (l.filter (fun e => decide (e.1 ≤ x)), 0, l.filter (fun e => !decide (e.1 ≤ x)), x)
theorem due_filter {x : Int} : ∀ {l : List Ev}, Srt l → dueOf l x = l.filter (fun e => decide (e.1 ≤ x)) ∧ l.drop (dueOf l x).length = l.filter (fun e => !decide (e.1 ≤ x))
  | [], _ => ⟨rfl, rfl⟩
  | a :: l, hs => by
    obtain ⟨h1, h2⟩ := List.pairwise_cons.1 hs
    obtain ⟨g1, g2⟩ := due_filter (x := x) h2
    unfold dueOf at g1 g2 ⊢
    rw [List.takeWhile_cons, List.filter_cons, List.filter_cons]
    by_cases ha : decide (a.1 ≤ x) = true
    · simp only [ha, if_true, Bool.not_true, Bool.false_eq_true, if_false]
      exact ⟨by rw [g1], by simpa using g2⟩
    · have ha' : decide (a.1 ≤ x) = false := by simpa using ha
      have all : ∀ b, b ∈ l → decide (b.1 ≤ x) = false := by
        intro b hb
        have := lessB_iff.1 (h1 b hb)
        have hq : ¬ k0 a ≤ x := by
          intro hc
          exact ha (decide_eq_true hc)
        exact decide_eq_false (fun hc : k0 b ≤ x => by omega)
      have f1 : l.filter (fun e => decide (e.1 ≤ x)) = [] := List.filter_eq_nil_iff.2 fun b hb => by simp only [all b hb]; decide
      have f2 : l.filter (fun e => !decide (e.1 ≤ x)) = l := List.filter_eq_self.2 fun b hb => by simp only [all b hb]; rfl
      simp only [ha', Bool.false_eq_true, if_false, Bool.not_false, if_true, f1, f2]
      exact ⟨trivial, rfl⟩
theorem Bf.adv {l : List Ev} (h : Bf l) (t x : Int) : Bf (advB l t x).2.2.1 := by
  unfold advB
  cases decide (x < 0) || decide (1099511627776 < x) with
  | true => exact h
  | false =>
    cases decide (x < t) with
    | true => exact h
    | false => exact ⟨h.srt.filter _, Nat.le_trans (List.length_filter_le _ _) h.len, fun a ha => h.ok a ((List.mem_filter.1 ha).1)⟩
theorem F12_spec {k : Nat} {l : List Ev} (hl : Bf l) (t x : Int) : F12 k ((l, t, ()), x, ()) = some (((advB l t x).1, (advB l t x).2.1, ()), ((advB l t x).2.2.1, (advB l t x).2.2.2, ()), ()) := by
  obtain ⟨g1, g2⟩ := due_filter (x := x) hl.srt
  have hlen := hl.len
  unfold F12 advF advB
  dsimp only
  rw [g2, g1]
  cases decide (x < 0) with
  | true => rfl
  | false =>
    cases decide (1099511627776 < x) with
    | true => rfl
    | false =>
      cases decide (x < t) with
      | true => rfl
      | false =>
        rw [decide_eq_true (show l.length * 64 ≤ 140737488355328 by omega)]; rfl
theorem E13_spec {k : Nat} {l : List Ev} {t x : Int} (hl : l.length ≤ 1000) : ∀ (d i j : Nat) (out left : List Ev), l.length - i = d → i ≤ l.length → d < j → out.length + d ≤ 5000 → left.length + d ≤ 5000 →
    E13_0 k j ((l, t, ()), x, out, left, (i : Int), ()) = some (Sum.inl ((l, t, ()), x, out ++ (l.drop i).filter (fun e => decide (e.1 ≤ x)), left ++ (l.drop i).filter (fun e => !decide (e.1 ≤ x)), ())) := by
  intro d
  induction d with
  | zero =>
    intro i j out left h1 h2 h3 h4 h5
    have : i = l.length := by omega
    subst this
    match j, h3 with
    | j + 1, _ =>
      rw [E13_0_eq, nlt_nat, List.drop_length]
      simp only [List.filter_nil, List.append_nil]; rfl
  | succ d ih =>
    intro i j out left h1 h2 h3 h4 h5
    match j, h3 with
    | j + 1, h3 =>
      have hlt : i < l.length := by omega
      rw [E13_0_eq, lt_nat hlt, inb_nat hlt, wrap_nat (by omega)]
      simp only [cond_true]
      rw [rd_get (e := T31) hlt, List.drop_eq_getElem_cons hlt, List.filter_cons, List.filter_cons]
      cases hb : decide (l[i].1 ≤ x) with
      | true =>
        have := ih (i + 1) j (out ++ [l[i]]) left (by omega) (by omega) (by omega) (by simp only [List.length_append, List.length_cons, List.length_nil]; omega) (by omega)
        rw [show (((i + 1 : Nat)) : Int) = (i : Int) + 1 by omega] at this
        simp only [cond_true]
        rw [CAPE (by simp only [List.length_cons, List.length_nil]; omega)]
        simp only [cond_true, if_true, Bool.not_true, Bool.false_eq_true, if_false]
        simpa using this
      | false =>
        have := ih (i + 1) j out (left ++ [l[i]]) (by omega) (by omega) (by omega) (by omega) (by simp only [List.length_append, List.length_cons, List.length_nil]; omega)
        rw [show (((i + 1 : Nat)) : Int) = (i : Int) + 1 by omega] at this
        simp only [cond_false]
        rw [CAPE (by simp only [List.length_cons, List.length_nil]; omega)]
        simp only [cond_true, if_true, Bool.not_false, Bool.false_eq_true, if_false]
        simpa using this
theorem F13_spec {k : Nat} (hk : 1000 < k) {l : List Ev} (hl : Bf l) (t x : Int) : F13 k ((l, t + 1, ()), x, ()) = some (((advB l t x).1, (advB l t x).2.1, ()), ((advB l t x).2.2.1, (advB l t x).2.2.2 + 1, ()), ()) := by
  have hlen := hl.len
  have hE := E13_spec (k := k) (t := t + 1) (x := x) (l := l) (by omega) l.length 0 k [] [] (by omega) (by omega) (by omega) (by simp; omega) (by simp; omega)
  rw [F13_eq]
  unfold advB
  rw [bif_or]
  cases hb : decide (x < 0) || decide (1099511627776 < x) with
  | true => rfl
  | false =>
    rw [Bool.or_eq_false_iff, decide_eq_false_iff_not, decide_eq_false_iff_not] at hb
    simp only [cond_false]
    rw [wrap_le (x := x + 1) (by omega) (by omega), show decide (x + 1 < t + 1) = decide (x < t) from decide_eq_decide.2 (by omega)]
    cases decide (x < t) with
    | true => rfl
    | false =>
      simp only [cond_false]
      refine ob hE ?_
      dsimp only
      simp only [List.drop_zero, List.nil_append]
      rw [wrap_le (x := x + 1) (by omega) (by omega)]
      rfl
end Go.Pv.L06
