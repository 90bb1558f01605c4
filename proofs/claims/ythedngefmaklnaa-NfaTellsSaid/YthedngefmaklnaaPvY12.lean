/- Layer 12, plainly: what the document accepts. -/
import Derived.Test.YthedngefmaklnaaPvX12
namespace Go.Pv.L12
open Go Go.Pv Go.Proofs
set_option linter.all false
set_option linter.constructorNameAsVariable false
set_option linter.unusedSectionVars false
set_option linter.unusedVariables false
set_option linter.unusedSimpArgs false

def flag (l : List Bool) (i : Nat) : Bool := l.getD i false
theorem flag_set {l : List Bool} {i t : Nat} (hi : i < l.length) : flag (l.set i true) t = true ↔ flag l t = true ∨ t = i := by
  unfold flag
  rw [List.getD_eq_getElem?_getD, List.getD_eq_getElem?_getD, List.getElem?_set]
  by_cases h : i = t
  · subst h
    rw [if_pos rfl, if_pos hi]
    simp
  · rw [if_neg h]
    constructor
    · exact .inl
    · rintro (e | e)
      · exact e
      · exact absurd e.symm h
theorem flag_lt {l : List Bool} {t : Nat} (h : flag l t = true) : t < l.length := by
  rcases Nat.lt_or_ge t l.length with q | q
  · exact q
  · unfold flag at h
    rw [List.getD_eq_getElem?_getD, List.getElem?_eq_none q] at h
    cases h
theorem flag_rep {n t : Nat} : flag (List.replicate n false) t = false := by
  unfold flag
  rw [List.getD_eq_getElem?_getD, List.getElem?_replicate]
  split <;> rfl

theorem E16_0_0_0_spec {k : Nat} {q : Qry} (hq : QOk k q) {sts : List Sta} (hs : StOk q.1 sts) (hql : q.1.length < sts.length) {names : List ByteArray} {m : Nat} (hm : m < names.length) {here : List Bool} (hh : here.length = sts.length) {i : Nat} (hi : i < sts.length) :
    ∀ (d t j : Nat) (next : List Bool), (staAt sts i).1.length - t = d → t ≤ (staAt sts i).1.length → d < j → next.length = sts.length →
      ∃ next', E16_0_0_0 k j (names, (q, ()), sts, here, (m : Int), next, (i : Int), (t : Int), ()) = some (Sum.inl (names, (q, ()), sts, here, (m : Int), next', (i : Int), ())) ∧ next'.length = sts.length ∧
        ∀ u, flag next' u = true ↔ flag next u = true ∨ (flag here i = true ∧ ∃ x, x ∈ (staAt sts i).1.drop t ∧ hasB (itmAt q.1 x.toNat).2.1 (names.getD m ByteArray.empty) = true ∧ u = x.toNat + 1) := by
  have hmem : staAt sts i ∈ sts := by
    unfold staAt
    rw [List.getD_eq_getElem?_getD, List.getElem?_eq_getElem hi]
    exact List.getElem_mem hi
  obtain ⟨c1, c2⟩ := hs.2 _ hmem
  have hst : rd ((Ty.i IntKind.i64).l.p ((Ty.i IntKind.i64).l.p Ty.b)) sts (i : Int) = staAt sts i := rd_nat sts i
  have hfl : rd Ty.b here (i : Int) = flag here i := rd_nat (e := .b) here i
  intro d
  induction d with
  | zero =>
    intro t j next h1 h2 h3 h4
    have : t = (staAt sts i).1.length := by omega
    subst this
    match j, h3 with
    | j + 1, _ =>
      refine ⟨next, ?_, h4, fun u => ?_⟩
      · rw [E16_0_0_0_eq, inb_nat (by omega), hst, hfl, nlt_nat, inb_nat hi]
        cases flag here i <;> rfl
      · rw [List.drop_length]
        simp
  | succ d ih =>
    intro t j next h1 h2 h3 h4
    match j, h3 with
    | j + 1, h3 =>
      have ht : t < (staAt sts i).1.length := by omega
      cases hf : flag here i with
      | false =>
        refine ⟨next, ?_, h4, fun u => ?_⟩
        · rw [E16_0_0_0_eq, inb_nat (by omega), hst, hfl, hf]
          rfl
        · simp
      | true =>
        obtain ⟨x0, xl⟩ := c2 _ (List.getElem_mem ht)
        obtain ⟨x, hx⟩ : ∃ x : Nat, (staAt sts i).1[t] = (x : Int) := Int.eq_ofNat_of_zero_le x0
        have hxl : x < q.1.length := by
          rw [hx] at xl
          have xl : (x : Int) < (q.1.length : Int) := xl
          omega
        have hrd : rd (Ty.i IntKind.i64) (staAt sts i).1 (t : Int) = (x : Int) := (rd_get (e := .i .i64) ht).trans hx
        have hit : rd (Ty.b.p (Ty.s.l.p (Ty.s.p (Ty.i IntKind.i64)))) q.1 (x : Int) = itmAt q.1 x := rd_nat q.1 x
        have hnm : rd Ty.s names (m : Int) = names.getD m ByteArray.empty := rd_nat (e := .s) names m
        have h18 := F18_spec (k := k) (x := itmAt q.1 x) (s := names.getD m ByteArray.empty) (hq.2.2.2.2.1 _ (itmAt_mem hxl)).2.1
        have hw : IntKind.i64.wrap ((x : Int) + 1) = ((x + 1 : Nat) : Int) := by rw [wrap_nat (by have := hq.2.1; omega)]; omega
        have hdrop : (staAt sts i).1.drop t = (x : Int) :: (staAt sts i).1.drop (t + 1) := by rw [List.drop_eq_getElem_cons ht, hx]
        have step : E16_0_0_0 k (j + 1) (names, (q, ()), sts, here, (m : Int), next, (i : Int), (t : Int), ()) = E16_0_0_0 k j (names, (q, ()), sts, here, (m : Int), (bif hasB (itmAt q.1 x).2.1 (names.getD m ByteArray.empty) then next.set (x + 1) true else next), (i : Int), ((t + 1 : Nat) : Int), ()) := by
          rw [E16_0_0_0_eq, inb_nat (by omega), hst, hfl, hf, inb_nat hi, lt_nat ht, inb_nat ht, hrd, inb_nat hxl, inb_nat hm, hit, hnm, h18, hw, inb_nat (by omega), wrap_nat (by omega)]
          cases hasB (itmAt q.1 x).2.1 (names.getD m ByteArray.empty) <;> rfl
        obtain ⟨next', e1, e2, e3⟩ := ih (t + 1) j (bif hasB (itmAt q.1 x).2.1 (names.getD m ByteArray.empty) then next.set (x + 1) true else next) (by omega) (by omega) (by omega) (by
          cases hasB (itmAt q.1 x).2.1 (names.getD m ByteArray.empty) with
          | true => rw [cond_true, List.length_set]; exact h4
          | false => exact h4)
        refine ⟨next', step.trans e1, e2, fun u => ?_⟩
        rw [e3 u, hdrop]
        cases hb : hasB (itmAt q.1 x).2.1 (names.getD m ByteArray.empty) with
        | true =>
          rw [cond_true, flag_set (by omega)]
          constructor
          · rintro ((h | h) | ⟨g, y, y1, y2⟩)
            · exact .inl h
            · exact .inr ⟨rfl, (x : Int), List.mem_cons_self, by rw [Int.toNat_natCast]; exact hb, by rw [Int.toNat_natCast]; exact h⟩
            · exact .inr ⟨rfl, y, List.mem_cons_of_mem _ y1, y2⟩
          · rintro (h | ⟨g, y, y1, y2, y3⟩)
            · exact .inl (.inl h)
            · rcases List.mem_cons.1 y1 with e | e
              · subst e; exact .inl (.inr (by rw [Int.toNat_natCast] at y3; exact y3))
              · exact .inr ⟨hf, y, e, y2, y3⟩
        | false =>
          rw [cond_false]
          constructor
          · rintro (h | ⟨g, y, y1, y2⟩)
            · exact .inl h
            · exact .inr ⟨rfl, y, List.mem_cons_of_mem _ y1, y2⟩
          · rintro (h | ⟨g, y, y1, y2, y3⟩)
            · exact .inl h
            · rcases List.mem_cons.1 y1 with e | e
              · subst e; rw [Int.toNat_natCast, hb] at y2; cases y2
              · exact .inr ⟨hf, y, e, y2, y3⟩

theorem E16_0_0_spec {k : Nat} {q : Qry} (hq : QOk k q) (hk : 2000 < k) {sts : List Sta} (hs : StOk q.1 sts) (hql : q.1.length < sts.length) {names : List ByteArray} {m : Nat} (hm : m < names.length) {here : List Bool} (hh : here.length = sts.length) :
    ∀ (d i j : Nat) (next : List Bool), sts.length - i = d → i ≤ sts.length → d < j → next.length = sts.length →
      ∃ next', E16_0_0 k j (names, (q, ()), sts, here, (m : Int), next, (i : Int), ()) = some (Sum.inl (names, (q, ()), sts, (m : Int), next', ())) ∧ next'.length = sts.length ∧
        ∀ u, flag next' u = true ↔ flag next u = true ∨ ∃ i', i ≤ i' ∧ i' < sts.length ∧ flag here i' = true ∧ ∃ x, x ∈ (staAt sts i').1 ∧ hasB (itmAt q.1 x.toNat).2.1 (names.getD m ByteArray.empty) = true ∧ u = x.toNat + 1 := by
  intro d
  induction d with
  | zero =>
    intro i j next h1 h2 h3 h4
    have : i = sts.length := by omega
    subst this
    match j, h3 with
    | j + 1, _ =>
      refine ⟨next, ?_, h4, fun u => ?_⟩
      · rw [E16_0_0_eq, nlt_nat]; rfl
      · constructor
        · exact .inl
        · rintro (h | ⟨i', g1, g2, _⟩)
          · exact h
          · omega
  | succ d ih =>
    intro i j next h1 h2 h3 h4
    match j, h3 with
    | j + 1, h3 =>
      have hi : i < sts.length := by omega
      have hmem : staAt sts i ∈ sts := by
        unfold staAt
        rw [List.getD_eq_getElem?_getD, List.getElem?_eq_getElem hi]
        exact List.getElem_mem hi
      obtain ⟨c1, c2⟩ := hs.2 _ hmem
      obtain ⟨n1, a1, a2, a3⟩ := E16_0_0_0_spec hq hs hql hm hh hi (staAt sts i).1.length 0 k next (by omega) (Nat.zero_le _) (by omega) h4
      have a1 : E16_0_0_0 k k (names, (q, ()), sts, here, (m : Int), next, (i : Int), 0, ()) = _ := a1
      obtain ⟨n2, b1, b2, b3⟩ := ih (i + 1) j n1 (by omega) (by omega) (by omega) a2
      rw [show (((i + 1 : Nat)) : Int) = (i : Int) + 1 by omega] at b1
      refine ⟨n2, ?_, b2, fun u => ?_⟩
      · rw [E16_0_0_eq, lt_nat hi, a1]
        show E16_0_0 k j (names, (q, ()), sts, here, (m : Int), n1, IntKind.i64.wrap ((i : Int) + 1), ()) = _
        rw [wrap_nat (by have := hs.1; omega)]
        exact b1
      · rw [b3 u, a3 u, List.drop_zero]
        constructor
        · rintro ((h | ⟨g1, g2⟩) | ⟨i', g1, g2⟩)
          · exact .inl h
          · exact .inr ⟨i, Nat.le_refl _, hi, g1, g2⟩
          · exact .inr ⟨i', by omega, g2⟩
        · rintro (h | ⟨i', g1, g2, g3, g4⟩)
          · exact .inl (.inl h)
          · by_cases he : i' = i
            · subst he; exact .inl (.inr ⟨g3, g4⟩)
            · exact .inr ⟨i', by omega, g2, g3, g4⟩

theorem E16_0_spec {k : Nat} {q : Qry} (hq : QOk k q) (hk : 2000 < k) {sts : List Sta} (hs : StOk q.1 sts) (hql : q.1.length < sts.length) {names : List ByteArray} (hnm : names.length < min k 9223372036854775807) :
    ∀ (d m j : Nat) (here : List Bool), names.length - m = d → m ≤ names.length → d < j → here.length = sts.length →
      ∃ here', E16_0 k j (names, (q, ()), sts, here, (m : Int), ()) = some (Sum.inl (sts, here', ())) ∧ here'.length = sts.length ∧
        ∀ u, flag here' u = true ↔ runP q.1 sts (names.drop m) (fun i => flag here i = true) u := by
  intro d
  induction d with
  | zero =>
    intro m j here h1 h2 h3 h4
    have : m = names.length := by omega
    subst this
    match j, h3 with
    | j + 1, _ =>
      refine ⟨here, ?_, h4, fun u => ?_⟩
      · rw [E16_0_eq, nlt_nat]; rfl
      · rw [List.drop_length]; exact Iff.rfl
  | succ d ih =>
    intro m j here h1 h2 h3 h4
    match j, h3 with
    | j + 1, h3 =>
      have hm : m < names.length := by omega
      have hsl := hs.1
      have c1 : (decide (0 ≤ (sts.length : Int)) && (decide ((sts.length : Int) ≤ (sts.length : Int)) && (decide ((sts.length : Int) * (↑Try.prog.types[4].bytes : Int) ≤ 140737488355328) && decide ((sts.length : Int) ≤ 140737488355328)))) = true := by
        rw [show (Try.prog.types[4].bytes : Nat) = 1 from by kernel_rfl]
        simp only [Bool.and_eq_true, decide_eq_true_eq]
        omega
      obtain ⟨n1, a1, a2, a3⟩ := E16_0_0_spec hq hk hs hql hm h4 sts.length 0 k (List.replicate sts.length false) (by omega) (Nat.zero_le _) (by omega) (by rw [List.length_replicate])
      have a1 : E16_0_0 k k (names, (q, ()), sts, here, (m : Int), List.replicate ((sts.length : Int)).toNat false, 0, ()) = _ := a1
      obtain ⟨h', b1, b2, b3⟩ := ih (m + 1) j n1 (by omega) (by omega) (by omega) a2
      rw [show (((m + 1 : Nat)) : Int) = (m : Int) + 1 by omega] at b1
      refine ⟨h', ?_, b2, fun u => ?_⟩
      · rw [E16_0_eq, lt_nat hm, c1, a1]
        show E16_0 k j (names, (q, ()), sts, n1, IntKind.i64.wrap ((m : Int) + 1), ()) = _
        rw [wrap_nat (by omega)]
        exact b1
      · rw [b3 u, List.drop_eq_getElem_cons hm]
        show _ ↔ runP q.1 sts (names.drop (m + 1)) (stepP q.1 sts names[m] fun i => flag here i = true) u
        refine runP_congr _ (fun i => ?_) u
        rw [a3 i, flag_rep]
        unfold stepP
        have e : names[m] = names.getD m ByteArray.empty := by rw [List.getD_eq_getElem?_getD, List.getElem?_eq_getElem hm]; rfl
        rw [e]
        constructor
        · rintro (h | ⟨i', _, h⟩)
          · cases h
          · exact ⟨i', h⟩
        · rintro ⟨i', h⟩
          exact .inr ⟨i', Nat.zero_le _, h⟩

theorem F16_spec {k : Nat} {q : Qry} (hq : QOk k q) (hk : 2000 < k) {names : List ByteArray} (hnm : names.length < min k 9223372036854775807) : F16 k (q, names, ()) = some ((acceptsB q names, ()), ()) := by
  rw [F16_eq, F14_spec hq hk]
  unfold acceptsB
  cases hr : rightB q with
  | false => rfl
  | true =>
    refine Eq.trans (Option.bind_some _ _) ?_
    dsimp only
    rw [cond_true]
    have hs := compile_ok hr
    obtain ⟨l1, l2⟩ := right_len hr
    have hlen := comp_len q
    generalize hsts : compileB q = sts at *
    have hsl := hs.1
    have c1 : (decide (0 ≤ (sts.length : Int)) && (decide ((sts.length : Int) ≤ (sts.length : Int)) && (decide ((sts.length : Int) * (↑Try.prog.types[4].bytes : Int) ≤ 140737488355328) && decide ((sts.length : Int) ≤ 140737488355328)))) = true := by
      rw [show (Try.prog.types[4].bytes : Nat) = 1 from by kernel_rfl]
      simp only [Bool.and_eq_true, decide_eq_true_eq]
      omega
    have c2 : decide ((sts.length : Int) = 0) = false := decide_eq_false (by omega)
    have c3 : inb 0 (List.replicate ((sts.length : Int)).toNat false).length = true := by
      rw [List.length_replicate]
      exact inb_nat (i := 0) (by omega)
    obtain ⟨here', b1, b2, b3⟩ := E16_0_spec hq hk hs (by omega) hnm names.length 0 k ((List.replicate sts.length false).set 0 true) (by omega) (Nat.zero_le _) (by omega) (by rw [List.length_set, List.length_replicate])
    have b1 : E16_0 k k (names, (q, ()), sts, (List.replicate ((sts.length : Int)).toNat false).set (Int.toNat 0) true, 0, ()) = _ := b1
    have hE : ∀ (d i j : Nat), sts.length - i = d → i ≤ sts.length → d < j → E16_1 k j (sts, here', (i : Int), ()) = some (bif anyR (fun i => flag here' i && (staAt sts i).2.2) i sts.length then Sum.inr (Sum.inl (true, ())) else Sum.inl ()) := by
      intro d
      induction d with
      | zero =>
        intro i j h1 h2 h3
        have : i = sts.length := by omega
        subst this
        match j, h3 with
        | j + 1, _ => rw [E16_1_eq, nlt_nat, anyR_end]; rfl
      | succ d ih =>
        intro i j h1 h2 h3
        match j, h3 with
        | j + 1, h3 =>
          have hi : i < sts.length := by omega
          have r1 := ih (i + 1) j (by omega) (by omega) (by omega)
          rw [show (((i + 1 : Nat)) : Int) = (i : Int) + 1 by omega] at r1
          have hst : rd ((Ty.i IntKind.i64).l.p ((Ty.i IntKind.i64).l.p Ty.b)) sts (i : Int) = staAt sts i := rd_nat sts i
          have hfl : rd Ty.b here' (i : Int) = flag here' i := rd_nat (e := .b) here' i
          rw [E16_1_eq, lt_nat hi, inb_nat (by omega), inb_nat hi, hst, hfl, wrap_nat (by omega), r1, anyR_step _ hi]
          cases flag here' i <;> cases (staAt sts i).2.2 <;> rfl
    have e1 : E16_1 k k (sts, here', 1, ()) = _ := hE _ 1 k rfl (by omega) (by omega)
    have hacc : accB q.1 sts names = anyR (fun i => flag here' i && (staAt sts i).2.2) 1 sts.length := by
      rw [Bool.eq_iff_iff, acc_iff, anyR_iff]
      have hrun : ∀ i, flag here' i = true ↔ runP q.1 sts names (fun i => i = 0) i := fun i => by
        rw [b3 i, List.drop_zero]
        refine runP_congr names (fun i => ?_) i
        rw [flag_set (by rw [List.length_replicate]; omega), flag_rep]
        simp
      constructor
      · rintro ⟨i, g1, g2, g3⟩
        refine ⟨i, ?_, g1, by rw [Bool.and_eq_true]; exact ⟨(hrun i).2 g2, g3⟩⟩
        cases i with
        | zero => rw [← hsts, comp_zero] at g3; cases g3
        | succ i => omega
      · rintro ⟨i, _, g1, g2⟩
        rw [Bool.and_eq_true] at g2
        exact ⟨i, g1, (hrun i).1 g2.1, g2.2⟩
    rw [c1, c2, c3, cond_true, cond_true, cond_true, cond_false, b1]
    refine Eq.trans (Option.bind_some _ _) ?_
    dsimp only
    rw [e1, hacc]
    cases anyR (fun i => flag here' i && (staAt sts i).2.2) 1 sts.length <;> rfl

theorem F3_eq (k : Nat) (x0 : Ty.den T25) (x1 : Ty.den T26) : F3 k (x0, x1, ()) = (
(F9 k ()).bind fun y =>
  (F10 k (x0, ())).bind fun y_1 =>
    (bif !y_1.1.1 then F11 k (x1, ()) else some ((Ty.b.dflt, ()), ())).bind fun y_2 =>
      bif bif y_1.1.1 then true else y_2.1.1 then some ((y.1.1, ()), ())
      else
        bif y.1.1 then (F13 k (x0, ())).bind fun y_3 =>
         bif y.1.1 then (F14 k (x0, ())).bind fun y_4 =>
          (bif y.1.1 then F12 k (y_3.1.1, y_4.1.1, ()) else some ((Ty.b.dflt, ()), ())).bind fun y_5 =>
          (bif bif y.1.1 then y_5.1.1 else false then F15 k (x0, x1, ()) else some ((Ty.b.dflt, ()), ())).bind fun y_6 =>
          (bif bif y.1.1 then y_5.1.1 else false then F16 k (x0, x1, ()) else some ((Ty.b.dflt, ()), ())).bind fun y_7 =>
           some ((bif bif y.1.1 then y_5.1.1 else false then decide (y_6.1.1 = y_7.1.1) else false, ()), ())
         else none
        else bif y.1.1 then (F14 k (x0, ())).bind fun _ => none else none) := by kernel_rfl
end Go.Pv.L12
