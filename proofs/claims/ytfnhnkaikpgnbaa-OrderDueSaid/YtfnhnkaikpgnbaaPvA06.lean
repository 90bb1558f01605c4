/- Layer 06, plainly: words, values, events. -/
import Derived.Test.YtfnhnkaikpgnbaaPvQ06
import Derived.Test.YtfnhnkaikpgnbaaPvP0
namespace Go.Pv.L06
open Go Go.Pv Go.Proofs
set_option linter.all false
set_option linter.constructorNameAsVariable false
set_option linter.unusedSectionVars false
set_option linter.unusedVariables false
set_option linter.unusedSimpArgs false
theorem ob {α β : Type} {x : Option α} {a : α} {f : α → Option β} {r : Option β} (h : x = some a) (g : f a = r) : x.bind f = r := by rw [h]; exact g
abbrev Ev := Ty.den T31
abbrev Vl := Ty.den T62
abbrev MX : Nat := 140737488351232

/-- May a byte not stand in a word there? -/
def badB (s : ByteArray) (i : Nat) : Bool :=
  let c : Int := (bt s i).toNat
  !(decide (97 ≤ c) && decide (c ≤ 122)) && (decide (i = 0) || (!decide (c = 95) && (decide (c < 48) || decide (57 < c))))
def wordB (s : ByteArray) : Bool := !anyR (badB s) 0 s.size && (decide (1 ≤ s.size) && decide (s.size ≤ 16))

theorem size_zero {s : ByteArray} : s = { data := #[] } ↔ s.size = 0 := by
  constructor
  · rintro rfl; rfl
  · intro h
    obtain ⟨⟨l⟩⟩ := s
    cases l with
    | nil => rfl
    | cons x l => simp [ByteArray.size] at h

theorem F41_spec {k : Nat} {s : ByteArray} (hk : s.size < k) (hs : s.size < 9223372036854775807) : F41 k (s, ()) = some ((wordB s, ()), ()) := by
  have hE : E41_0 k k (s, 0, ()) = some (bif anyR (badB s) 0 s.size then Sum.inr (Sum.inl (false, ())) else Sum.inl (s, ())) := by
    refine scan0 (E := fun j i => E41_0 k j (s, i, ())) (fun j i hi => ?_) (fun j => ?_) hk
    · dsimp only
      rw [E41_0_eq, lt_nat hi, inb_nat hi, wrap_nat (by omega)]
      simp only [cond_true, badB]
      congr 1
      by_cases h0 : i = 0
      · subst h0; simp
      · have : decide ((i : Int) = 0) = false := by simp; omega
        rw [this]
        simp only [h0, decide_false, cond_false, Bool.false_or]
        cases decide (97 ≤ ((bt s i).toNat : Int)) <;> cases decide (((bt s i).toNat : Int) ≤ 122) <;> cases decide (((bt s i).toNat : Int) = 95) <;> cases decide (((bt s i).toNat : Int) < 48) <;> cases decide (57 < ((bt s i).toNat : Int)) <;> rfl
    · dsimp only
      rw [E41_0_eq, nlt_nat]; rfl
  rw [F41_eq, hE]
  unfold wordB
  cases anyR (badB s) 0 s.size with
  | true => rfl
  | false =>
    simp only [cond_false, Option.bind_some, Bool.not_false, Bool.true_and]
    have e1 : decide (1 ≤ (s.size : Int)) = decide (1 ≤ s.size) := by simp; omega
    have e2 : decide ((s.size : Int) ≤ 16) = decide (s.size ≤ 16) := by simp; omega
    rw [e1, e2]
    cases decide (1 ≤ s.size) <;> rfl

theorem F44_spec {k : Nat} {s : ByteArray} (hk : s.size < k) (hs : s.size < 9223372036854775807) : F44 k (s, ()) = some ((wordB s, ()), ()) := by
  have hE : E44_0 k k (s, (s.size : Int), 0, ()) = some (bif anyR (badB s) 0 s.size then Sum.inr (Sum.inl (false, ())) else Sum.inl (s, ())) := by
    refine scan0 (E := fun j i => E44_0 k j (s, (s.size : Int), i, ())) (fun j i hi => ?_) (fun j => ?_) hk
    · dsimp only
      rw [E44_0_eq, lt_nat hi, inb_nat hi, wrap_nat (by omega)]
      simp only [cond_true, badB]
      by_cases h0 : i = 0
      · subst h0
        simp
        cases decide (97 ≤ ((bt s 0).toNat : Int)) <;> cases decide (((bt s 0).toNat : Int) ≤ 122) <;> rfl
      · have : decide (0 < (i : Int)) = true := by simp; omega
        rw [this]
        simp only [h0, decide_false, cond_true, Bool.false_or]
        have e : decide (48 ≤ ((bt s i).toNat : Int)) = !decide (((bt s i).toNat : Int) < 48) := by
          rw [← decide_not]; congr 1; simp
        have e' : decide (((bt s i).toNat : Int) ≤ 57) = !decide (57 < ((bt s i).toNat : Int)) := by
          rw [← decide_not]; congr 1; simp
        rw [e, e']
        cases decide (97 ≤ ((bt s i).toNat : Int)) <;> cases decide (((bt s i).toNat : Int) ≤ 122) <;> cases decide (((bt s i).toNat : Int) = 95) <;> cases decide (((bt s i).toNat : Int) < 48) <;> cases decide (57 < ((bt s i).toNat : Int)) <;> rfl
    · dsimp only
      rw [E44_0_eq, nlt_nat]; rfl
  rw [F44_eq, hE]
  unfold wordB
  cases anyR (badB s) 0 s.size with
  | true => rfl
  | false =>
    simp only [cond_false, Option.bind_some, Bool.not_false, Bool.true_and]
    have e1 : (!decide (s = { data := #[] })) = decide (1 ≤ s.size) := by
      rw [← decide_not]; exact decide_eq_decide.2 (by rw [size_zero]; omega)
    have e2 : decide ((s.size : Int) ≤ 16) = decide (s.size ≤ 16) := by simp; omega
    rw [e1, e2]
    cases decide (1 ≤ s.size) <;> rfl

/-! ### values -/
def vR (v : Vl) : Bool :=
  bif decide (v.1 = 1) then (decide (-1099511627776 ≤ v.2.1) && decide (v.2.1 ≤ 1099511627776)) && decide (v.2.2 = { data := #[] })
  else bif decide (v.1 = 3) then (decide (0 ≤ v.2.1) && decide (v.2.1 ≤ 1)) && decide (v.2.2 = { data := #[] })
  else bif decide (v.1 = 2) then decide (v.2.1 = 0) && decide ((v.2.2.size : Int) ≤ 64) else false
theorem bif_and (a b : Bool) : (bif a then b else false) = (a && b) := by cases a <;> rfl
theorem bif_or (a b : Bool) : (bif a then true else b) = (a || b) := by cases a <;> rfl
theorem F47_spec {k : Nat} (v : Vl) : F47 k (v, ()) = some ((vR v, ()), ()) := by
  rw [F47_eq]
  unfold vR
  simp only [bif_and]
  cases decide (v.1 = 1) <;> cases decide (v.1 = 3) <;> cases decide (v.1 = 2) <;> rfl
theorem F42_spec {k : Nat} (v : Vl) : F42 k (v, ()) = some ((vR v, ()), ()) := by
  rw [F42_eq]
  unfold vR
  simp only [bif_and]
  by_cases h1 : v.1 = 1
  · simp only [h1, decide_true, cond_true]; rfl
  · by_cases h2 : v.1 = 2
    · simp [h2]; rfl
    · simp only [h1, h2, decide_false, cond_false]
      cases decide (v.1 = 3) <;> rfl
theorem F46_spec {k : Nat} (v : Vl) : F46 k (v, ()) = some ((!vR v, ()), ()) := by
  rw [F46_eq]; exact ob (F47_spec v) rfl
def vlAt (l : List Vl) (i : Nat) : Vl := l.getD i (Ty.dflt T62)
theorem F50_spec {k : Nat} {l : List Vl} (hk : l.length < k) (hs : l.length < 9223372036854775807) : ∃ c : Int, F50 k (l, (), ()) = some ((c, ()), ()) ∧ decide (0 ≤ c) = anyR (fun i => !vR (vlAt l i)) 0 l.length := by
  have key : ∀ (d i j : Nat), l.length - i = d → i ≤ l.length → d < j → (∃ m : Nat, E50_0 k j (l, (), (l.length : Int), (i : Int), ()) = some (Sum.inr (Sum.inl ((m : Int), ()))) ∧ anyR (fun i => !vR (vlAt l i)) i l.length = true) ∨ (E50_0 k j (l, (), (l.length : Int), (i : Int), ()) = some (Sum.inl ()) ∧ anyR (fun i => !vR (vlAt l i)) i l.length = false) := by
    intro d
    induction d with
    | zero =>
      intro i j h1 h2 h3
      have : i = l.length := by omega
      subst this
      match j, h3 with
      | j + 1, _ => exact .inr ⟨by rw [E50_0_eq, nlt_nat]; rfl, anyR_end _ _⟩
    | succ d ih =>
      intro i j h1 h2 h3
      match j, h3 with
      | j + 1, h3 =>
        have hlt : i < l.length := by omega
        rw [E50_0_eq, lt_nat hlt, inb_nat hlt, wrap_nat (by omega), anyR_step _ hlt]
        simp only [cond_true]
        rw [rd_nat]
        have e46 := F46_spec (k := k) (vlAt l i)
        cases hb : vR (vlAt l i) with
        | false =>
          rw [hb] at e46
          exact .inl ⟨i, ob e46 rfl, rfl⟩
        | true =>
          rw [hb] at e46
          have := ih (i + 1) j (by omega) (by omega) (by omega)
          rw [show (((i + 1 : Nat)) : Int) = (i : Int) + 1 by omega] at this
          rcases this with ⟨m, q1, q2⟩ | ⟨q1, q2⟩
          · exact .inl ⟨m, ob e46 q1, by simpa using q2⟩
          · exact .inr ⟨ob e46 q1, by simpa using q2⟩
  rw [F50_eq]
  rcases key l.length 0 k (by omega) (by omega) hk with ⟨m, h1, h2⟩ | ⟨h1, h2⟩
  · exact ⟨m, ob h1 rfl, by rw [h2]; simp⟩
  · exact ⟨-1, ob h1 rfl, by rw [h2]; rfl⟩
def vsB (l : List Vl) : Bool := anyR (fun i => !vR (vlAt l i)) 0 l.length
theorem F45_spec {k : Nat} {l : List Vl} (hk : l.length < k) (hs : l.length < 9223372036854775807) : F45 k (l, (), ()) = some ((vsB l, ()), ()) := by
  obtain ⟨c, h1, h2⟩ := F50_spec hk hs
  rw [F45_eq]
  refine ob h1 ?_
  dsimp only
  rw [h2]; rfl

/-! ### events -/
def inM (x m : Int) : Bool := decide (0 ≤ x) && decide (x ≤ m)
theorem F43_spec {k : Nat} (x m : Int) : F43 k (x, m, ()) = some ((inM x m, ()), ()) := by rw [F43_eq, bif_and]; rfl
def rightE (e : Ev) : Bool := inM e.1 1099511627776 && (inM e.2.2.1 1099511627776 && (inM e.2.1 3 && (wordB e.2.2.2.1 && (decide ((e.2.2.2.2.length : Int) ≤ 8) && !vsB e.2.2.2.2))))
def EvOk (e : Ev) : Prop := e.2.2.2.1.size ≤ MX ∧ e.2.2.2.2.length ≤ MX
theorem F34_spec {k : Nat} (hk : MX < k) {e : Ev} (he : EvOk e) : F34 k (e, ()) = some ((rightE e, ()), ()) := by
  have h1 : e.2.2.2.1.size ≤ MX := he.1
  have h2 : e.2.2.2.2.length ≤ MX := he.2
  have hw := F44_spec (k := k) (s := e.2.2.2.1) (by omega) (by simp only [MX] at h1; omega)
  have hv := F45_spec (k := k) (l := e.2.2.2.2) (by omega) (by simp only [MX] at h2; omega)
  rw [F34_eq]
  refine ob (F43_spec _ _) ?_
  unfold rightE
  cases inM e.1 1099511627776 with
  | false => rfl
  | true =>
    simp only [cond_true]
    refine ob (F43_spec _ _) ?_
    cases inM e.2.2.1 1099511627776 with
    | false => rfl
    | true =>
      simp only [cond_true]
      refine ob (F43_spec _ _) ?_
      cases inM e.2.1 3 with
      | false => rfl
      | true =>
        simp only [cond_true]
        refine ob hw ?_
        cases wordB e.2.2.2.1 with
        | false => rfl
        | true =>
          simp only [cond_true]
          cases hd : decide ((e.2.2.2.2.length : Int) ≤ 8) with
          | false =>
            simp only [cond_false, Option.bind_some, Bool.true_and, Bool.false_and]
          | true =>
            simp only [cond_true]
            refine ob hv ?_
            simp only [Bool.true_and]
theorem F30_spec {k : Nat} (hk : MX < k) {e : Ev} (he : EvOk e) : F30 k (e, ()) = some ((rightE e, ()), ()) := by
  have h1 : e.2.2.2.1.size ≤ MX := he.1
  have h2 : e.2.2.2.2.length ≤ MX := he.2
  have hw := F41_spec (k := k) (s := e.2.2.2.1) (by omega) (by simp only [MX] at h1; omega)
  have hE : E30_0 k k ((e, ()), 0, ()) = some (bif anyR (fun i => !vR (vlAt e.2.2.2.2 i)) 0 e.2.2.2.2.length then Sum.inr (Sum.inl (false, ())) else Sum.inl ((e, ()), ())) := by
    refine scan0 (E := fun j i => E30_0 k j ((e, ()), i, ())) (fun j i hi => ?_) (fun j => ?_) (by omega)
    · dsimp only
      rw [E30_0_eq, lt_nat hi, inb_nat hi, wrap_nat (by simp only [MX] at h2; omega)]
      simp only [cond_true]
      rw [rd_nat]
      refine ob (F42_spec _) ?_
      rfl
    · dsimp only
      rw [E30_0_eq, nlt_nat]; rfl
  rw [F30_eq]
  have et : (bif bif bif bif bif decide (e.1 < 0) then true else decide (1099511627776 < e.1) then true else decide (e.2.2.1 < 0) then true else decide (1099511627776 < e.2.2.1) then true else decide (e.2.1 < 0) then true else decide (3 < e.2.1)) = !(inM e.1 1099511627776 && (inM e.2.2.1 1099511627776 && inM e.2.1 3)) := by
    simp only [bif_or, inM, Bool.not_and]
    rw [dec_lt e.1 0, dec_lt 1099511627776 e.1, dec_lt e.2.2.1 0, dec_lt 1099511627776 e.2.2.1, dec_lt e.2.1 0, dec_lt 3 e.2.1]
    simp only [Bool.or_assoc]
  dsimp only
  rw [et]
  unfold rightE
  cases hA : (inM e.1 1099511627776 && (inM e.2.2.1 1099511627776 && inM e.2.1 3)) with
  | false =>
    simp only [Bool.not_false, Bool.not_true, cond_false, cond_true, Option.bind_some]
    congr 3
    rw [← Bool.and_assoc (inM e.2.2.1 1099511627776), ← Bool.and_assoc, hA]; rfl
  | true =>
    simp only [Bool.not_false, Bool.not_true, cond_true]
    refine ob hw ?_
    rw [← Bool.and_assoc (inM e.2.2.1 1099511627776), ← Bool.and_assoc, hA]
    cases wordB e.2.2.2.1 with
    | false => rfl
    | true =>
      simp only [Bool.not_true, cond_false, Bool.true_and]
      refine ob hE ?_
      unfold vsB
      cases anyR (fun i => !vR (vlAt e.2.2.2.2 i)) 0 e.2.2.2.2.length with
      | true => simp only [cond_true, Bool.not_true, Bool.and_false]
      | false => simp only [cond_false, Bool.not_false, Bool.and_true]
end Go.Pv.L06
