/- Layer 06, plainly: which of two events is ahead; the place of one in a sorted list. -/
import Derived.Test.YtfnhnkaikpgnbaaPvB06
import Derived.Laws.FloatBits
namespace Go.Pv.L06
open Go Go.Pv Go.Proofs
set_option linter.all false
set_option linter.constructorNameAsVariable false
set_option linter.unusedSectionVars false
set_option linter.unusedVariables false
set_option linter.unusedSimpArgs false
theorem read_word (f : Ieee.Format) (neg : Bool) (r : Nat) (h : r ≤ f.infRung) : (f.read (f.word neg r)).order (f.read (f.word neg r)) = some .eq := by
  have hb := f.infRung_lt
  have hw : f.word neg r % f.signWeight = r := by
    unfold Ieee.Format.word
    cases neg
    · simp only [Bool.false_eq_true, if_false]
      first | exact Nat.mod_eq_of_lt (by omega) | (rw [Nat.zero_add]; exact Nat.mod_eq_of_lt (by omega))
    · simp only [if_true]
      first | (rw [Nat.add_mod_left]; exact Nat.mod_eq_of_lt (by omega)) | (rw [Nat.add_mod_right]; exact Nat.mod_eq_of_lt (by omega))
  unfold Ieee.Format.read
  simp only [hw]
  by_cases h1 : r < f.binade
  · rw [if_pos h1]
    simp [Ieee.Datum.order]
  · rw [if_neg h1]
    by_cases h2 : r < f.infRung
    · rw [if_pos h2]
      simp [Ieee.Datum.order]
    · rw [if_neg h2, if_pos (by omega)]
      simp [Ieee.Datum.order]
theorem order_nearest (f : Ieee.Format) (neg : Bool) (mag : Nat) (place : Int) : f.order (f.nearest neg mag place) (f.nearest neg mag place) = some .eq := by
  unfold Ieee.Format.order Ieee.Format.nearest
  split
  · exact read_word f neg 0 (Nat.zero_le _)
  · exact read_word f neg _ (Nat.min_le_right _ _)
theorem cEq_self (a b : Int) : cEq (FloatKind.f64.nearest a) (FloatKind.f64.nearest b) (FloatKind.f64.nearest a) (FloatKind.f64.nearest b) = true := by
  unfold cEq
  have h : ∀ n : Int, (FloatKind.f64.format.order (FloatKind.f64.nearest n) (FloatKind.f64.nearest n)) = some .eq := fun n => order_nearest _ _ _ _
  rw [h a, h b]; rfl

def k0 (a : Ev) : Int := a.1
def k1 (a : Ev) : Int := a.2.1
def k2 (a : Ev) : Int := a.2.2.1
/-- Is one ahead of another one? -/
def lessB (a b : Ev) : Bool := bif decide (a.1 = b.1) then (bif decide (a.2.1 = b.2.1) then decide (a.2.2.1 < b.2.2.1) else decide (a.2.1 < b.2.1)) else decide (a.1 < b.1)
theorem lessB_iff {a b : Ev} : lessB a b = true ↔ k0 a < k0 b ∨ (k0 a = k0 b ∧ (k1 a < k1 b ∨ (k1 a = k1 b ∧ k2 a < k2 b))) := by
  unfold lessB k0 k1 k2
  by_cases h1 : a.1 = b.1
  · by_cases h2 : a.2.1 = b.2.1
    · simp [h1, h2]
    · simp [h1, h2]
  · simp [h1]
theorem less_irr (a : Ev) : lessB a a = false := by
  cases h : lessB a a with
  | false => rfl
  | true => have := lessB_iff.1 h; omega
theorem less_tr {a b c : Ev} (h1 : lessB a b = true) (h2 : lessB b c = true) : lessB a c = true := by
  have := lessB_iff.1 h1; have := lessB_iff.1 h2; exact lessB_iff.2 (by omega)
theorem less_asym {a b : Ev} (h1 : lessB a b = true) : lessB b a = false := by
  cases h : lessB b a with
  | false => rfl
  | true => have := lessB_iff.1 h1; have := lessB_iff.1 h; omega
/-- Is neither ahead of the other one? -/
def sameK (a b : Ev) : Bool := !lessB a b && !lessB b a
theorem sameK_iff {a b : Ev} : sameK a b = true ↔ k0 a = k0 b ∧ k1 a = k1 b ∧ k2 a = k2 b := by
  have h1 := lessB_iff (a := a) (b := b)
  have h2 := lessB_iff (a := b) (b := a)
  unfold sameK
  cases p : lessB a b <;> cases q : lessB b a
  · simp only [p, q, Bool.false_eq_true, false_iff] at h1 h2
    simp only [Bool.not_false, Bool.and_self, true_iff]; omega
  · simp only [q, true_iff] at h2
    simp only [Bool.not_false, Bool.not_true, Bool.and_false, Bool.false_eq_true, false_iff]; omega
  · simp only [p, true_iff] at h1
    simp only [Bool.not_false, Bool.not_true, Bool.false_and, Bool.false_eq_true, false_iff]; omega
  · simp only [p, true_iff] at h1
    simp only [Bool.not_true, Bool.and_self, Bool.false_eq_true, false_iff]; omega
theorem sameK_comm (a b : Ev) : sameK a b = sameK b a := by unfold sameK; rw [Bool.and_comm]

theorem F20_spec {k : Nat} (a b : Ev) : F20 k (a, b, ()) = some ((lessB a b, ()), ()) := by
  rw [F20_eq]
  unfold lessB
  cases decide (a.1 = b.1) <;> cases decide (a.2.1 = b.2.1) <;> rfl
theorem F38_spec {k : Nat} (a b : Ev) : F38 k (a, b, ()) = some ((lessB a b, ()), ()) := by
  rw [F38_eq]
  refine ob (F48_eq k a) ?_
  refine ob (F48_eq k b) ?_
  dsimp only
  unfold lessB
  by_cases h1 : a.1 = b.1
  · by_cases h2 : a.2.1 = b.2.1
    · rw [h1, h2, cEq_self]
      simp only [decide_true, cond_true]
    · simp only [h1, h2, decide_true, decide_false, cond_false, cond_true, Bool.not_true]
      cases cEq _ _ _ _ <;> rfl
  · simp only [h1, decide_false, Bool.not_false, cond_true, cond_false]
    cases cEq _ _ _ _ <;> rfl
/-- Ahead, behind, or neither. -/
def cmpE (a b : Ev) : Int := bif lessB a b then -1 else bif lessB b a then 1 else 0
theorem F27_spec {k : Nat} (a b : Ev) : F27 k (a, b, ()) = some ((cmpE a b, ()), ()) := by
  rw [F27_eq]
  refine ob (F38_spec a b) ?_
  unfold cmpE
  dsimp only
  cases lessB a b with
  | true => rfl
  | false =>
    simp only [cond_false]
    refine ob (F38_spec b a) ?_
    dsimp only
    cases lessB b a <;> rfl
theorem cmpE_neg (a b : Ev) : decide (cmpE a b < 0) = lessB a b := by
  unfold cmpE
  cases lessB a b <;> cases lessB b a <;> rfl
theorem cmpE_zero (a b : Ev) : decide (cmpE a b = 0) = sameK a b := by
  unfold cmpE sameK
  cases lessB a b <;> cases lessB b a <;> rfl

/-- Each is ahead of all behind it. -/
abbrev Srt (l : List Ev) : Prop := l.Pairwise fun a b => lessB a b = true
/-- How many are ahead of an event. -/
def posOf (l : List Ev) (e : Ev) : Nat := (l.takeWhile fun a => lessB a e).length
theorem posOf_le (l : List Ev) (e : Ev) : posOf l e ≤ l.length := by
  unfold posOf
  exact (List.takeWhile_sublist _).length_le
theorem posOf_cons (a : Ev) (l : List Ev) (e : Ev) : posOf (a :: l) e = bif lessB a e then posOf l e + 1 else 0 := by
  unfold posOf
  rw [List.takeWhile_cons]
  cases lessB a e <;> rfl
theorem pos_spec {e : Ev} : ∀ {l : List Ev}, Srt l → ∀ {i : Nat} (h : i < l.length), lessB l[i] e = decide (i < posOf l e)
  | [], _, i, h => absurd h (Nat.not_lt_zero _)
  | a :: l, hs, i, h => by
    obtain ⟨h1, h2⟩ := List.pairwise_cons.1 hs
    rw [posOf_cons]
    cases i with
    | zero =>
      rw [List.getElem_cons_zero]
      cases lessB a e <;> simp
    | succ i =>
      have hi : i < l.length := by simpa using h
      rw [List.getElem_cons_succ, pos_spec h2 hi]
      cases ha : lessB a e with
      | true => simp
      | false =>
        simp only [cond_false]
        have : lessB l[i] e = false := by
          cases q : lessB l[i] e with
          | false => rfl
          | true => rw [less_tr (h1 _ (List.getElem_mem hi)) q] at ha; cases ha
        rw [pos_spec h2 hi] at this
        simp only [decide_eq_false_iff_not] at this
        simp; omega
def evAt (l : List Ev) (i : Nat) : Ev := l.getD i (Ty.dflt T31)
theorem evAt_get {l : List Ev} {i : Nat} (h : i < l.length) : evAt l i = l[i] := by
  unfold evAt
  rw [List.getD_eq_getElem?_getD, List.getElem?_eq_getElem h]; rfl
theorem mid_nat {i j : Nat} (h : i + j < 9223372036854775807) : IntKind.i64.wrap ((IntKind.u64.wrap (IntKind.i64.wrap ((i : Int) + (j : Int)))).fdiv (2 ^ min (Int.toNat 1) IntKind.u64.bits)) = (((i + j) / 2 : Nat) : Int) := by
  rw [show ((2 : Int) ^ min (Int.toNat 1) IntKind.u64.bits) = 2 by decide, Int.fdiv_eq_ediv_of_nonneg _ (by decide), wrap_le (x := (i : Int) + j) (by omega) (by omega), IntKind.wrap_u64, wrap_le (by omega) (by omega)]
  omega
theorem E26_spec {k : Nat} {l : List Ev} {e : Ev} (hs : Srt l) (hl : l.length < 1000000) (x8 : Int) : ∀ (d i j n : Nat), j - i ≤ d → i ≤ posOf l e → posOf l e ≤ j → j ≤ l.length → d < n →
    E26_0 k n (l, (), (e, ()), x8, (i : Int), (j : Int), ()) = some (Sum.inl (l, (), (e, ()), x8, (posOf l e : Int), ())) := by
  intro d
  induction d with
  | zero =>
    intro i j n h1 h2 h3 h4 h5
    match n, h5 with
    | n + 1, _ =>
      have : i = j := by omega
      subst this
      rw [E26_0_eq, nlt_nat]
      rw [show posOf l e = i by omega]; rfl
  | succ d ih =>
    intro i j n h1 h2 h3 h4 h5
    match n, h5 with
    | n + 1, h5 =>
      by_cases hij : i < j
      · have hm : (i + j) / 2 < l.length := by omega
        rw [E26_0_eq, lt_nat hij, mid_nat (by omega), inb_nat hm]
        simp only [cond_true]
        rw [rd_get (e := T31) hm]
        refine ob (F27_spec _ _) ?_
        dsimp only
        rw [cmpE_neg, pos_spec hs hm]
        cases hc : decide ((i + j) / 2 < posOf l e) with
        | true =>
          have hc : (i + j) / 2 < posOf l e := by simpa using hc
          simp only [cond_true]
          rw [wrap_nat (by omega)]
          have := ih ((i + j) / 2 + 1) j n (by omega) (by omega) h3 h4 (by omega)
          rw [show ((((i + j) / 2 + 1 : Nat)) : Int) = (((i + j) / 2 : Nat) : Int) + 1 by omega] at this
          exact this
        | false =>
          have hc : ¬ (i + j) / 2 < posOf l e := by simpa using hc
          simp only [cond_false]
          exact ih i ((i + j) / 2) n (by omega) h2 (by omega) (by omega) (by omega)
      · have : i = j := by omega
        subst this
        rw [E26_0_eq, nlt_nat]
        rw [show posOf l e = i by omega]; rfl
/-- Is there one that is neither ahead nor behind? -/
def thereB (l : List Ev) (e : Ev) : Bool := l.any fun a => sameK a e
theorem there_pos {l : List Ev} {e : Ev} (hs : Srt l) : thereB l e = (decide (posOf l e < l.length) && sameK (evAt l (posOf l e)) e) := by
  rw [Bool.eq_iff_iff]
  constructor
  · intro h
    obtain ⟨a, ha, hk⟩ := List.any_eq_true.1 h
    obtain ⟨i, hi, rfl⟩ := List.mem_iff_getElem.1 ha
    have hk' := hk
    unfold sameK at hk'
    rw [Bool.and_eq_true, Bool.not_eq_true', Bool.not_eq_true'] at hk'
    have h1 := pos_spec (e := e) hs hi
    rw [hk'.1] at h1
    have h1 : ¬ i < posOf l e := by simpa using h1.symm
    have h2 : i = posOf l e := by
      rcases Nat.lt_or_ge (posOf l e) i with q | q
      · have hp : posOf l e < l.length := by omega
        have := pos_spec (e := e) hs hp
        rw [decide_eq_false (Nat.lt_irrefl _)] at this
        have hlt := List.pairwise_iff_getElem.1 hs _ _ hp hi q
        -- the one at the place is ahead of the other one, which is neither ahead nor behind
        have hk2 := sameK_iff.1 hk
        have hlt' := lessB_iff.1 hlt
        have hnot : lessB l[posOf l e] e = true := lessB_iff.2 (by omega)
        rw [hnot] at this; cases this
      · omega
    subst h2
    rw [evAt_get hi, hk, decide_eq_true hi]; rfl
  · intro h
    rw [Bool.and_eq_true, decide_eq_true_eq] at h
    obtain ⟨h1, h2⟩ := h
    rw [evAt_get h1] at h2
    exact List.any_eq_true.2 ⟨_, List.getElem_mem h1, h2⟩
theorem F26_spec {k : Nat} {l : List Ev} {e : Ev} (hs : Srt l) (hl : l.length < 1000000) (hk : l.length < k) : F26 k (l, e, (), ()) = some (((posOf l e : Int), thereB l e, ()), ()) := by
  have hE := E26_spec (k := k) (e := e) hs hl (l.length : Int) l.length 0 l.length k (by omega) (Nat.zero_le _) (posOf_le l e) (Nat.le_refl _) hk
  rw [F26_eq]
  refine ob (by simpa using hE) ?_
  dsimp only
  rw [there_pos hs]
  by_cases hp : posOf l e < l.length
  · rw [lt_nat hp, inb_nat hp]
    simp only [cond_true]
    rw [rd_get (e := T31) hp]
    refine ob (F27_spec _ _) ?_
    dsimp only
    rw [cmpE_zero, evAt_get hp, decide_eq_true hp]; rfl
  · have e1 : decide ((posOf l e : Int) < (l.length : Int)) = false := decide_eq_false (by omega)
    rw [e1, decide_eq_false hp]; rfl
end Go.Pv.L06
