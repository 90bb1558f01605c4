import Derived.Test.YtfmcfigoendjiaaGreatPvQ16
import Derived.Test.YtfmcfigoendjiaaGreatPvP0
/- Layer 16, plainly: words, keys, values, texts. -/
namespace Go.Pv.L16
open Go Go.Pv Go.Proofs
set_option linter.all false
set_option linter.constructorNameAsVariable false
set_option linter.unusedSectionVars false
set_option linter.unusedVariables false
set_option linter.unusedSimpArgs false

/-- May a byte not stand in a word there? -/
def badB (s : ByteArray) (i : Nat) : Bool :=
  let c : Int := (bt s i).toNat
  !(decide (97 ≤ c) && decide (c ≤ 122)) && (decide (i = 0) || (!decide (c = 95) && (decide (c < 48) || decide (57 < c))))
def wordB (s : ByteArray) : Bool := !anyR (badB s) 0 s.size && (decide (1 ≤ s.size) && decide (s.size ≤ 16))

theorem size_zero {s : ByteArray} : s = { data := #[] } ↔ s.size = 0 := by
  constructor
  · rintro rfl; rfl
  · intro h
    obtain ⟨⟨l⟩⟩ := s
    cases l with
    | nil => rfl
    | cons x l => simp [ByteArray.size] at h

theorem F42_spec {k : Nat} {s : ByteArray} (hk : s.size < k) (hs : s.size < 9223372036854775807) : F42 k (s, ()) = some ((wordB s, ()), ()) := by
  have hE : E42_0 k k (s, 0, ()) = some (bif anyR (badB s) 0 s.size then Sum.inr (Sum.inl (false, ())) else Sum.inl (s, ())) := by
    refine scan0 (E := fun j i => E42_0 k j (s, i, ())) (fun j i hi => ?_) (fun j => ?_) hk
    · dsimp only
      rw [E42_0_eq, lt_nat hi, inb_nat hi, wrap_nat (by omega)]
      simp only [cond_true, badB]
      congr 1
      by_cases h0 : i = 0
      · subst h0; simp
      · have : decide ((i : Int) = 0) = false := by simp; omega
        rw [this]
        simp only [h0, decide_false, cond_false, Bool.false_or]
        cases decide (97 ≤ ((bt s i).toNat : Int)) <;> cases decide (((bt s i).toNat : Int) ≤ 122) <;> cases decide (((bt s i).toNat : Int) = 95) <;> cases decide (((bt s i).toNat : Int) < 48) <;> cases decide (57 < ((bt s i).toNat : Int)) <;> rfl
    · dsimp only
      rw [E42_0_eq, nlt_nat]; rfl
  rw [F42_eq, hE]
  unfold wordB
  cases anyR (badB s) 0 s.size with
  | true => rfl
  | false =>
    simp only [cond_false, Option.bind_some, Bool.not_false, Bool.true_and]
    have e1 : decide (1 ≤ (s.size : Int)) = decide (1 ≤ s.size) := by simp; omega
    have e2 : decide ((s.size : Int) ≤ 16) = decide (s.size ≤ 16) := by simp; omega
    rw [e1, e2]
    cases decide (1 ≤ s.size) <;> rfl

theorem F26_spec {k : Nat} {s : ByteArray} (hk : s.size < k) (hs : s.size < 9223372036854775807) : F26 k (s, ()) = some ((wordB s, ()), ()) := by
  have hE : E26_0 k k (s, (s.size : Int), 0, ()) = some (bif anyR (badB s) 0 s.size then Sum.inr (Sum.inl (false, ())) else Sum.inl (s, ())) := by
    refine scan0 (E := fun j i => E26_0 k j (s, (s.size : Int), i, ())) (fun j i hi => ?_) (fun j => ?_) hk
    · dsimp only
      rw [E26_0_eq, lt_nat hi, inb_nat hi, wrap_nat (by omega)]
      simp only [cond_true, badB]
      by_cases h0 : i = 0
      · subst h0
        simp
        cases decide (97 ≤ ((bt s 0).toNat : Int)) <;> cases decide (((bt s 0).toNat : Int) ≤ 122) <;> rfl
      · have : decide (0 < (i : Int)) = true := by simp; omega
        rw [this]
        simp only [h0, decide_false, cond_true, Bool.false_or]
        have e : decide (48 ≤ ((bt s i).toNat : Int)) = !decide (((bt s i).toNat : Int) < 48) := by
          rw [← decide_not]; congr 1; simp
        have e' : decide (((bt s i).toNat : Int) ≤ 57) = !decide (57 < ((bt s i).toNat : Int)) := by
          rw [← decide_not]; congr 1; simp
        rw [e, e']
        cases decide (97 ≤ ((bt s i).toNat : Int)) <;> cases decide (((bt s i).toNat : Int) ≤ 122) <;> cases decide (((bt s i).toNat : Int) = 95) <;> cases decide (((bt s i).toNat : Int) < 48) <;> cases decide (57 < ((bt s i).toNat : Int)) <;> rfl
    · dsimp only
      rw [E26_0_eq, nlt_nat]; rfl
  rw [F26_eq, hE]
  unfold wordB
  cases anyR (badB s) 0 s.size with
  | true => rfl
  | false =>
    simp only [cond_false, Option.bind_some, Bool.not_false, Bool.true_and]
    have e1 : (!decide (s = { data := #[] })) = decide (1 ≤ s.size) := by
      rw [← decide_not]; exact decide_eq_decide.2 (by rw [size_zero]; omega)
    have e2 : decide ((s.size : Int) ≤ 16) = decide (s.size ≤ 16) := by simp; omega
    rw [e1, e2]
    cases decide (1 ≤ s.size) <;> rfl
end Go.Pv.L16

/- Layer 16, plainly: the words that are kept; names; values; texts. -/
namespace Go.Pv.L16
open Go Go.Pv Go.Proofs
set_option linter.all false
set_option linter.constructorNameAsVariable false
set_option linter.unusedSectionVars false
set_option linter.unusedVariables false
set_option linter.unusedSimpArgs false

/-- The first word, if a blank ends it. -/
def word1 : List UInt8 → Option (List UInt8)
  | [] => none
  | c :: r => bif decide (c = 32) then some [] else (word1 r).map (c :: ·)
/-- What stands between blanks. -/
def wordsIn : List UInt8 → List (List UInt8)
  | [] => []
  | c :: r => bif decide (c = 32) then (word1 r).toList ++ wordsIn r else wordsIn r

theorem pre_word1 : ∀ (t rest : List UInt8), (∀ x, x ∈ t → x ≠ 32) → ((t ++ [32]).isPrefixOf rest = true ↔ word1 rest = some t)
  | [], [], h => by simp [word1]
  | [], c :: r, h => by
    simp only [List.nil_append, List.isPrefixOf, Bool.and_true, word1, beq_iff_eq]
    by_cases hc : c = 32
    · subst hc; simp
    · simp only [hc, decide_false, cond_false, Option.map_eq_some_iff]
      constructor
      · intro e; exact absurd e.symm hc
      · rintro ⟨a, _, h2⟩; cases h2
  | a :: t, [], h => by simp [word1]
  | a :: t, c :: r, h => by
    have ha : a ≠ 32 := h a (by simp)
    have ih := pre_word1 t r (fun x hx => h x (by simp [hx]))
    simp only [List.cons_append, List.isPrefixOf, Bool.and_eq_true, beq_iff_eq, ih, word1]
    by_cases hc : c = 32
    · subst hc
      simp only [decide_true, cond_true, Option.some.injEq]
      constructor
      · rintro ⟨h1, _⟩; exact absurd h1 ha
      · intro e; cases e
    · simp only [hc, decide_false, cond_false, Option.map_eq_some_iff]
      constructor
      · rintro ⟨rfl, h2⟩; exact ⟨t, h2, rfl⟩
      · rintro ⟨u, h1, h2⟩
        injection h2 with h2 h3
        subst h2; subst h3
        exact ⟨rfl, h1⟩

theorem contains_nil (sub : List UInt8) (hs : sub ≠ []) : Lib.contains [] sub = false := by
  cases sub with
  | nil => exact absurd rfl hs
  | cons a l => rfl
theorem contains_cons (b : UInt8) (l sub : List UInt8) : Lib.contains (b :: l) sub = (sub.isPrefixOf (b :: l) || Lib.contains l sub) := by
  unfold Lib.contains
  rw [Lib.index]
  cases hp : sub.isPrefixOf (b :: l) with
  | true => simp
  | false =>
    simp only [Bool.false_eq_true, if_false, Bool.false_or]
    have := Lib.index_ge l sub
    by_cases h : Lib.index l sub = -1
    · simp [h]
    · have h' : (Lib.index l sub == -1) = false := by simpa using h
      rw [h']
      simp only [Bool.false_eq_true, if_false]
      exact decide_eq_decide.2 (by omega)

theorem contains_words : ∀ (l t : List UInt8), (∀ x, x ∈ t → x ≠ 32) → (Lib.contains l (32 :: (t ++ [32])) = true ↔ t ∈ wordsIn l)
  | [], t, h => by rw [contains_nil _ (by simp)]; simp [wordsIn]
  | c :: r, t, h => by
    rw [contains_cons, Bool.or_eq_true, contains_words r t h]
    simp only [List.isPrefixOf, Bool.and_eq_true, beq_iff_eq, pre_word1 t r h, wordsIn]
    by_cases hc : c = 32
    · subst hc
      simp only [decide_true, cond_true, true_and, List.mem_append, Option.mem_toList]
    · simp only [hc, decide_false, cond_false]
      constructor
      · rintro (⟨h1, _⟩ | h1)
        · exact absurd h1.symm hc
        · exact h1
      · exact .inr

theorem not_contains_blank : ∀ (t : List UInt8), (∀ x, x ∈ t → x ≠ 32) → Lib.contains t [32] = false
  | [], h => rfl
  | c :: r, h => by
    rw [contains_cons, not_contains_blank r (fun x hx => h x (by simp [hx]))]
    have := h c (by simp)
    have h2 : (32 == c) = false := by simpa using fun e => this e.symm
    simp [List.isPrefixOf, h2]

def keyW : List (List UInt8) := [[115,101,113],[116,104,101,110],[110,111,116],[111,114],[119,104,101,114,101],[97,110,100],[119,105,116,104,105,110],[98,121],[112,105,99,107],[97,110,121],[110,101,120,116],[115,116,114,105,99,116],[116,114,117,101],[102,97,108,115,101],[99,111,117,110,116],[115,117,109],[109,105,110],[109,97,120]]
def keyL : List ByteArray := [⟨#[115,101,113]⟩,⟨#[116,104,101,110]⟩,⟨#[110,111,116]⟩,⟨#[111,114]⟩,⟨#[119,104,101,114,101]⟩,⟨#[97,110,100]⟩,⟨#[119,105,116,104,105,110]⟩,⟨#[98,121]⟩,⟨#[112,105,99,107]⟩,⟨#[97,110,121]⟩,⟨#[110,101,120,116]⟩,⟨#[115,116,114,105,99,116]⟩,⟨#[116,114,117,101]⟩,⟨#[102,97,108,115,101]⟩,⟨#[99,111,117,110,116]⟩,⟨#[115,117,109]⟩,⟨#[109,105,110]⟩,⟨#[109,97,120]⟩]
theorem keyL_W : keyL = keyW.map fun w => ⟨w.toArray⟩ := by rfl
def keyB (s : ByteArray) : Bool := anyR (fun i => decide (keyL.getD i ByteArray.empty = s)) 0 18
theorem keyB_iff {s : ByteArray} : keyB s = true ↔ s.data.toList ∈ keyW := by
  have e : keyB s = true ↔ s ∈ keyL := by
    unfold keyB
    rw [anyR_iff, List.mem_iff_getElem]
    constructor
    · rintro ⟨m, _, h1, h2⟩
      refine ⟨m, h1, ?_⟩
      have := of_decide_eq_true h2
      rw [List.getD_eq_getElem?_getD, List.getElem?_eq_getElem h1] at this
      exact this
    · rintro ⟨m, h1, h2⟩
      refine ⟨m, Nat.zero_le _, h1, ?_⟩
      rw [List.getD_eq_getElem?_getD, List.getElem?_eq_getElem h1]
      simpa using h2
  rw [e, keyL_W, List.mem_map]
  constructor
  · rintro ⟨w, h1, rfl⟩
    have : (⟨w.toArray⟩ : ByteArray).data.toList = w := by simp
    rw [this]; exact h1
  · intro h; exact ⟨_, h, by obtain ⟨⟨l⟩⟩ := s; rfl⟩

theorem F43_eq (k : Nat) (x0 : Ty.den T9) : F43 k (x0, ()) = ((E43_0 k k (x0, keyL, 0, ())).bind fun y =>
  match y with
  | Sum.inl y => some ((false, ()), ())
  | Sum.inr y =>
    match y with
    | Sum.inl y => some ((y.fst, ()), ())
    | Sum.inr y => nomatch y) := by kernel_rfl

theorem F43_spec {k : Nat} {s : ByteArray} (hk : 18 < k) : F43 k (s, ()) = some ((keyB s, ()), ()) := by
  have hE : E43_0 k k (s, keyL, 0, ()) = some (bif anyR (fun i => decide (keyL.getD i ByteArray.empty = s)) 0 18 then Sum.inr (Sum.inl (true, ())) else Sum.inl ()) := by
    refine scan0 (n := 18) (E := fun j i => E43_0 k j (s, keyL, i, ())) (fun j i hi => ?_) (fun j => ?_) hk
    · dsimp only
      have hi' : i < keyL.length := hi
      rw [E43_0_eq, lt_nat hi', inb_nat hi', wrap_nat (by omega), rd_nat]
      rfl
    · dsimp only
      rw [E43_0_eq, show decide ((((18 : Nat) : Int)) < (keyL.length : Int)) = false from rfl]; rfl
  rw [F43_eq, hE]
  unfold keyB
  cases anyR (fun i => decide (keyL.getD i ByteArray.empty = s)) 0 18 <;> rfl

def nameB (s : ByteArray) : Bool := wordB s && !keyB s
theorem F29_spec {k : Nat} {s : ByteArray} (h18 : 18 < k) (hk : s.size < k) (hs : s.size < 9223372036854775807) : F29 k (s, ()) = some ((nameB s, ()), ()) := by
  rw [F29_eq, F42_spec hk hs, F43_spec h18]
  unfold nameB
  cases wordB s <;> rfl

theorem bt_mem {s : ByteArray} {x : UInt8} (h : x ∈ s.data.toList) : ∃ i, i < s.size ∧ bt s i = x := by
  obtain ⟨i, h1, h2⟩ := List.mem_iff_getElem.1 h
  refine ⟨i, by rw [Array.length_toList] at h1; exact h1, ?_⟩
  unfold bt
  rw [Int.toNat_natCast, List.getD_eq_getElem?_getD, List.getElem?_eq_getElem h1]
  exact h2

theorem word_no_blank {s : ByteArray} (h : wordB s = true) : ∀ x, x ∈ s.data.toList → x ≠ 32 := by
  intro x hx e
  subst e
  obtain ⟨i, h1, h2⟩ := bt_mem hx
  unfold wordB at h
  rw [Bool.and_eq_true, Bool.not_eq_true'] at h
  have : anyR (badB s) 0 s.size = true := anyR_iff.2 ⟨i, Nat.zero_le _, h1, by simp [badB, h2]⟩
  rw [this] at h
  cases h.1

def keyText : List UInt8 := [32, 115, 101, 113, 32, 116, 104, 101, 110, 32, 110, 111, 116, 32, 111, 114, 32, 119, 104, 101, 114, 101, 32, 97, 110, 100, 32, 119, 105, 116, 104, 105, 110, 32, 98, 121, 32, 112, 105, 99, 107, 32, 97, 110, 121, 32, 110, 101, 120, 116, 32, 115, 116, 114, 105, 99, 116, 32, 116, 114, 117, 101, 32, 102, 97, 108, 115, 101, 32, 99, 111, 117, 110, 116, 32, 115, 117, 109, 32, 109, 105, 110, 32, 109, 97, 120, 32]
theorem wordsIn_key : wordsIn keyText = keyW := by decide +kernel

theorem F27_spec {k : Nat} {s : ByteArray} (hw : wordB s = true) : F27 k (s, ()) = some ((keyB s, ()), ()) := by
  have hsz : 1 ≤ s.size ∧ s.size ≤ 16 := by
    unfold wordB at hw
    simp only [Bool.and_eq_true, decide_eq_true_eq] at hw
    exact hw.2
  have hne : decide (s = { data := #[] : ByteArray }) = false := by
    rw [decide_eq_false_iff_not, size_zero]; omega
  have hnb := word_no_blank hw
  have h1 : F40 k (s, { data := #[32] : ByteArray }, ()) = some ((false, ()), ()) := by
    unfold F40
    dsimp only
    rw [show decide (s.size < 4294967281) = true by simp; omega, cond_true]
    exact congrArg (fun b => some ((b, ()), ())) (not_contains_blank _ hnb)
  have h2 : F40 k ({ data := keyText.toArray : ByteArray }, { data := #[32] : ByteArray } ++ s ++ { data := #[32] : ByteArray }, ()) = some ((keyB s, ()), ()) := by
    unfold F40
    dsimp only
    rw [show decide (({ data := keyText.toArray : ByteArray }).size < 4294967281) = true from rfl, cond_true]
    congr 3
    rw [Bool.eq_iff_iff, keyB_iff, ← wordsIn_key]
    have : ({ data := #[32] : ByteArray } ++ s ++ { data := #[32] : ByteArray }).data.toList = 32 :: (s.data.toList ++ [32]) := by
      simp [ByteArray.data_append]
    rw [this]
    exact contains_words _ _ hnb
  have h3 : decide ({ data := #[32] : ByteArray }.size + s.size ≤ 9223372036854775807) = true := by
    have : ({ data := #[32] : ByteArray }).size = 1 := rfl
    rw [this]; simp; omega
  have h4 : decide (({ data := #[32] : ByteArray } ++ s).size + { data := #[32] : ByteArray }.size ≤ 9223372036854775807) = true := by
    have : ({ data := #[32] : ByteArray }).size = 1 := rfl
    rw [ByteArray.size_append, this]; simp; omega
  rw [F27_eq, hne, h1]
  show (bif decide ({ data := #[32] : ByteArray }.size + s.size ≤ 9223372036854775807) then bif decide (({ data := #[32] : ByteArray } ++ s).size + { data := #[32] : ByteArray }.size ≤ 9223372036854775807) then (F40 k ({ data := keyText.toArray : ByteArray }, { data := #[32] : ByteArray } ++ s ++ { data := #[32] : ByteArray }, ())).bind fun y_1 => some ((y_1.fst.fst, ()), ()) else none else none) = _
  rw [h3, h4, h2]
  rfl

theorem F99_spec {k : Nat} {s : ByteArray} (hk : s.size < k) (hs : s.size < 9223372036854775807) : F99 k (s, ()) = some ((nameB s, ()), ()) := by
  rw [F99_eq, F26_spec hk hs]
  unfold nameB
  cases hw : wordB s with
  | false => rfl
  | true =>
    show (F27 k (s, ())).bind (fun y_1 => some ((!y_1.fst.fst, ()), ())) = _
    rw [F27_spec hw]
    rfl
end Go.Pv.L16

