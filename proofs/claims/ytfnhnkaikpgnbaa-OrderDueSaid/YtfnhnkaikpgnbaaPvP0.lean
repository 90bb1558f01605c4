/- Plain lemmas for loops that scan. -/
import Derived.Test.YtfnhnkaikpgnbaaPv1
namespace Go.Pv
open Go
set_option linter.all false
set_option linter.constructorNameAsVariable false
set_option linter.unusedSectionVars false
set_option linter.unusedVariables false
set_option linter.unusedSimpArgs false

/-- Is it so of a number from i on, below n? -/
def anyR (p : Nat → Bool) (i n : Nat) : Bool := (List.range' i (n - i)).any p
theorem anyR_end (p : Nat → Bool) (n : Nat) : anyR p n n = false := by simp [anyR]
theorem anyR_step (p : Nat → Bool) {i n : Nat} (h : i < n) : anyR p i n = (p i || anyR p (i + 1) n) := by
  unfold anyR
  rw [show n - i = (n - (i + 1)) + 1 by omega, List.range'_succ, List.any_cons]
theorem anyR_iff {p : Nat → Bool} {i n : Nat} : anyR p i n = true ↔ ∃ m, i ≤ m ∧ m < n ∧ p m = true := by
  unfold anyR
  rw [List.any_eq_true]
  constructor
  · rintro ⟨m, hm, hp⟩
    rw [List.mem_range'_1] at hm
    exact ⟨m, by omega, by omega, hp⟩
  · rintro ⟨m, h1, h2, hp⟩
    exact ⟨m, by rw [List.mem_range'_1]; omega, hp⟩
theorem anyR_congr {p q : Nat → Bool} {i n : Nat} (h : ∀ m, i ≤ m → m < n → p m = q m) : anyR p i n = anyR q i n := by
  rw [Bool.eq_iff_iff, anyR_iff, anyR_iff]
  constructor
  · rintro ⟨m, h1, h2, h3⟩; exact ⟨m, h1, h2, by rw [← h m h1 h2]; exact h3⟩
  · rintro ⟨m, h1, h2, h3⟩; exact ⟨m, h1, h2, by rw [h m h1 h2]; exact h3⟩

theorem scan {X : Type} {E : Nat → Int → Option X} {n : Nat} {p : Nat → Bool} {a b : X} (h : ∀ j (i : Nat), i < n → E (j + 1) (i : Int) = bif p i then some a else E j ((i : Int) + 1))
    (hend : ∀ j, E (j + 1) (n : Int) = some b) : ∀ (d i j : Nat), n - i = d → i ≤ n → d < j → E j (i : Int) = some (bif anyR p i n then a else b) := by
  intro d
  induction d with
  | zero =>
    intro i j h1 h2 h3
    have : i = n := by omega
    subst this
    match j, h3 with
    | j + 1, _ => rw [hend, anyR_end]; rfl
  | succ d ih =>
    intro i j h1 h2 h3
    match j, h3 with
    | j + 1, h3 =>
      have hlt : i < n := by omega
      rw [h j i hlt, anyR_step p hlt]
      cases p i with
      | true => rfl
      | false =>
        have := ih (i + 1) j (by omega) (by omega) (by omega)
        rw [show (((i + 1 : Nat)) : Int) = (i : Int) + 1 by omega] at this
        simpa using this

/-- .. from the beginning on. -/
theorem scan0 {X : Type} {E : Nat → Int → Option X} {n : Nat} {p : Nat → Bool} {a b : X} (h : ∀ j (i : Nat), i < n → E (j + 1) (i : Int) = bif p i then some a else E j ((i : Int) + 1))
    (hend : ∀ j, E (j + 1) (n : Int) = some b) {k : Nat} (hk : n < k) : E k 0 = some (bif anyR p 0 n then a else b) := by
  have := scan h hend n 0 k (by omega) (by omega) hk
  simpa using this

theorem wrap_le {x : Int} (h0 : -9223372036854775808 ≤ x) (h1 : x ≤ 9223372036854775807) : IntKind.i64.wrap x = x := by
  rw [IntKind.wrap_i64]
  omega
theorem wrap_nat {i : Nat} (h : i < 9223372036854775807) : IntKind.i64.wrap ((i : Int) + 1) = (i : Int) + 1 := wrap_le (by omega) (by omega)
theorem inb_nat {i n : Nat} (h : i < n) : inb (i : Int) n = true := by simp [inb]; omega
theorem lt_nat {i n : Nat} (h : i < n) : decide ((i : Int) < (n : Int)) = true := by simp; omega
theorem nlt_nat (n : Nat) : decide ((n : Int) < (n : Int)) = false := by simp
theorem rd_nat {e : Ty} (xs : List e.den) (i : Nat) : rd e xs (i : Int) = xs.getD i e.dflt := by simp [rd]
theorem rd_get {e : Ty} {xs : List e.den} {i : Nat} (h : i < xs.length) : rd e xs (i : Int) = xs[i] := by
  rw [rd_nat, List.getD_eq_getElem?_getD, List.getElem?_eq_getElem h]; rfl

theorem dec_lt (a b : Int) : decide (a < b) = !decide (b ≤ a) := by rw [← decide_not]; exact decide_eq_decide.2 (by omega)

theorem mpGet_same (k : ByteArray) (n : Int) : ∀ es, mpGet k (mpPut k n es) = some n
  | [] => by simp [mpPut, mpGet]
  | (j, m) :: r => by
    by_cases h : k = j
    · simp [mpPut, mpGet, h]
    · simp [mpPut, mpGet, h, mpGet_same k n r]
theorem mpGet_other {k s : ByteArray} (n : Int) (hs : s ≠ k) : ∀ es, mpGet s (mpPut k n es) = mpGet s es
  | [] => by simp [mpPut, mpGet, hs]
  | (j, m) :: r => by
    by_cases h : k = j
    · subst h; simp [mpPut, mpGet, hs]
    · by_cases h2 : s = j
      · simp [mpPut, mpGet, h, h2]
      · simp [mpPut, mpGet, h, h2, mpGet_other n hs r]

/-- How often, with one more. -/
def mpV (s : ByteArray) (es : List (ByteArray × Int)) : Int := IntKind.i64.wrap ((match mpGet s es with | some n => n | none => 0) + 1)
/-- Did it stand ahead? -/
def dupK (key : Nat → ByteArray) (i : Nat) : Bool := anyR (fun m => decide (key m = key i)) 0 i
/-- Each that stood ahead is counted once. -/
def MapInv (key : Nat → ByteArray) (i : Nat) (es : List (ByteArray × Int)) : Prop := ∀ s, ((∃ m, m < i ∧ key m = s) → mpGet s es = some 1) ∧ ((¬ ∃ m, m < i ∧ key m = s) → mpGet s es = none)
theorem mapInv_nil (key : Nat → ByteArray) : MapInv key 0 [] := fun s => ⟨fun ⟨m, h, _⟩ => absurd h (Nat.not_lt_zero _), fun _ => rfl⟩
theorem mpV_dup {key : Nat → ByteArray} {i : Nat} {es : List (ByteArray × Int)} (h : MapInv key i es) : decide (1 < mpV (key i) es) = dupK key i := by
  unfold mpV dupK
  rw [Bool.eq_iff_iff, anyR_iff]
  by_cases hd : ∃ m, m < i ∧ key m = key i
  · rw [(h (key i)).1 hd]
    obtain ⟨m, h1, h2⟩ := hd
    exact ⟨fun _ => ⟨m, Nat.zero_le _, h1, by simpa using h2⟩, fun _ => by decide⟩
  · rw [(h (key i)).2 hd]
    refine ⟨fun e => absurd e (by decide), ?_⟩
    rintro ⟨m, _, h1, h2⟩
    exact absurd ⟨m, h1, by simpa using h2⟩ hd
theorem mapInv_step {key : Nat → ByteArray} {i : Nat} {es : List (ByteArray × Int)} (h : MapInv key i es) (hd : dupK key i = false) : MapInv key (i + 1) (mpPut (key i) (mpV (key i) es) es) := by
  have hno : ¬ ∃ m, m < i ∧ key m = key i := by
    rintro ⟨m, h1, h2⟩
    have : dupK key i = true := anyR_iff.2 ⟨m, Nat.zero_le _, h1, by simpa using h2⟩
    rw [hd] at this; cases this
  have hv : mpV (key i) es = 1 := by unfold mpV; rw [(h (key i)).2 hno]; decide
  intro s
  by_cases hs : s = key i
  · subst hs
    rw [mpGet_same, hv]
    exact ⟨fun _ => rfl, fun q => absurd ⟨i, Nat.lt_succ_self i, rfl⟩ q⟩
  · rw [mpGet_other _ hs]
    constructor
    · rintro ⟨m, h1, h2⟩
      refine (h s).1 ⟨m, ?_, h2⟩
      rcases Nat.lt_or_ge m i with q | q
      · exact q
      · have : m = i := by omega
        subst this; exact absurd h2.symm hs
    · intro q
      exact (h s).2 fun ⟨m, h1, h2⟩ => q ⟨m, by omega, h2⟩

/-- A loop that counts keys in a map. -/
theorem scanM {X : Type} {E : Nat → List (ByteArray × Int) → Int → Option X} {n : Nat} {key : Nat → ByteArray} {q : Nat → Bool} {a b : X}
    (h : ∀ j (i : Nat) es, i < n → E (j + 1) es (i : Int) = bif (decide (1 < mpV (key i) es) || q i) then some a else E j (mpPut (key i) (mpV (key i) es) es) ((i : Int) + 1))
    (hend : ∀ j es, E (j + 1) es (n : Int) = some b) : ∀ (d i j : Nat) es, MapInv key i es → n - i = d → i ≤ n → d < j → E j es (i : Int) = some (bif anyR (fun i => dupK key i || q i) i n then a else b) := by
  intro d
  induction d with
  | zero =>
    intro i j es hi h1 h2 h3
    have : i = n := by omega
    subst this
    match j, h3 with
    | j + 1, _ => rw [hend, anyR_end]; rfl
  | succ d ih =>
    intro i j es hi h1 h2 h3
    match j, h3 with
    | j + 1, h3 =>
      have hlt : i < n := by omega
      rw [h j i es hlt, anyR_step _ hlt, mpV_dup hi]
      cases hd : dupK key i with
      | true => rfl
      | false =>
        cases q i with
        | true => rfl
        | false =>
          have := ih (i + 1) j _ (mapInv_step hi hd) (by omega) (by omega) (by omega)
          rw [show (((i + 1 : Nat)) : Int) = (i : Int) + 1 by omega] at this
          simpa using this
theorem scanM0 {X : Type} {E : Nat → List (ByteArray × Int) → Int → Option X} {n : Nat} {key : Nat → ByteArray} {q : Nat → Bool} {a b : X}
    (h : ∀ j (i : Nat) es, i < n → E (j + 1) es (i : Int) = bif (decide (1 < mpV (key i) es) || q i) then some a else E j (mpPut (key i) (mpV (key i) es) es) ((i : Int) + 1))
    (hend : ∀ j es, E (j + 1) es (n : Int) = some b) {k : Nat} (hk : n < k) : E k [] 0 = some (bif anyR (fun i => dupK key i || q i) 0 n then a else b) := by
  have := scanM h hend n 0 k [] (mapInv_nil key) (by omega) (by omega) hk
  simpa using this
end Go.Pv
