/- The engine, part 12c: regions without an order: who is ahead of whom; what is known of each operation; any order at all. -/
import Derived.Test.YtfnhnkaikpgnbaaPvD
namespace Go.Pv
open Go
set_option linter.all false
set_option linter.constructorNameAsVariable false
set_option linter.unusedSectionVars false
set_option linter.unusedVariables false
set_option linter.unusedSimpArgs false

section
variable {C : Cfg} {T : List (Nat × Spec)} {n : Nat} (all : List Oper)

/-! ### who is ahead -/
def Shut (L : Nat → Prop) : Prop := ∀ i o, nth all i = some o → L i → ∀ j, j ∈ dirs o → L j
def AncOk (acc : List Nat) : Prop := ∀ i A, nth acc i = some A → ∀ L, Shut all L → ∀ o, nth all i = some o → (∀ j, j ∈ dirs o → L j) → ∀ k, Nat.testBit A k = true → L k

theorem nth_lt {α : Type} {l : List α} {i : Nat} {x : α} (h : nth l i = some x) : i < l.length := by
  rw [nth_eq] at h
  exact (List.getElem?_eq_some_iff.1 h).1

variable {all}
theorem bits_spec {acc : List Nat} (hlen : acc.length ≤ all.length) (ha : AncOk all acc) {L : Nat → Prop} (hL : Shut all L) : ∀ (ds : List Nat), (∀ j, j ∈ ds → L j) → ∀ k, Nat.testBit (bitsOf acc ds) k = true → L k
  | [], h, k, hk => by simp [bitsOf] at hk
  | j :: r, h, k, hk => by
    have e : Nat.testBit (bitsOf acc (j :: r)) k = ((Nat.testBit (2 ^ j) k || Nat.testBit ((nth acc j).getD 0) k) || Nat.testBit (bitsOf acc r) k) := by
      show Nat.testBit ((2 ^ j ||| (nth acc j).getD 0) ||| bitsOf acc r) k = _
      rw [Nat.testBit_or, Nat.testBit_or]
    rw [e] at hk
    simp only [Bool.or_eq_true] at hk
    rcases hk with (hk | hk) | hk
    · rw [Nat.testBit_two_pow] at hk
      have : j = k := by simpa using hk
      subst this
      exact h j (List.mem_cons_self ..)
    · cases hn : nth acc j with
      | none => rw [hn] at hk; simp at hk
      | some A =>
        rw [hn] at hk
        have hj := h j (List.mem_cons_self ..)
        have hlt : j < all.length := Nat.lt_of_lt_of_le (nth_lt hn) hlen
        have ho : nth all j = some all[j] := by rw [nth_eq, List.getElem?_eq_getElem hlt]
        exact ha j A hn L hL _ ho (hL j _ ho hj) k hk
    · exact bits_spec hlen ha hL r (fun j' hj' => h j' (List.mem_cons_of_mem _ hj')) k hk

theorem ancT_spec : ∀ (l pre : List Oper) (acc : List Nat), all = pre ++ l → acc.length = pre.length → AncOk all acc → AncOk all (ancT l acc)
  | [], pre, acc, hall, hlen, ha => ha
  | o :: r, pre, acc, hall, hlen, ha => by
    refine ancT_spec r (pre ++ [o]) (acc ++ [bitsOf acc (dirs o)]) (by simp [hall]) (by simp [hlen]) ?_
    intro i A hi L hL o' ho' hd k hk
    rw [nth_eq] at hi
    by_cases hlt : i < acc.length
    · rw [List.getElem?_append_left hlt] at hi
      exact ha i A (by rw [nth_eq]; exact hi) L hL o' ho' hd k hk
    · rw [List.getElem?_append_right (by omega)] at hi
      have hi0 : i - acc.length = 0 := by
        have := (List.getElem?_eq_some_iff.1 hi).1
        simp at this
        omega
      have hii : i = pre.length := by omega
      rw [hi0] at hi
      simp at hi
      subst hi
      have : o' = o := by
        rw [nth_eq, hall, hii] at ho'
        simp at ho'
        exact ho'.symm
      subst this
      exact bits_spec (by rw [hlen, hall]; simp) ha hL (dirs o') hd k hk

theorem ahead_spec {A t : Nat} : ∀ (r : List Oper) (j : Nat), ahead A t j r = true → ∀ m o, nth r m = some o → o.dst = some t → Nat.testBit A (j + m) = true
  | [], j, h, m, o, hm, hd => by simp [nth] at hm
  | o' :: r, j, h, m, o, hm, hd => by
    simp only [ahead, Bool.and_eq_true] at h
    cases m with
    | zero =>
      simp only [nth, Option.some.injEq] at hm
      subst hm
      have h1 := h.1
      rw [hd] at h1
      simpa using h1
    | succ m =>
      have := ahead_spec r (j + 1) h.2 m o (by simpa [nth] using hm) hd
      rw [show j + (m + 1) = j + 1 + m by omega]
      exact this

theorem old_spec {A : List Nat} {i t : Nat} : ∀ (r : List Oper) (j : Nat), oldB A i t j r = true → ∀ m o, nth r m = some o → o.dst = some t → j + m ≠ i ∧ Nat.testBit ((nth A (j + m)).getD 0) i = true
  | [], j, h, m, o, hm, hd => by simp [nth] at hm
  | o' :: r, j, h, m, o, hm, hd => by
    simp only [oldB, Bool.and_eq_true] at h
    cases m with
    | zero =>
      simp only [nth, Option.some.injEq] at hm
      subst hm
      have h1 := h.1
      rw [hd] at h1
      simp only [Nat.beq_refl, cond_true, Bool.and_eq_true, Bool.not_eq_true'] at h1
      refine ⟨fun e => ?_, h1.2⟩
      rw [Nat.add_zero] at e
      have h2 := h1.1
      rw [e, Nat.beq_refl] at h2
      cases h2
    | succ m =>
      have := old_spec r (j + 1) h.2 m o (by simpa [nth] using hm) hd
      rw [show j + (m + 1) = j + 1 + m by omega]
      exact this

theorem bar_spec {A : List Nat} {s : Nat} : ∀ (r : List Oper) (j : Nat), barB C A s j r = true → ∀ m o, nth r m = some o → kind C o.op ≠ .free → j + m = s ∨ Nat.testBit ((nth A (j + m)).getD 0) s = true ∨ Nat.testBit ((nth A s).getD 0) (j + m) = true
  | [], j, h, m, o, hm, hd => by simp [nth] at hm
  | o' :: r, j, h, m, o, hm, hd => by
    simp only [barB, Bool.and_eq_true] at h
    cases m with
    | zero =>
      simp only [nth, Option.some.injEq] at hm
      subst hm
      have h1 := h.1
      split at h1
      · rename_i hk
        exact absurd hk hd
      · simp only [Bool.or_eq_true] at h1
        rcases h1 with h1 | h1 | h1
        · exact .inl (Nat.eq_of_beq_eq_true h1)
        · exact .inr (.inl h1)
        · exact .inr (.inr h1)
    | succ m =>
      have := bar_spec r (j + 1) h.2 m o (by simpa [nth] using hm) hd
      rw [show j + (m + 1) = j + 1 + m by omega]
      exact this

/-! ### counting -/
variable (C all)
def isCh (o : Oper) : Bool := match kind C o.op with | .chain => true | _ => false
def cnt : Nat → Nat
  | 0 => 0
  | i + 1 => cnt i + match nth all i with
    | some o => (match isCh C o with | true => 1 | false => 0)
    | none => 0
variable {C all}
theorem cnt_mono {i j : Nat} (h : i ≤ j) : cnt C all i ≤ cnt C all j := by
  induction j with
  | zero => simp at h; subst h; exact Nat.le_refl _
  | succ j ih =>
    by_cases he : i = j + 1
    · subst he; exact Nat.le_refl _
    · exact Nat.le_trans (ih (by omega)) (by simp only [cnt]; omega)
theorem cnt_ch {i : Nat} {o : Oper} (ho : nth all i = some o) (hc : isCh C o = true) : cnt C all (i + 1) = cnt C all i + 1 := by simp only [cnt, ho, hc]
theorem cnt_not {i : Nat} {o : Oper} (ho : nth all i = some o) (hc : isCh C o = false) : cnt C all (i + 1) = cnt C all i := by simp only [cnt, ho, hc]; rfl
theorem cnt_lt {i j : Nat} {o : Oper} (ho : nth all i = some o) (hc : isCh C o = true) (h : i < j) : cnt C all i < cnt C all j := by
  have := cnt_mono (C := C) (all := all) (i := i + 1) (j := j) h
  rw [cnt_ch ho hc] at this
  omega
theorem cnt_surj : ∀ (N c : Nat), c < cnt C all N → ∃ s o, s < N ∧ nth all s = some o ∧ isCh C o = true ∧ cnt C all s = c
  | 0, c, h => by simp [cnt] at h
  | N + 1, c, h => by
    by_cases h1 : c < cnt C all N
    · obtain ⟨s, o, k1, k2, k3, k4⟩ := cnt_surj N c h1
      exact ⟨s, o, by omega, k2, k3, k4⟩
    · cases ho : nth all N with
      | none => simp only [cnt, ho] at h; omega
      | some o =>
        cases hc : isCh C o with
        | true => rw [cnt_ch ho hc] at h; exact ⟨N, o, by omega, ho, hc, by omega⟩
        | false => rw [cnt_not ho hc] at h; omega
theorem cnt_inj {i j : Nat} {o o' : Oper} (ho : nth all i = some o) (hc : isCh C o = true) (ho' : nth all j = some o') (hc' : isCh C o' = true) (h : cnt C all i = cnt C all j) : i = j := by
  rcases Nat.lt_trichotomy i j with k | k | k
  · have := cnt_lt ho hc k; omega
  · exact k
  · have := cnt_lt ho' hc' k; omega

/-! ### what is known of each operation -/
def lookD (E : Env) (d : Option Nat) (v : V) : Prop := ∀ t, d = some t → look t E = v

variable (C T all)
def GCore (o : Oper) (ei : Env) (dv : V) (MA : List Ob → Prop) (MB : List Ob → List Ob → Prop) : Prop :=
  match o.guard with
  | none => ∀ h, MA h → ∃ h', MB h h' ∧ (evalW C T o ei h []).got dv h'
  | some (j, want) => ∃ d x, (nth all j).bind (·.dst) = some d ∧ condG ei 9 d want = some x ∧
      (x = true → ∃ v ei', (ei' = ei ∨ ei' = (d, .b want) :: ei) ∧ (dv = v ∨ dv = .g d want v) ∧ ∀ h, MA h → ∃ h', MB h h' ∧ (evalW C T o ei' h (actG ei 9 d want)).got v h') ∧
      (x = false → (dv = .u ∨ ∃ v, dv = .g d want v) ∧ ∀ h, MA h → MB h h)

def EnvI (E0 : Env) (A : List Nat) (i : Nat) (E : Env) (Ai : Nat) (ei : Env) : Prop := ∀ t, look t ei = .u ∨ (look t ei = look t E ∧ ahead Ai t 0 all = true) ∨ (look t ei = look t E0 ∧ oldB A i t 0 all = true)
def GdAhead (Ai : Nat) (o : Oper) : Prop := ∀ j want, o.guard = some (j, want) → ∀ d, (nth all j).bind (·.dst) = some d → ahead Ai d 0 all = true

def GFact (E0 : Env) (A : List Nat) (i : Nat) (E : Env) (Ai : Nat) (o : Oper) (MA : List Ob → Prop) (MB : List Ob → List Ob → Prop) : Prop :=
  GdAhead all Ai o ∧ ∃ ei dv, EnvI all E0 A i E Ai ei ∧ lookD E o.dst dv ∧ GCore C T all o ei dv MA MB

structure SF (E0 : Env) (A : List Nat) (E : Env) (h0 h1 b0 b1 : List Ob) (i : Nat) (o : Oper) (Ai : Nat) : Prop where
  at_ : nth A i = some Ai
  lt : Ai < 2 ^ i
  dlt : ∀ j, j ∈ dirs o → j < i
  dst : ∀ d, o.dst = some d → d < n
  free : kind C o.op = .free → GFact C T all E0 A i E Ai o (fun _ => True) (fun h h' => h' = h)
  read : kind C o.op = .read → GFact C T all E0 A i E Ai o (fun h => Pre b0 h) (fun h h' => h' = h)
  chain : isCh C o = true → GFact C T all E0 A i E Ai o (fun h => h = h0) (fun _ h' => h' = h1) ∧
    (cnt C all i = 0 ∨ ∃ p op, nth all p = some op ∧ isCh C op = true ∧ cnt C all p + 1 = cnt C all i ∧ Nat.testBit Ai p = true) ∧
    (barB C A i 0 all = true ∨ b1 = b0)
end
end Go.Pv
