/- Layer 16, plainly: who reads one, however far. -/
import Derived.Test.YtfmcfigoendjiaaGreatPvO16
namespace Go.Pv.L16
open Go Go.Pv Go.Proofs
set_option linter.all false
set_option linter.constructorNameAsVariable false
set_option linter.unusedSectionVars false
set_option linter.unusedVariables false
set_option linter.unusedSimpArgs false

inductive Rch (R : Nat → List Int) (n a : Nat) : Nat → Prop
  | base {i : Nat} : i < n → (a : Int) ∈ R i → Rch R n a i
  | step {i t : Nat} : i < n → (t : Int) ∈ R i → Rch R n a t → Rch R n a i
theorem Rch.lt {R : Nat → List Int} {n a i : Nat} (h : Rch R n a i) : i < n := by cases h <;> assumption
noncomputable def rchB (R : Nat → List Int) (n a i : Nat) : Bool := @decide (Rch R n a i) (Classical.propDecidable _)
theorem rchB_iff {R : Nat → List Int} {n a i : Nat} : rchB R n a i = true ↔ Rch R n a i := by
  unfold rchB
  exact @decide_eq_true_iff _ (Classical.propDecidable _)
noncomputable def readersB (l : List Ent) (x : Int) : List Int := bif rightE l && (decide (0 ≤ x) && decide (x < (l.length : Int))) then rl (rchB (readsOf l) l.length x.toNat) 0 l.length else []

/-! ### how many -/
def cnt (p : Nat → Bool) : Nat → Nat
  | 0 => 0
  | n + 1 => cnt p n + (bif p n then 1 else 0)
theorem cnt_le (p : Nat → Bool) : ∀ n, cnt p n ≤ n
  | 0 => Nat.le_refl _
  | n + 1 => by unfold cnt; have := cnt_le p n; cases p n <;> simp <;> omega
theorem cnt_mono {p q : Nat → Bool} : ∀ {n : Nat}, (∀ i, i < n → p i = true → q i = true) → cnt p n ≤ cnt q n
  | 0, _ => Nat.le_refl _
  | n + 1, h => by
    unfold cnt
    have := cnt_mono (p := p) (q := q) (n := n) fun i hi => h i (by omega)
    cases hp : p n with
    | false => simp; omega
    | true => rw [h n (by omega) hp]; simp; omega
theorem cnt_more {p q : Nat → Bool} : ∀ {n : Nat}, (∀ i, i < n → p i = true → q i = true) → ∀ {m}, m < n → q m = true → p m = false → cnt p n + 1 ≤ cnt q n
  | 0, _, m, hm, _, _ => by omega
  | n + 1, h, m, hm, hq, hp => by
    unfold cnt
    by_cases e : m = n
    · subst e
      have := cnt_mono (p := p) (q := q) (n := m) fun i hi => h i (by omega)
      rw [hq, hp]; simp; omega
    · have := cnt_more (p := p) (q := q) (n := n) (fun i hi => h i (by omega)) (m := m) (by omega) hq hp
      cases hp' : p n with
      | false => simp; omega
      | true => rw [h n (by omega) hp']; simp; omega
theorem cnt_full {p : Nat → Bool} : ∀ {n : Nat}, n ≤ cnt p n → ∀ i, i < n → p i = true
  | 0, _, i, hi => by omega
  | n + 1, h, i, hi => by
    unfold cnt at h
    have := cnt_le p n
    cases hp : p n with
    | false => rw [hp] at h; simp at h; omega
    | true =>
      rw [hp] at h
      simp at h
      by_cases e : i = n
      · subst e; exact hp
      · exact cnt_full h i (by omega)

/-! ### rows that grow -/
theorem sorted_ext : ∀ (x y : List Int), x.Pairwise (· < ·) → y.Pairwise (· < ·) → (∀ z, z ∈ x ↔ z ∈ y) → x = y
  | [], [], _, _, _ => rfl
  | [], b :: y, _, _, h => by have := (h b).2 (List.mem_cons_self ..); cases this
  | a :: x, [], _, _, h => by have := (h a).1 (List.mem_cons_self ..); cases this
  | a :: x, b :: y, hx, hy, h => by
    rw [List.pairwise_cons] at hx hy
    have e : a = b := by
      rcases List.mem_cons.1 ((h a).1 (List.mem_cons_self ..)) with e | e
      · exact e
      · rcases List.mem_cons.1 ((h b).2 (List.mem_cons_self ..)) with e' | e'
        · exact e'.symm
        · have h1 := hy.1 a e
          have h2 := hx.1 b e'
          omega
    subst e
    rw [sorted_ext x y hx.2 hy.2 fun z => ?_]
    constructor
    · intro hz
      rcases List.mem_cons.1 ((h z).1 (List.mem_cons_of_mem _ hz)) with e | e
      · have := hx.1 z hz; omega
      · exact e
    · intro hz
      rcases List.mem_cons.1 ((h z).2 (List.mem_cons_of_mem _ hz)) with e | e
      · have := hy.1 z hz; omega
      · exact e
theorem rl_sorted (p : Nat → Bool) (m n : Nat) : (rl p m n).Pairwise (· < ·) := by
  unfold rl
  rw [List.pairwise_map]
  refine List.Pairwise.filter _ ?_
  refine List.Pairwise.imp (fun {a b} h => ?_) (List.pairwise_lt_range' (s := m) (n := n - m))
  show (a : Int) < (b : Int)
  omega
theorem up_sorted : ∀ (q : List Int) (x : Int) (r : List Int), (q.reverse ++ r).Pairwise (· < ·) → x ∉ q → (∀ z, z ∈ r → x < z) → (up ltI q x r).Pairwise (· < ·)
  | [], x, r, h, _, hr => by
    show (x :: r).Pairwise _
    rw [List.pairwise_cons]
    exact ⟨hr, h⟩
  | y :: q, x, r, h, hx, hr => by
    rw [List.reverse_cons, List.append_assoc, List.singleton_append] at h
    have e : up ltI (y :: q) x r = bif ltI x y then up ltI q x (y :: r) else (y :: q).reverse ++ x :: r := rfl
    rw [e]
    have hne : x ≠ y := fun e => hx (by rw [e]; exact List.mem_cons_self ..)
    cases hl : ltI x y with
    | true =>
      have hl : x < y := of_decide_eq_true hl
      refine up_sorted q x (y :: r) h (fun hq => hx (List.mem_cons_of_mem _ hq)) fun z hz => ?_
      rcases List.mem_cons.1 hz with rfl | hz
      · exact hl
      · exact hr z hz
    | false =>
      have hl : ¬ x < y := of_decide_eq_false hl
      simp only [cond_false]
      rw [List.pairwise_append] at h
      obtain ⟨h1, h2, h3⟩ := h
      rw [List.pairwise_cons] at h2
      rw [List.reverse_cons, List.append_assoc, List.singleton_append, List.pairwise_append, List.pairwise_cons, List.pairwise_cons]
      refine ⟨h1, ⟨fun z hz => ?_, hr, h2.2⟩, fun a ha b hb => ?_⟩
      · rcases List.mem_cons.1 hz with rfl | hz
        · omega
        · exact h2.1 z hz
      · rcases List.mem_cons.1 hb with rfl | hb
        · exact h3 a ha b (List.mem_cons_self ..)
        · rcases List.mem_cons.1 hb with rfl | hb
          · have := h3 a ha y (List.mem_cons_self ..); omega
          · exact h3 a ha b (List.mem_cons_of_mem _ hb)
theorem iso_sorted : ∀ (r d : List Int), d.Pairwise (· < ·) → (∀ x, x ∈ r → x ∉ d) → r.Nodup → (iso ltI d r).Pairwise (· < ·)
  | [], d, h, _, _ => h
  | x :: r, d, h, hd, hn => by
    rw [List.nodup_cons] at hn
    unfold iso
    refine iso_sorted r _ ?_ (fun y hy hm => ?_) hn.2
    · exact up_sorted d.reverse x [] (by rw [List.reverse_reverse, List.append_nil]; exact h) (fun hm => hd x (List.mem_cons_self ..) (List.mem_reverse.1 hm)) fun z hz => by cases hz
    · rcases (up_mem _ _ _ _ _).1 hm with hm | hm | hm
      · exact hd y (List.mem_cons_of_mem _ hy) (List.mem_reverse.1 hm)
      · subst hm; exact hn.1 hy
      · cases hm
theorem iso_rl {out : List Int} {p : Nat → Bool} {n : Nat} (hn : out.Nodup) (hm : ∀ z, z ∈ out ↔ ∃ i : Nat, z = (i : Int) ∧ i < n ∧ p i = true) : iso ltI [] out = rl p 0 n := by
  refine sorted_ext _ _ (iso_sorted out [] List.Pairwise.nil (fun x _ h => by cases h) hn) (rl_sorted p 0 n) fun z => ?_
  rw [iso_mem, mem_rl, hm]
  constructor
  · rintro (h | ⟨i, h1, h2, h3⟩)
    · cases h
    · exact ⟨i, h1, by omega, h2, h3⟩
  · rintro ⟨i, h1, _, h2, h3⟩
    exact .inr ⟨i, h1, h2, h3⟩
end Go.Pv.L16
