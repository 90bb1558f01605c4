/- Layer 16, plainly: rows that are sorted by insertion. -/
import Derived.Test.YtfmcfigoendjiaaGreatPvD16
namespace Go.Pv.L16
open Go Go.Pv Go.Proofs
set_option linter.all false
set_option linter.constructorNameAsVariable false
set_option linter.unusedSectionVars false
set_option linter.unusedVariables false
set_option linter.unusedSimpArgs false

/-- x goes up to its place: what is ahead of it stands in reverse. -/
def up (lt : Int → Int → Bool) : List Int → Int → List Int → List Int
  | [], x, r => x :: r
  | y :: q, x, r => bif lt x y then up lt q x (y :: r) else (y :: q).reverse ++ x :: r
def iso (lt : Int → Int → Bool) : List Int → List Int → List Int
  | d, [] => d
  | d, x :: r => iso lt (up lt d.reverse x []) r
theorem up_app (lt : Int → Int → Bool) : ∀ (q : List Int) (x : Int) (r s : List Int), up lt q x (r ++ s) = up lt q x r ++ s
  | [], x, r, s => rfl
  | y :: q, x, r, s => by
    unfold up
    cases lt x y with
    | true => exact up_app lt q x (y :: r) s
    | false => simp
theorem up_len (lt : Int → Int → Bool) : ∀ (q : List Int) (x : Int) (r : List Int), (up lt q x r).length = q.length + 1 + r.length
  | [], x, r => by simp [up]; omega
  | y :: q, x, r => by
    unfold up
    cases lt x y with
    | true => simp only [cond_true]; rw [up_len lt q x (y :: r)]; simp; omega
    | false => simp; omega
theorem up_mem (lt : Int → Int → Bool) : ∀ (q : List Int) (x : Int) (r : List Int) (z : Int), z ∈ up lt q x r ↔ z ∈ q ∨ z = x ∨ z ∈ r
  | [], x, r, z => by simp [up]
  | y :: q, x, r, z => by
    unfold up
    cases lt x y with
    | true =>
      simp only [cond_true]
      rw [up_mem lt q x (y :: r) z, List.mem_cons, List.mem_cons]
      constructor
      · rintro (h | h | h | h) <;> simp [h]
      · rintro ((h | h) | h | h) <;> simp [h]
    | false =>
      simp only [cond_false, List.mem_append, List.mem_reverse, List.mem_cons]
theorem iso_len (lt : Int → Int → Bool) : ∀ (r d : List Int), (iso lt d r).length = d.length + r.length
  | [], d => by simp [iso]
  | x :: r, d => by unfold iso; rw [iso_len lt r, up_len]; simp; omega
theorem iso_mem (lt : Int → Int → Bool) : ∀ (r d : List Int) (z : Int), z ∈ iso lt d r ↔ z ∈ d ∨ z ∈ r
  | [], d, z => by simp [iso]
  | x :: r, d, z => by unfold iso; rw [iso_mem lt r, up_mem]; simp [or_assoc]

theorem mid_get (p : List Int) (a : Int) (r : List Int) : (p ++ a :: r).getD p.length 0 = a := by simp
theorem mid_set (p : List Int) (a b : Int) (r : List Int) : (p ++ a :: r).set p.length b = p ++ b :: r := by simp
theorem up_start (y : Int) (q : List Int) (x : Int) (r : List Int) : (y :: q).reverse ++ x :: r = q.reverse ++ y :: x :: r := by simp

/-- What both loops do in a round. -/
theorem up_facts (y : Int) (q : List Int) (x : Int) (r : List Int) :
    rd (Ty.i IntKind.i64) (q.reverse ++ y :: x :: r) ((q.length + 1 : Nat) : Int) = x ∧ rd (Ty.i IntKind.i64) (q.reverse ++ y :: x :: r) (q.length : Int) = y ∧
    ((q.reverse ++ y :: x :: r).set (q.length + 1) y).set q.length x = q.reverse ++ x :: y :: r ∧ ((q.reverse ++ y :: x :: r).set (q.length + 1) y).length = q.length + 2 + r.length ∧ (q.reverse ++ y :: x :: r).length = q.length + 2 + r.length := by
  have e1 : q.reverse ++ y :: x :: r = (q.reverse ++ [y]) ++ x :: r := by simp
  have l1 : (q.reverse ++ [y]).length = q.length + 1 := by simp
  have l2 : q.reverse.length = q.length := by simp
  refine ⟨?_, ?_, ?_, ?_, ?_⟩
  · refine (rd_nat (e := Ty.i IntKind.i64) _ _).trans ?_
    rw [e1, ← l1]; exact mid_get _ _ _
  · refine (rd_nat (e := Ty.i IntKind.i64) _ _).trans ?_
    rw [← l2]; exact mid_get _ _ _
  · rw [e1, ← l1, mid_set, List.append_assoc, List.singleton_append, ← l2, mid_set]
  · simp; omega
  · simp; omega

section
variable {k : Nat}
theorem F72_spec (a b : Int) : F72 k (a, b, ()) = some ((decide (a < b), ()), ()) := by
  rw [F72_eq, F46_eq, F46_eq]
  have e : ∀ x : Int, decide (x = x) = true := fun x => decide_eq_true rfl
  show ((some ((!decide (a = a), ()), ()) : Option ((Bool × Unit) × Unit)).bind fun y => _) = _
  rw [e]
  rfl
def ltI (a b : Int) : Bool := decide (a < b)
theorem E66_0_0_spec (N x6 : Int) : ∀ (qr : List Int) (x : Int) (r : List Int) (j : Nat), qr.length < j → qr.length < 1000000 →
    E66_0_0 k j (qr.reverse ++ x :: r, 0, N, x6, (qr.length : Int), ()) = some (Sum.inl (up ltI qr x r, 0, N, x6, ()))
  | [], x, r, j, hj, _ => by
    match j, hj with
    | j + 1, _ => rw [E66_0_0_eq]; rfl
  | y :: q, x, r, j, hj, hs => by
    match j, hj with
    | j + 1, hj =>
      rw [up_start]
      obtain ⟨f1, f2, f3, f4, f5⟩ := up_facts y q x r
      have hl : (y :: q).length = q.length + 1 := rfl
      have h0 : decide ((0 : Int) < ((q.length + 1 : Nat) : Int)) = true := decide_eq_true (by omega)
      rw [E66_0_0_eq, hl, h0, wrap_pred (by simp at hs; omega) (Nat.succ_pos _), show q.length + 1 - 1 = q.length from rfl, f5, inb_nat (show q.length + 1 < q.length + 2 + r.length by omega), inb_nat (show q.length < q.length + 2 + r.length by omega), f1, f2, Int.toNat_natCast, Int.toNat_natCast, f4, inb_nat (show q.length < q.length + 2 + r.length by omega), f3]
      simp only [cond_true]
      refine ob (F72_spec x y) ?_
      unfold up
      rw [show ltI x y = decide (x < y) from rfl]
      cases decide (x < y) with
      | true => exact E66_0_0_spec N x6 q x (y :: r) j (by simp at hj; omega) (by simp at hs; omega)
      | false =>
        simp only [cond_false]
        rw [up_start]
theorem E66_0_spec (N : Nat) (hN : N < min k 1000000) : ∀ (r d : List Int) (j : Nat), d.length + r.length = N → r.length < j → E66_0 k j (d ++ r, 0, (N : Int), (d.length : Int), ()) = some (Sum.inl (iso ltI d r, ()))
  | [], d, j, h, hj => by
    match j, hj with
    | j + 1, _ =>
      have : d.length = N := by simpa using h
      rw [E66_0_eq, this, nlt_nat, List.append_nil]; rfl
  | x :: r, d, j, h, hj => by
    match j, hj with
    | j + 1, hj =>
      simp only [List.length_cons] at h hj
      have e := E66_0_0_spec (k := k) (N : Int) (d.length : Int) d.reverse x r k (by simp; omega) (by simp; omega)
      rw [List.reverse_reverse, List.length_reverse] at e
      rw [E66_0_eq, lt_nat (show d.length < N by omega)]
      simp only [cond_true]
      refine ob e ?_
      dsimp only
      rw [wrap_nat (by omega)]
      have hu := up_app ltI d.reverse x [] r
      rw [List.nil_append] at hu
      rw [hu]
      have := E66_0_spec N hN r (up ltI d.reverse x []) j (by rw [up_len]; simp; omega) (by omega)
      rw [up_len, List.length_reverse, List.length_nil, Nat.add_zero] at this
      exact this
theorem F66_spec {x : List Int} (hx : x.length < min k 1000000) : F66 k (x, 0, (x.length : Int), ()) = some ((), iso ltI [] x, ()) := by
  rw [F66_eq, show IntKind.i64.wrap ((0 : Int) + 1) = 1 from rfl]
  match x with
  | [] =>
    obtain ⟨j, rfl⟩ : ∃ j, k = j + 1 := ⟨k - 1, by omega⟩
    rw [E66_0_eq]; rfl
  | a :: r =>
    have := E66_0_spec (k := k) (a :: r).length hx r [a] k (by simp; omega) (by simp at hx; omega)
    exact ob this rfl
theorem F50_some (n : Nat) (hn : n ≤ 12) : ∃ y, F50 k (IntKind.u64.wrap ((n : Nat) : Int), ()) = some y := by
  have key : ∀ m : Nat, m ≤ 12 → ∃ y, F50 k (IntKind.u64.wrap ((m : Nat) : Int), ()) = some y := by
    intro m hm
    match m, hm with
    | 0, _ => exact ⟨((0, ()), ()), by kernel_rfl⟩
    | 1, _ => exact ⟨((1, ()), ()), by kernel_rfl⟩
    | 2, _ => exact ⟨((2, ()), ()), by kernel_rfl⟩
    | 3, _ => exact ⟨((2, ()), ()), by kernel_rfl⟩
    | 4, _ => exact ⟨((3, ()), ()), by kernel_rfl⟩
    | 5, _ => exact ⟨((3, ()), ()), by kernel_rfl⟩
    | 6, _ => exact ⟨((3, ()), ()), by kernel_rfl⟩
    | 7, _ => exact ⟨((3, ()), ()), by kernel_rfl⟩
    | 8, _ => exact ⟨((4, ()), ()), by kernel_rfl⟩
    | 9, _ => exact ⟨((4, ()), ()), by kernel_rfl⟩
    | 10, _ => exact ⟨((4, ()), ()), by kernel_rfl⟩
    | 11, _ => exact ⟨((4, ()), ()), by kernel_rfl⟩
    | 12, _ => exact ⟨((4, ()), ()), by kernel_rfl⟩
  exact key n hn
theorem F36_spec {x : List Int} (hx : x.length ≤ 12) (hk : 2000 < k) : F36 k (x, ()) = some ((), iso ltI [] x, ()) := by
  obtain ⟨y, hy⟩ := F50_some (k := k) x.length hx
  obtain ⟨j, rfl⟩ : ∃ j, k = j + 1 := ⟨k - 1, by omega⟩
  rw [F36_eq]
  refine ob hy ?_
  have e49 : ∀ lim : Int, E49_0 (j + 1) (j + 1) (x, 0, (x.length : Int), lim, true, true, ()) = some (Sum.inl (iso ltI [] x, ())) := by
    intro lim
    rw [E49_0_eq, show IntKind.i64.wrap ((x.length : Int) - 0) = (x.length : Int) by rw [IntKind.wrap_i64]; omega, show decide ((x.length : Int) ≤ 12) = true from decide_eq_true (by omega)]
    simp only [cond_true]
    exact ob (F66_spec (by omega)) rfl
  have e : F49 (j + 1) (x, 0, (x.length : Int), y.1.1, ()) = some ((), iso ltI [] x, ()) := by
    rw [F49_eq]
    exact ob (e49 _) rfl
  exact ob e rfl

/-! ### .. by how deep they are -/
def ltD (d : List Int) (a b : Int) : Bool := decide (d.getD a.toNat 0 < d.getD b.toNat 0)
theorem F32_spec {d : List Int} {a b : Int} (ha : 0 ≤ a ∧ a < d.length) (hb : 0 ≤ b ∧ b < d.length) : ∃ c : Int, F32 k (a, b, (d, ()), ()) = some ((c, ()), (d, ()), ()) ∧ decide (c < 0) = ltD d a b := by
  obtain ⟨i, rfl⟩ : ∃ i : Nat, a = (i : Int) := ⟨a.toNat, by omega⟩
  obtain ⟨m, rfl⟩ : ∃ i : Nat, b = (i : Int) := ⟨b.toNat, by omega⟩
  have e1 : rd (Ty.i IntKind.i64) d (i : Int) = d.getD i 0 := rd_nat (e := Ty.i IntKind.i64) d i
  have e2 : rd (Ty.i IntKind.i64) d (m : Int) = d.getD m 0 := rd_nat (e := Ty.i IntKind.i64) d m
  have e46 : ∀ x : Int, F46 k (x, ()) = some ((false, ()), ()) := by
    intro x
    rw [F46_eq, show decide (x = x) = true from decide_eq_true rfl]; rfl
  rw [F32_eq, inb_nat (by omega), inb_nat (by omega), e1, e2]
  simp only [cond_true]
  unfold ltD
  rw [Int.toNat_natCast, Int.toNat_natCast]
  generalize d.getD i 0 = u
  generalize d.getD m 0 = v
  have e33 : F33 k (u, v, ()) = some ((bif decide (u < v) then -1 else bif decide (v < u) then 1 else 0, ()), ()) := by
    rw [F33_eq]
    refine ob (e46 u) (ob (e46 v) ?_)
    simp only [cond_false]
    cases decide (u < v) <;> cases decide (v < u) <;> rfl
  refine ⟨_, ob e33 rfl, ?_⟩
  cases decide (u < v) with
  | true => rfl
  | false => cases decide (v < u) <;> rfl
theorem E64_0_0_spec {d : List Int} (N x6 : Int) : ∀ (qr : List Int) (x : Int) (r : List Int) (j : Nat), qr.length < j → qr.length < 1000000 → (∀ y, y ∈ qr → 0 ≤ y ∧ y < d.length) → (0 ≤ x ∧ x < d.length) →
    E64_0_0 k j (qr.reverse ++ x :: r, 0, N, (), (d, ()), x6, (qr.length : Int), ()) = some (Sum.inl (up (ltD d) qr x r, 0, N, (), (d, ()), x6, ()))
  | [], x, r, j, hj, _, _, _ => by
    match j, hj with
    | j + 1, _ => rw [E64_0_0_eq]; rfl
  | y :: q, x, r, j, hj, hs, hq, hx => by
    match j, hj with
    | j + 1, hj =>
      rw [up_start]
      obtain ⟨f1, f2, f3, f4, f5⟩ := up_facts y q x r
      have hl : (y :: q).length = q.length + 1 := rfl
      have h0 : decide ((0 : Int) < ((q.length + 1 : Nat) : Int)) = true := decide_eq_true (by omega)
      obtain ⟨c, c1, c2⟩ := F32_spec (k := k) hx (hq y (List.mem_cons_self ..))
      rw [E64_0_0_eq, hl, h0, wrap_pred (by simp at hs; omega) (Nat.succ_pos _), show q.length + 1 - 1 = q.length from rfl, f5, inb_nat (show q.length + 1 < q.length + 2 + r.length by omega), inb_nat (show q.length < q.length + 2 + r.length by omega), f1, f2, Int.toNat_natCast, Int.toNat_natCast, f4, inb_nat (show q.length < q.length + 2 + r.length by omega), f3]
      simp only [cond_true]
      refine ob c1 ?_
      dsimp only
      rw [c2]
      unfold up
      cases ltD d x y with
      | true => exact E64_0_0_spec N x6 q x (y :: r) j (by simp at hj; omega) (by simp at hs; omega) (fun z hz => hq z (List.mem_cons_of_mem _ hz)) hx
      | false =>
        simp only [cond_false]
        rw [up_start]
theorem E64_0_spec {dd : List Int} (N : Nat) (hN : N < min k 1000000) : ∀ (r d : List Int) (j : Nat), d.length + r.length = N → r.length < j → (∀ y, y ∈ d → 0 ≤ y ∧ y < dd.length) → (∀ y, y ∈ r → 0 ≤ y ∧ y < dd.length) → E64_0 k j (d ++ r, 0, (N : Int), (), (dd, ()), (d.length : Int), ()) = some (Sum.inl (iso (ltD dd) d r, (), (dd, ()), ()))
  | [], d, j, h, hj, _, _ => by
    match j, hj with
    | j + 1, _ =>
      have : d.length = N := by simpa using h
      rw [E64_0_eq, this, nlt_nat, List.append_nil]; rfl
  | x :: r, d, j, h, hj, hd, hr => by
    match j, hj with
    | j + 1, hj =>
      simp only [List.length_cons] at h hj
      have hx := hr x (List.mem_cons_self ..)
      have e := E64_0_0_spec (k := k) (d := dd) (N : Int) (d.length : Int) d.reverse x r k (by simp; omega) (by simp; omega) (fun y hy => hd y (List.mem_reverse.1 hy)) hx
      rw [List.reverse_reverse, List.length_reverse] at e
      rw [E64_0_eq, lt_nat (show d.length < N by omega)]
      simp only [cond_true]
      refine ob e ?_
      dsimp only
      rw [wrap_nat (by omega)]
      have hu := up_app (ltD dd) d.reverse x [] r
      rw [List.nil_append] at hu
      rw [hu]
      have := E64_0_spec (dd := dd) N hN r (up (ltD dd) d.reverse x []) j (by rw [up_len]; simp; omega) (by omega) (fun y hy => by
        rcases (up_mem _ _ _ _ _).1 hy with h | h | h
        · exact hd y (List.mem_reverse.1 h)
        · rw [h]; exact hx
        · cases h) (fun y hy => hr y (List.mem_cons_of_mem _ hy))
      rw [up_len, List.length_reverse, List.length_nil, Nat.add_zero] at this
      exact this
theorem F64_spec {x dd : List Int} (hx : x.length < min k 1000000) (hm : ∀ y, y ∈ x → 0 ≤ y ∧ y < dd.length) : F64 k (x, 0, (x.length : Int), (), (dd, ()), ()) = some ((), iso (ltD dd) [] x, (dd, ()), ()) := by
  rw [F64_eq, show IntKind.i64.wrap ((0 : Int) + 1) = 1 from rfl]
  match x with
  | [] =>
    obtain ⟨j, rfl⟩ : ∃ j, k = j + 1 := ⟨k - 1, by omega⟩
    rw [E64_0_eq]; rfl
  | a :: r =>
    have := E64_0_spec (k := k) (dd := dd) (a :: r).length hx r [a] k (by simp; omega) (by simp at hx; omega) (fun y hy => hm y (by rw [List.mem_singleton] at hy; rw [hy]; exact List.mem_cons_self ..)) (fun y hy => hm y (List.mem_cons_of_mem _ hy))
    exact ob this rfl
theorem F31_spec {x dd : List Int} (hx : x.length ≤ 12) (hk : 2000 < k) (hm : ∀ y, y ∈ x → 0 ≤ y ∧ y < dd.length) : F31 k (x, (), (dd, ()), ()) = some ((), iso (ltD dd) [] x, (dd, ()), ()) := by
  obtain ⟨j, rfl⟩ : ∃ j, k = j + 1 := ⟨k - 1, by omega⟩
  rw [F31_eq]
  have e0 : E45_0 (j + 1) (j + 1) (x, (x.length : Int), (), (dd, ()), 20, 0, 20, ()) = some (Sum.inl (x, (x.length : Int), (), (dd, ()), 20, 0, ())) := by
    rw [E45_0_eq, show decide ((20 : Int) ≤ (x.length : Int)) = false from decide_eq_false (by omega)]; rfl
  have hlen : (iso (ltD dd) [] x).length = x.length := by rw [iso_len]; simp
  have e1 : E45_1 (j + 1) (j + 1) (iso (ltD dd) [] x, (x.length : Int), (), (dd, ()), 20, ()) = some (Sum.inl (iso (ltD dd) [] x, (), (dd, ()), ())) := by
    rw [E45_1_eq, show decide ((20 : Int) < (x.length : Int)) = false from decide_eq_false (by omega)]; rfl
  have e : F45 (j + 1) (x, (x.length : Int), (), (dd, ()), ()) = some ((), iso (ltD dd) [] x, (dd, ()), ()) := by
    rw [F45_eq]
    refine ob e0 ?_
    refine ob (F64_spec (x := x) (by omega) hm) ?_
    exact ob e1 rfl
  exact ob e rfl
end
end Go.Pv.L16
