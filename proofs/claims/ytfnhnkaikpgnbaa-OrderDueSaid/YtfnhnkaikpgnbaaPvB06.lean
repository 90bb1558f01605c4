/- Layer 06, plainly: an event's bytes are made; there are none just if it is not right. -/
import Derived.Test.YtfnhnkaikpgnbaaPvA06
namespace Go.Pv.L06
open Go Go.Pv Go.Proofs
set_option linter.all false
set_option linter.constructorNameAsVariable false
set_option linter.unusedSectionVars false
set_option linter.unusedVariables false
set_option linter.unusedSimpArgs false
theorem CAP {n : Nat} (h : n ≤ 1000000) : decide (n * (0 + 1) ≤ 140737488355328) = true := decide_eq_true (by omega)

theorem E36_total {k : Nat} : ∀ (m j : Nat) (x : Int) (xs : List (Ty.den T5)), x < 128 ^ (m + 1) → m < j → xs.length + m ≤ 900000 → ∃ (y : Int) (ys : List (Ty.den T5)), E36_0 k j (x, xs, ()) = some (Sum.inl (y, ys, ())) ∧ xs.length ≤ ys.length ∧ ys.length ≤ xs.length + m := by
  intro m
  induction m with
  | zero =>
    intro j x xs hx hj hl
    match j, hj with
    | j + 1, _ =>
      rw [E36_0_eq, show decide (127 < x) = false by simp; omega]
      exact ⟨x, xs, rfl, Nat.le_refl _, Nat.le_refl _⟩
  | succ m ih =>
    intro j x xs hx hj hl
    match j, hj with
    | j + 1, hj =>
      rw [E36_0_eq]
      cases hb : decide (127 < x) with
      | false => exact ⟨x, xs, rfl, Nat.le_refl _, by omega⟩
      | true =>
        have hb : 127 < x := by simpa using hb
        simp only [cond_true]
        rw [CAP (by simp only [List.length_cons, List.length_nil]; omega)]
        simp only [cond_true]
        have hd : Int.fdiv x (2 ^ min (Int.toNat 7) IntKind.i64.bits) < 128 ^ (m + 1) := by
          rw [show ((2 : Int) ^ min (Int.toNat 7) IntKind.i64.bits) = 128 by decide, Int.fdiv_eq_ediv_of_nonneg _ (by decide)]
          have : (128 : Int) ^ (m + 1 + 1) = 128 ^ (m + 1) * 128 := Int.pow_succ ..
          omega
        obtain ⟨y, ys, h1, h2, h3⟩ := ih j _ (xs ++ [UInt8.ofNat (IntKind.u8.wrap (↑(BitVec.ofInt IntKind.u8.bits (IntKind.u8.wrap x) ||| BitVec.ofInt IntKind.u8.bits 128).toNat : Int)).toNat]) hd (by omega) (by simp only [List.length_append, List.length_cons, List.length_nil]; omega)
        simp only [List.length_append, List.length_cons, List.length_nil] at h2 h3
        exact ⟨y, ys, h1, by omega, by omega⟩
theorem F36_total {k : Nat} (hk : 100 < k) {x : Int} (hx : x < 72057594037927936) : ∃ r : List (Ty.den T5), F36 k (x, ()) = some ((r, ()), ()) ∧ 1 ≤ r.length ∧ r.length ≤ 10 := by
  obtain ⟨y, ys, h1, h2, h3⟩ := E36_total (k := k) 7 k x [] (by omega) (by omega) (by simp)
  rw [F36_eq]
  simp only [List.length_nil] at h2 h3
  refine ⟨ys ++ [UInt8.ofNat (IntKind.u8.wrap y).toNat], ob h1 ?_, ?_⟩
  · dsimp only
    rw [CAP (by simp only [List.length_cons, List.length_nil]; omega)]
    rfl
  · simp only [List.length_append, List.length_cons, List.length_nil]; omega
theorem E35_total {k : Nat} (hk : 100 < k) {l : List Int} (hl : ∀ x, x ∈ l → x < 72057594037927936) (hs : l.length ≤ 100) : ∀ (d i j : Nat) (xs : List (Ty.den T5)), l.length - i = d → i ≤ l.length → d < j → xs.length + 10 * d ≤ 900000 →
    ∃ ys : List (Ty.den T5), E35_0 k j ((xs, ()), l, (l.length : Int), (i : Int), ()) = some (Sum.inl ((ys, ()), ())) ∧ xs.length + d ≤ ys.length ∧ ys.length ≤ xs.length + 10 * d := by
  intro d
  induction d with
  | zero =>
    intro i j xs h1 h2 h3 h4
    have : i = l.length := by omega
    subst this
    match j, h3 with
    | j + 1, _ =>
      rw [E35_0_eq, nlt_nat]
      exact ⟨xs, rfl, by omega, by omega⟩
  | succ d ih =>
    intro i j xs h1 h2 h3 h4
    match j, h3 with
    | j + 1, h3 =>
      have hlt : i < l.length := by omega
      rw [E35_0_eq, lt_nat hlt, inb_nat hlt, wrap_nat (by omega)]
      simp only [cond_true]
      have hm : rd (Ty.i IntKind.i64) l (i : Int) ∈ l := by rw [rd_get (e := Ty.i IntKind.i64) hlt]; exact List.getElem_mem hlt
      obtain ⟨r, e1, e2, e3⟩ := F36_total hk (hl _ hm)
      obtain ⟨ys, g1, g2, g3⟩ := ih (i + 1) j (xs ++ r) (by omega) (by omega) (by omega) (by rw [List.length_append]; omega)
      rw [List.length_append] at g2 g3
      refine ⟨ys, ob e1 ?_, by omega, by omega⟩
      dsimp only
      rw [CAP (by omega)]
      exact g1
theorem F35_total {k : Nat} (hk : 1000 < k) {l : List Int} (hl : ∀ x, x ∈ l → x < 72057594037927936) (hs : l.length ≤ 100) {xs : List (Ty.den T5)} (hx : xs.length ≤ 10000) :
    ∃ ys : List (Ty.den T5), F35 k (l, (xs, ()), ()) = some ((), (ys, ()), ()) ∧ xs.length + l.length ≤ ys.length ∧ ys.length ≤ xs.length + 10 * l.length := by
  obtain ⟨ys, h1, h2, h3⟩ := E35_total (k := k) (by omega) hl hs l.length 0 k xs (by omega) (by omega) (by omega) (by omega)
  rw [F35_eq]
  exact ⟨ys, ob h1 rfl, h2, h3⟩

theorem E37_total {k : Nat} : ∀ (m j : Nat) (x : Int) (xs : List (Ty.den T5)), x < 128 ^ (m + 1) → m < j → xs.length + m ≤ 900000 → ∃ (y : Int) (ys : List (Ty.den T5)), E37_0 k j (xs, x, ()) = some (Sum.inl (ys, y, ())) ∧ ys.length ≤ xs.length + m := by
  intro m
  induction m with
  | zero =>
    intro j x xs hx hj hl
    match j, hj with
    | j + 1, _ =>
      rw [E37_0_eq, show decide (127 < x) = false by simp; omega]
      exact ⟨x, xs, rfl, Nat.le_refl _⟩
  | succ m ih =>
    intro j x xs hx hj hl
    match j, hj with
    | j + 1, hj =>
      rw [E37_0_eq]
      cases hb : decide (127 < x) with
      | false => exact ⟨x, xs, rfl, by omega⟩
      | true =>
        have hb : 127 < x := by simpa using hb
        simp only [cond_true]
        rw [CAP (by simp only [List.length_cons, List.length_nil]; omega)]
        simp only [cond_true]
        have hd : Int.fdiv x (2 ^ min (Int.toNat 7) IntKind.u64.bits) < 128 ^ (m + 1) := by
          rw [show ((2 : Int) ^ min (Int.toNat 7) IntKind.u64.bits) = 128 by decide, Int.fdiv_eq_ediv_of_nonneg _ (by decide)]
          have : (128 : Int) ^ (m + 1 + 1) = 128 ^ (m + 1) * 128 := Int.pow_succ ..
          omega
        obtain ⟨y, ys, h1, h3⟩ := ih j _ (xs ++ [UInt8.ofNat (IntKind.u8.wrap (↑(BitVec.ofInt IntKind.u8.bits (IntKind.u8.wrap x) ||| BitVec.ofInt IntKind.u8.bits 128).toNat : Int)).toNat]) hd (by omega) (by simp only [List.length_append, List.length_cons, List.length_nil]; omega)
        simp only [List.length_append, List.length_cons, List.length_nil] at h3
        exact ⟨y, ys, h1, by omega⟩
theorem F37_total {k : Nat} (hk : 100 < k) (v : Vl) : ∃ r : List (Ty.den T5), F37 k (v, ()) = some ((r, ()), ()) ∧ r.length ≤ 100 := by
  have e47 := F47_spec (k := k) v
  rw [F37_eq]
  cases hv : vR v with
  | false =>
    rw [hv] at e47
    exact ⟨[], ob e47 rfl, by simp⟩
  | true =>
    rw [hv] at e47
    cases h2 : decide (v.1 = 2) with
    | true =>
      have hz : v.2.2.size ≤ 64 := by
        have q : v.1 = 2 := by simpa using h2
        have e : vR v = (decide (v.2.1 = 0) && decide ((v.2.2.size : Int) ≤ 64)) := by
          unfold vR
          rw [q]; rfl
        rw [e, Bool.and_eq_true, decide_eq_true_eq, decide_eq_true_eq] at hv
        omega
      have hz2 : v.2.2.data.toList.length ≤ 64 := by rw [Array.length_toList]; exact hz
      refine ⟨[UInt8.ofNat (IntKind.u8.wrap v.1).toNat] ++ [UInt8.ofNat (IntKind.u8.wrap (↑(ByteArray.size v.2.2) : Int)).toNat] ++ v.2.2.data.toList, ob e47 ?_, ?_⟩
      · dsimp only
        simp only [Bool.not_true, cond_false, cond_true]
        rw [CAP (by simp only [List.length_append, List.length_cons, List.length_nil]; omega)]
        rfl
      · simp only [List.length_append, List.length_cons, List.length_nil]; omega
    | false =>
      cases h3 : decide (v.1 = 3) with
      | true => exact ⟨[UInt8.ofNat (IntKind.u8.wrap v.1).toNat] ++ [UInt8.ofNat (IntKind.u8.wrap v.2.1).toNat], ob e47 rfl, by simp⟩
      | false =>
        have hb : IntKind.u64.wrap (IntKind.i64.wrap (↑(BitVec.ofInt IntKind.i64.bits (IntKind.i64.wrap (v.snd.fst * 2 ^ min (Int.toNat 1) IntKind.i64.bits)) ^^^ BitVec.ofInt IntKind.i64.bits (Int.fdiv v.snd.fst (2 ^ min (Int.toNat 63) IntKind.i64.bits))).toNat : Int)) < 128 ^ (10 + 1) := by
          generalize IntKind.i64.wrap _ = z
          rw [IntKind.wrap_u64]
          omega
        obtain ⟨y, ys, g1, g2⟩ := E37_total (k := k) 10 k _ [UInt8.ofNat (IntKind.u8.wrap v.fst).toNat] hb (by omega) (by simp)
        simp only [List.length_cons, List.length_nil] at g2
        refine ⟨ys ++ [UInt8.ofNat (IntKind.u8.wrap y).toNat], ob e47 ?_, ?_⟩
        · dsimp only
          simp only [Bool.not_true, cond_false, cond_true]
          refine ob g1 ?_
          dsimp only
          rw [CAP (by simp only [List.length_cons, List.length_nil]; omega)]
          rfl
        · simp only [List.length_append, List.length_cons, List.length_nil]; omega
theorem E25_total {k : Nat} (hk : 100 < k) {l : List Vl} (hs : l.length ≤ 100) : ∀ (d i j : Nat) (xs : List (Ty.den T5)), l.length - i = d → i ≤ l.length → d < j → xs.length + 100 * d ≤ 900000 →
    ∃ ys : List (Ty.den T5), E25_0 k j ((xs, ()), l, (l.length : Int), (i : Int), ()) = some (Sum.inl ((ys, ()), ())) ∧ xs.length ≤ ys.length := by
  intro d
  induction d with
  | zero =>
    intro i j xs h1 h2 h3 h4
    have : i = l.length := by omega
    subst this
    match j, h3 with
    | j + 1, _ =>
      rw [E25_0_eq, nlt_nat]
      exact ⟨xs, rfl, by omega⟩
  | succ d ih =>
    intro i j xs h1 h2 h3 h4
    match j, h3 with
    | j + 1, h3 =>
      have hlt : i < l.length := by omega
      rw [E25_0_eq, lt_nat hlt, inb_nat hlt, wrap_nat (by omega)]
      simp only [cond_true]
      obtain ⟨r, e1, e3⟩ := F37_total hk (rd T62 l (i : Int))
      obtain ⟨ys, g1, g2⟩ := ih (i + 1) j (xs ++ r) (by omega) (by omega) (by omega) (by rw [List.length_append]; omega)
      rw [List.length_append] at g2
      refine ⟨ys, ob e1 ?_, by omega⟩
      dsimp only
      rw [CAP (by omega)]
      exact g1
/-- An event's bytes. -/
theorem F25_spec {k : Nat} (hk : MX < k) {e : Ev} (he : EvOk e) : ∃ r : List (Ty.den T5), F25 k (e, ()) = some ((r, ()), ()) ∧ decide ((r.length : Int) = 0) = !rightE e := by
  have e34 := F34_spec hk he
  rw [F25_eq]
  cases hr : rightE e with
  | false =>
    rw [hr] at e34
    exact ⟨[], ob e34 rfl, rfl⟩
  | true =>
    rw [hr] at e34
    have hr' := hr
    unfold rightE inM wordB at hr'
    simp only [Bool.and_eq_true, decide_eq_true_eq] at hr'
    obtain ⟨⟨a1, a2⟩, ⟨b1, b2⟩, ⟨c1, c2⟩, ⟨_, d1, d2⟩, n8, _⟩ := hr'
    have hk1 : 1000 < k := by simp only [MX] at hk; omega
    have hz2 : e.2.2.2.1.data.toList.length ≤ 16 := by rw [Array.length_toList]; exact d2
    obtain ⟨y1, g1, g2, g3⟩ := F35_total (k := k) hk1 (l := [e.1, e.2.1, e.2.2.1, (e.2.2.2.1.size : Int)]) (by intro x hx; simp only [List.mem_cons, List.not_mem_nil, or_false] at hx; rcases hx with h | h | h | h <;> omega) (by simp) (xs := []) (by simp)
    simp only [List.length_cons, List.length_nil] at g2 g3
    obtain ⟨y2, k1, k2, k3⟩ := F35_total (k := k) hk1 (l := [(e.2.2.2.2.length : Int)]) (by intro x hx; simp only [List.mem_cons, List.not_mem_nil, or_false] at hx; omega) (by simp) (xs := y1 ++ e.2.2.2.1.data.toList) (by rw [List.length_append]; omega)
    simp only [List.length_cons, List.length_nil, List.length_append] at k2 k3
    obtain ⟨y3, m1, m2⟩ := E25_total (k := k) (by omega) (l := e.2.2.2.2) (by omega) e.2.2.2.2.length 0 k y2 (by omega) (by omega) (by omega) (by omega)
    refine ⟨y3, ob e34 ?_, ?_⟩
    · dsimp only
      simp only [Bool.not_true, cond_false]
      refine ob g1 ?_
      dsimp only
      rw [CAP (by omega)]
      refine ob k1 ?_
      dsimp only
      refine ob m1 ?_
      rfl
    · exact decide_eq_false (by omega)
end Go.Pv.L06
