/- Values, second part: sums, bytes and comparisons. -/
import Derived.Test.YtlbaoekmnfeogaaPAllx12
import Derived.Test.YtlbaoekmnfeogaaPAllx13
import Derived.Test.YtlbaoekmnfeogaaPAllx16
import Derived.Test.YtlbaoekmnfeogaaPAllx17
import Derived.Test.YtlbaoekmnfeogaaPAllx22
import Derived.Test.YtlbaoekmnfeogaaPAllx23
import Derived.Test.YtlbaoekmnfeogaaPAllx24
import Derived.Test.YtlbaoekmnfeogaaPAllx26
import Derived.Test.YtlbaoekmnfeogaaPAllx5
import Derived.Test.YtlbaoekmnfeogaaPAllx6
import Derived.Test.YtlbaoekmnfeogaaVal
import Derived.Lib.Strings
namespace Go.Proofs.Ytlbaoekmnfeogaa.PAll
open Go.RowKit Go.Proofs.YtlbaoekmnfeogaaW.PrintWords Go.Proofs.YtlbaoekmnfeogaaW.PrintLast Go.Proofs.YtlbaoekmnfeogaaW.PrintMore
set_option linter.unusedVariables false
set_option linter.unusedSimpArgs false

theorem ok_int {n : Int} {s : ByteArray} (h : okVal 1 n s = true) : -1099511627776 ≤ n ∧ n ≤ 1099511627776 ∧ s.toList = [] := by
  unfold okVal at h
  rw [if_pos rfl] at h
  simp at h
  exact ⟨h.1, h.2.1, by simpa using h.2.2⟩
theorem ok_text {n : Int} {s : ByteArray} (h : okVal 2 n s = true) : n = 0 ∧ s.size ≤ 64 := by
  unfold okVal at h
  rw [if_neg (by decide), if_pos rfl] at h
  simp at h
  exact ⟨h.1, by omega⟩
theorem ok_bool {n : Int} {s : ByteArray} (h : okVal 3 n s = true) : 0 ≤ n ∧ n ≤ 1 ∧ s.toList = [] := by
  unfold okVal at h
  rw [if_neg (by decide), if_neg (by decide), if_pos rfl] at h
  simp at h
  exact ⟨h.1, h.2.1, by simpa using h.2.2⟩
theorem ok_kind {k n : Int} {s : ByteArray} (h : okVal k n s = true) : k = 1 ∨ k = 2 ∨ k = 3 := by
  unfold okVal at h
  by_cases h1 : k = 1
  · exact .inl h1
  · by_cases h2 : k = 2
    · exact .inr (.inl h2)
    · by_cases h3 : k = 3
      · exact .inr (.inr h3)
      · simp [h1, h2, h3] at h
theorem ok_of_int {n : Int} (h : -1099511627776 ≤ n ∧ n ≤ 1099511627776) : okVal 1 n ⟨#[]⟩ = true := by
  unfold okVal
  rw [if_pos rfl, decide_eq_true h.1, decide_eq_true h.2, ByteArray.toList_eq]
  rfl
theorem not_ok_int {n : Int} (h : ¬ (-1099511627776 ≤ n ∧ n ≤ 1099511627776)) (s : ByteArray) : okVal 1 n s = false := by
  cases c : okVal 1 n s with
  | false => rfl
  | true => have := ok_int c; omega

/-- What becomes of two that are reckoned with: the error. -/
def bothS (k1 n1 : Int) (s1 : ByteArray) (k2 n2 : Int) (s2 : ByteArray) : Int :=
  if okVal k1 n1 s1 = true ∧ okVal k2 n2 s2 = true then (if k1 = 1 ∧ k2 = 1 then 0 else 42) else 1
def recS (k1 n1 : Int) (s1 : ByteArray) (k2 n2 : Int) (s2 : ByteArray) (m : Int) : Int × Int × ByteArray × Int :=
  if bothS k1 n1 s1 k2 n2 s2 = 0 then (if -1099511627776 ≤ m ∧ m ≤ 1099511627776 then (1, m, ⟨#[]⟩, 0) else (0, 0, ⟨#[]⟩, 41)) else (0, 0, ⟨#[]⟩, bothS k1 n1 s1 k2 n2 s2)
theorem both_eq (k : Nat) (hk : 0 < k) (k1 n1 : Int) (s1 : ByteArray) (k2 n2 : Int) (s2 : ByteArray) : value_both.f k k1 n1 s1 k2 n2 s2 = some (bothS k1 n1 s1 k2 n2 s2) := by
  obtain ⟨k, rfl⟩ : ∃ m, k = m + 1 := ⟨k - 1, by omega⟩
  unfold value_both.f bothS
  simp only [right_ok, Option.bind_some, value_both.j0]
  cases okVal k1 n1 s1 <;> cases okVal k2 n2 s2 <;> by_cases a : k1 = 1 <;> by_cases b : k2 = 1 <;> simp [a, b]
theorem may_eq (k : Nat) (hk : 0 < k) (k1 n1 : Int) (s1 : ByteArray) (k2 n2 : Int) (s2 : ByteArray) : auguryref04_may.f k k1 n1 s1 k2 n2 s2 = some (bothS k1 n1 s1 k2 n2 s2) := by
  obtain ⟨k, rfl⟩ : ∃ m, k = m + 1 := ⟨k - 1, by omega⟩
  unfold auguryref04_may.f bothS
  simp only [ref_right_ok, Option.bind_some, auguryref04_may.j0]
  cases okVal k1 n1 s1 <;> cases okVal k2 n2 s2 <;> by_cases a : k1 = 1 <;> by_cases b : k2 = 1 <;> simp [a, b]
theorem both_zero {k1 n1 : Int} {s1 : ByteArray} {k2 n2 : Int} {s2 : ByteArray} (h : bothS k1 n1 s1 k2 n2 s2 = 0) : k1 = 1 ∧ k2 = 1 ∧ okVal 1 n1 s1 = true ∧ okVal 1 n2 s2 = true := by
  unfold bothS at h
  split at h
  · rename_i a
    split at h
    · rename_i b
      obtain ⟨rfl, rfl⟩ := b
      exact ⟨rfl, rfl, a⟩
    · omega
  · omega
theorem reckoned_eq (k : Nat) (hk : 0 < k) (k1 n1 : Int) (s1 : ByteArray) (k2 n2 : Int) (s2 : ByteArray) (sg : Int) (hs : sg = 1 ∨ sg = -1) : value_reckoned.f k k1 n1 s1 k2 n2 s2 sg = some (recS k1 n1 s1 k2 n2 s2 (n1 + sg * n2)) := by
  unfold value_reckoned.f recS
  rw [both_eq k hk]
  simp only [Option.bind_some]
  by_cases h : bothS k1 n1 s1 k2 n2 s2 = 0
  · simp only [if_pos h]
    obtain ⟨rfl, rfl, o1, o2⟩ := both_zero h
    have b1 := ok_int o1
    have b2 := ok_int o2
    have w1 : wrap64 (sg * n2) = sg * n2 := by rcases hs with rfl | rfl <;> exact wrap_in (by omega) (by omega)
    have w2 : wrap64 (n1 + sg * n2) = n1 + sg * n2 := by rcases hs with rfl | rfl <;> exact wrap_in (by omega) (by omega)
    rw [w1, w2, right_ok]
    simp only [Option.bind_some]
    by_cases c : -1099511627776 ≤ n1 + sg * n2 ∧ n1 + sg * n2 ≤ 1099511627776
    · rw [ok_of_int c, if_pos c]; rfl
    · rw [not_ok_int c, if_neg c]; rfl
  · simp only [if_neg h]
theorem add_eq (k : Nat) (hk : 0 < k) (k1 n1 : Int) (s1 : ByteArray) (k2 n2 : Int) (s2 : ByteArray) : value_Add.f k k1 n1 s1 k2 n2 s2 = some (recS k1 n1 s1 k2 n2 s2 (n1 + n2)) := by
  unfold value_Add.f
  rw [reckoned_eq k hk _ _ _ _ _ _ 1 (.inl rfl), Int.one_mul]
  rfl
theorem sub_eq (k : Nat) (hk : 0 < k) (k1 n1 : Int) (s1 : ByteArray) (k2 n2 : Int) (s2 : ByteArray) : value_Sub.f k k1 n1 s1 k2 n2 s2 = some (recS k1 n1 s1 k2 n2 s2 (n1 - n2)) := by
  unfold value_Sub.f
  rw [reckoned_eq k hk _ _ _ _ _ _ (-1) (.inr rfl), show n1 + -1 * n2 = n1 - n2 by omega]
  rfl
theorem ref_number_sum (m : Int) : auguryref04_number.f m = some (if -1099511627776 ≤ m ∧ m ≤ 1099511627776 then (1, m, ⟨#[]⟩, 0) else (0, 0, ⟨#[]⟩, 41)) := by
  unfold auguryref04_number.f
  by_cases a : m < -1099511627776
  · rw [if_pos a, if_neg (by omega)]
  · rw [if_neg a]
    by_cases b : m > 1099511627776
    · rw [if_pos b, if_neg (by omega)]
    · rw [if_neg b, if_pos (by omega)]
theorem ref_add_eq (k : Nat) (hk : 0 < k) (k1 n1 : Int) (s1 : ByteArray) (k2 n2 : Int) (s2 : ByteArray) : auguryref04_Add.f k k1 n1 s1 k2 n2 s2 = some (recS k1 n1 s1 k2 n2 s2 (n1 + n2)) := by
  unfold auguryref04_Add.f recS
  rw [may_eq k hk]
  simp only [Option.bind_some]
  by_cases h : bothS k1 n1 s1 k2 n2 s2 = 0
  · simp only [if_pos h]
    obtain ⟨rfl, rfl, o1, o2⟩ := both_zero h
    have b1 := ok_int o1
    have b2 := ok_int o2
    rw [wrap_in (n := n1 + n2) (by omega) (by omega), ref_number_sum]
    rfl
  · simp only [if_neg h]
theorem ref_sub_eq (k : Nat) (hk : 0 < k) (k1 n1 : Int) (s1 : ByteArray) (k2 n2 : Int) (s2 : ByteArray) : auguryref04_Sub.f k k1 n1 s1 k2 n2 s2 = some (recS k1 n1 s1 k2 n2 s2 (n1 - n2)) := by
  unfold auguryref04_Sub.f recS
  rw [may_eq k hk]
  simp only [Option.bind_some]
  by_cases h : bothS k1 n1 s1 k2 n2 s2 = 0
  · simp only [if_pos h]
    obtain ⟨rfl, rfl, o1, o2⟩ := both_zero h
    have b1 := ok_int o1
    have b2 := ok_int o2
    rw [wrap_in (n := n1 - n2) (by omega) (by omega), ref_number_sum]
    rfl
  · simp only [if_neg h]

/-! The digits. -/
def digS : Nat → Int → List Int
  | 0, n => [n]
  | d + 1, n => if n > 127 then (n % 128 + 128) :: digS d (n / 128) else [n]
theorem or128 (n : Int) (h0 : 0 ≤ n) : bits .or .u8 (n % 256) 128 = n % 128 + 128 := by
  have h : ∀ x : Fin 256, bits .or .u8 (x.val : Int) 128 = (x.val : Int) % 128 + 128 := by decide +kernel
  obtain ⟨m, hm⟩ := Int.eq_ofNat_of_zero_le (show 0 ≤ n % 256 by omega)
  have := h ⟨m, by omega⟩
  simp only at this
  rw [hm, this]
  omega
theorem digS_length (d : Nat) : ∀ n, (digS d n).length ≤ d + 1 := by
  induction d with
  | zero => intro n; simp [digS]
  | succ d ih =>
    intro n
    unfold digS
    split
    · have := ih (n / 128); simp; omega
    · simp
theorem pow7 (d : Nat) : (2 : Int) ^ (7 * (d + 1)) = 128 * 2 ^ (7 * d) := by
  rw [show 7 * (d + 1) = 7 * d + 7 by omega, Int.pow_add, Int.mul_comm]; rfl
theorem put_l0 : ∀ (d k : Nat) (n : Int) (acc : List Int), 0 ≤ n → n < 2 ^ (7 * (d + 1)) → d < k → acc.length + d < 1000 → value_Put.l0 k acc n = some (acc ++ digS d n) := by
  intro d
  induction d with
  | zero =>
    intro k n acc h0 h1 hk ha
    obtain ⟨k, rfl⟩ : ∃ m, k = m + 1 := ⟨k - 1, by omega⟩
    have h2 : n < 128 := h1
    simp only [value_Put.l0, digS]
    rw [if_neg (by omega), if_pos (by omega), Int.emod_eq_of_lt h0 (by omega)]
  | succ d ih =>
    intro k n acc h0 h1 hk ha
    obtain ⟨k, rfl⟩ : ∃ m, k = m + 1 := ⟨k - 1, by omega⟩
    simp only [value_Put.l0, digS]
    by_cases c : n > 127
    · rw [if_pos c, if_pos (by omega), if_pos c, or128 n h0]
      have h2 : n / 128 < 2 ^ (7 * (d + 1)) := by rw [pow7] at h1; omega
      rw [ih k (n / 128) _ (by omega) h2 (by omega) (by simp; omega)]
      simp
    · rw [if_neg c, if_pos (by omega), if_neg c, Int.emod_eq_of_lt h0 (by omega)]
theorem ref_digits_l0 : ∀ (d k : Nat) (n : Int) (acc : List Int), 0 ≤ n → n < 2 ^ (7 * (d + 1)) → n < 9223372036854775807 → d < k → acc.length + d < 1000 → auguryref04_Digits.l0 k n acc = some (acc ++ digS d n) := by
  intro d
  induction d with
  | zero =>
    intro k n acc h0 h1 _ hk ha
    obtain ⟨k, rfl⟩ : ∃ m, k = m + 1 := ⟨k - 1, by omega⟩
    have h2 : n < 128 := h1
    simp only [auguryref04_Digits.l0, digS]
    rw [if_neg (by omega), if_pos (by omega), Int.emod_eq_of_lt h0 (by omega)]
  | succ d ih =>
    intro k n acc h0 h1 h3 hk ha
    obtain ⟨k, rfl⟩ : ∃ m, k = m + 1 := ⟨k - 1, by omega⟩
    simp only [auguryref04_Digits.l0, digS]
    by_cases c : n > 127
    · have t2 : Int.tmod n 128 = n % 128 := Int.tmod_eq_emod_of_nonneg h0
      have t3 : Int.tdiv n 128 = n / 128 := Int.tdiv_eq_ediv_of_nonneg h0
      rw [if_pos (by omega), if_pos (by omega), if_pos c, t2, t3, wrap_in (n := n / 128) (by omega) (by omega), Int.emod_eq_of_lt (a := n % 128 + 128) (by omega) (by omega)]
      have h2 : n / 128 < 2 ^ (7 * (d + 1)) := by rw [pow7] at h1; omega
      rw [ih k (n / 128) _ (by omega) h2 (by omega) (by omega) (by simp; omega)]
      simp
    · rw [if_neg (by omega), if_pos (by omega), if_neg c, Int.emod_eq_of_lt h0 (by omega)]

/-- A number, as it is written. -/
def zzE (n : Int) : Int := if n < 0 then -2 * n - 1 else 2 * n
theorem xor_gen0 (x : Int) (h0 : -4611686018427387904 ≤ x) (h1 : x < 4611686018427387904) : bits .xor .i64 x 0 = x := by
  have e : bits .xor .i64 x 0 = IntKind.i64.wrap ((BitVec.ofInt 64 x ^^^ BitVec.ofInt 64 0).toNat : Int) := rfl
  rw [e, show BitVec.ofInt 64 0 = 0#64 from rfl, BitVec.xor_zero, i64_toNat, IntKind.wrap_i64]
  omega
theorem xor_gen1 (x : Int) (h0 : -4611686018427387904 ≤ x) (h1 : x < 4611686018427387904) : bits .xor .i64 x (-1) = -x - 1 := by
  have e : bits .xor .i64 x (-1) = IntKind.i64.wrap ((BitVec.ofInt 64 x ^^^ BitVec.ofInt 64 (-1)).toNat : Int) := rfl
  rw [e, show BitVec.ofInt 64 (-1) = BitVec.allOnes 64 from rfl, BitVec.xor_allOnes, BitVec.toNat_not, i64_toNat, IntKind.wrap_i64]
  omega
theorem zzE_eq (n : Int) (h0 : -1099511627776 ≤ n) (h1 : n ≤ 1099511627776) : IntKind.u64.wrap (bits .xor .i64 (wrap64 (n * 2)) (n / 9223372036854775808)) = zzE n := by
  rw [wrap_in (n := n * 2) (by omega) (by omega)]
  unfold zzE
  by_cases c : n < 0
  · rw [if_pos c, show n / 9223372036854775808 = -1 by omega, xor_gen1 _ (by omega) (by omega), wrap_u64]; omega
  · rw [if_neg c, show n / 9223372036854775808 = 0 by omega, xor_gen0 _ (by omega) (by omega), wrap_u64]; omega
def putS (k n : Int) (s : ByteArray) : List Int :=
  if okVal k n s = true then k :: (if k = 1 then digS 5 (zzE n) else if k = 2 then (s.size : Int) :: bytesOf s else [n]) else []
theorem zzE_lt (n : Int) (h0 : -1099511627776 ≤ n) (h1 : n ≤ 1099511627776) : 0 ≤ zzE n ∧ zzE n ≤ 2199023255552 := by
  unfold zzE
  split <;> omega
theorem put_eq (k : Nat) (hk : 5 < k) (kd n : Int) (s : ByteArray) : value_Put.f k kd n s = some (putS kd n s) := by
  unfold value_Put.f putS
  rw [right_ok]
  simp only [Option.bind_some]
  cases c : okVal kd n s with
  | false => simp
  | true =>
    simp only [if_true]
    rcases ok_kind c with rfl | rfl | rfl
    · have b := ok_int c
      have b2 := zzE_lt n b.1 b.2.1
      have hp : (2 : Int) ^ (7 * (5 + 1)) = 4398046511104 := rfl
      rw [if_neg (by decide), if_neg (by decide), zzE_eq n b.1 b.2.1, put_l0 5 k _ _ b2.1 (by omega) hk (by simp)]
      rfl
    · have b := ok_text c
      rw [if_pos rfl, if_pos (by simp), if_pos (by simp; omega), if_neg (by decide), if_pos rfl]
      rw [Int.emod_eq_of_lt (a := (s.size : Int)) (by omega) (by omega)]
      rfl
    · have b := ok_bool c
      rw [if_neg (by decide), if_pos rfl, if_pos (by simp), if_neg (by decide), if_neg (by decide), Int.emod_eq_of_lt (a := n) (by omega) (by omega)]
      rfl
theorem ref_put_eq (k : Nat) (hk : 5 < k) (kd n : Int) (s : ByteArray) : auguryref04_Put.f k kd n s = some (putS kd n s) := by
  unfold auguryref04_Put.f putS
  rw [ref_right_ok]
  simp only [Option.bind_some]
  cases c : okVal kd n s with
  | false => simp
  | true =>
    simp only [if_true]
    rcases ok_kind c with rfl | rfl | rfl
    · have b := ok_int c
      have b2 := zzE_lt n b.1 b.2.1
      have hp : (2 : Int) ^ (7 * (5 + 1)) = 4398046511104 := rfl
      rw [if_pos rfl, if_pos rfl]
      by_cases q : n < 0
      · rw [if_pos q, wrap_in (n := -2 * n) (by omega) (by omega), wrap_in (n := -2 * n - 1) (by omega) (by omega)]
        have e : zzE n = -2 * n - 1 := if_pos q
        rw [← e]
        unfold auguryref04_Digits.f
        rw [ref_digits_l0 5 k _ _ b2.1 (by omega) (by omega) hk (by simp)]
        have := digS_length 5 (zzE n)
        simp only [Option.bind_some, List.nil_append]
        rw [if_pos (by simp; omega)]
        rfl
      · rw [if_neg q, wrap_in (n := 2 * n) (by omega) (by omega)]
        have e : zzE n = 2 * n := if_neg q
        rw [← e]
        unfold auguryref04_Digits.f
        rw [ref_digits_l0 5 k _ _ b2.1 (by omega) (by omega) hk (by simp)]
        have := digS_length 5 (zzE n)
        simp only [Option.bind_some, List.nil_append]
        rw [if_pos (by simp; omega)]
        rfl
    · have b := ok_text c
      rw [if_neg (by decide), if_pos rfl, if_pos (by simp), if_pos (by simp; omega), if_neg (by decide), if_pos rfl]
      rw [Int.emod_eq_of_lt (a := (s.size : Int)) (by omega) (by omega)]
      rfl
    · have b := ok_bool c
      rw [if_neg (by decide), if_neg (by decide), if_pos rfl, if_pos (by simp), if_neg (by decide), if_neg (by decide), Int.emod_eq_of_lt (a := n) (by omega) (by omega)]
      rfl

/-! Comparisons. -/
theorem bl_irrefl : ∀ x : List UInt8, Op.bytesLess x x = false
  | [] => rfl
  | a :: x => by simp [Op.bytesLess, bl_irrefl x]
theorem compare_eq : ∀ x y : List UInt8, Lib.compareBytes x y = if Op.bytesLess x y = true then -1 else if (x == y) = true then 0 else 1
  | [], [] => rfl
  | [], _ :: _ => rfl
  | _ :: _, [] => rfl
  | a :: x, b :: y => by
    unfold Lib.compareBytes Op.bytesLess
    by_cases h : a < b
    · simp [h]
    · by_cases h2 : b < a
      · have : ¬ a = b := fun e => by subst e; exact h h2
        simp [h, h2, this]
      · have e : a = b := UInt8.le_antisymm (UInt8.not_lt.1 h2) (UInt8.not_lt.1 h)
        subst e
        rw [if_neg h, if_neg h, compare_eq x y]
        simp [h]
/-- The outcome of a comparison, out of 'less' and 'same'. -/
def cmpB (op : Int) (less same : Bool) : Bool :=
  if op = 1 then same else if op = 2 then !same else if op = 3 then less else if op = 4 then (less || same) else if op = 5 then (!less && !same) else !less
theorem sg_eq (op : Int) (h1 : 1 ≤ op) (h2 : op ≤ 6) (less same : Bool) (h : ¬ (less = true ∧ same = true)) :
    cmpSg op ((if less = true then -1 else if same = true then 0 else 1) + 1) = cmpB op less same := by
  have : op = 1 ∨ op = 2 ∨ op = 3 ∨ op = 4 ∨ op = 5 ∨ op = 6 := by omega
  rcases this with rfl | rfl | rfl | rfl | rfl | rfl <;> cases less <;> cases same <;> first | rfl | exact absurd ⟨rfl, rfl⟩ h
def lessS (n1 : Int) (s1 : ByteArray) (n2 : Int) (s2 : ByteArray) : Bool := decide (n1 < n2) || (decide (n1 = n2) && Op.bytesLess s1.toList s2.toList)
def sameS (n1 : Int) (s1 : ByteArray) (n2 : Int) (s2 : ByteArray) : Bool := decide (n1 = n2) && (s1.toList == s2.toList)
def cmpS (op k1 n1 : Int) (s1 : ByteArray) (k2 n2 : Int) (s2 : ByteArray) : Bool × Int :=
  if okVal k1 n1 s1 = true ∧ okVal k2 n2 s2 = true ∧ 1 ≤ op ∧ op ≤ 6 then
    (if k1 = k2 ∧ ¬ (k1 = 3 ∧ op > 2) then (cmpB op (lessS n1 s1 n2 s2) (sameS n1 s1 n2 s2), 0) else (false, 42)) else (false, 1)
theorem less_same (n1 : Int) (s1 : ByteArray) (n2 : Int) (s2 : ByteArray) : ¬ (lessS n1 s1 n2 s2 = true ∧ sameS n1 s1 n2 s2 = true) := by
  unfold lessS sameS
  rintro ⟨a, b⟩
  simp at a b
  obtain ⟨rfl, e⟩ := b
  rcases a with a | a
  · omega
  · exact absurd a.2 (by rw [e, bl_irrefl]; decide)
theorem cmp_int (a b : Int) : cmp_Compare_int64.f a b = some (if a < b then -1 else if a = b then 0 else 1) := by
  unfold cmp_Compare_int64.f cmp_isNaN_int64.f
  simp only [Option.bind_some, bne_self_eq_false, Bool.false_eq_true, if_false]
  by_cases h : a < b
  · simp [h]
  · by_cases h2 : a = b
    · simp [h2]
    · simp [h, h2, show a > b by omega]
theorem compare_val_eq (op k1 n1 : Int) (s1 : ByteArray) (k2 n2 : Int) (s2 : ByteArray) : value_Compare.f op k1 n1 s1 k2 n2 s2 = some (cmpS op k1 n1 s1 k2 n2 s2) := by
  unfold value_Compare.f cmpS
  rw [right_ok, right_ok]
  simp only [Option.bind_some]
  cases c1 : okVal k1 n1 s1 with
  | false => simp
  | true =>
    cases c2 : okVal k2 n2 s2 with
    | false => simp
    | true =>
      simp only [if_true, true_and]
      by_cases o1 : op < 1
      · rw [if_pos o1, if_neg (by omega)]
      rw [if_neg o1]
      by_cases o2 : op > 6
      · rw [if_pos o2, if_neg (by omega)]
      rw [if_neg o2, if_pos (show 1 ≤ op ∧ op ≤ 6 by omega)]
      by_cases e : k1 = k2
      · subst e
        rw [if_pos rfl]
        have hls := less_same n1 s1 n2 s2
        have hsg := sg_eq op (by omega) (by omega) _ _ hls
        have hrng : ∀ x y : Bool, (-1 : Int) ≤ (if x = true then -1 else if y = true then 0 else 1) ∧ (if x = true then (-1 : Int) else if y = true then 0 else 1) ≤ 1 := by intro x y; cases x <;> cases y <;> decide
        by_cases t : k1 = 2
        · subst t
          have b1 := ok_text c1
          have b2 := ok_text c2
          have ecmp : strings_Compare.f s1 s2 = some (if lessS n1 s1 n2 s2 = true then -1 else if sameS n1 s1 n2 s2 = true then 0 else 1) := by
            unfold strings_Compare.f bytealg_CompareString.f
            simp only [Option.bind_some]
            rw [compare_eq, ← ByteArray.toList_eq, ← ByteArray.toList_eq]
            unfold lessS sameS
            rw [b1.1, b2.1]
            simp
          rw [if_pos rfl, ecmp]
          simp only [Option.bind_some]
          rw [if_pos (hrng _ _), hsg, if_pos ⟨trivial, by omega⟩]
        · rw [if_neg t]
          have hs : s1.toList = [] ∧ s2.toList = [] := by
            rcases ok_kind c1 with rfl | rfl | rfl
            · exact ⟨(ok_int c1).2.2, (ok_int c2).2.2⟩
            · exact absurd rfl t
            · exact ⟨(ok_bool c1).2.2, (ok_bool c2).2.2⟩
          have ecmp : cmp_Compare_int64.f n1 n2 = some (if lessS n1 s1 n2 s2 = true then -1 else if sameS n1 s1 n2 s2 = true then 0 else 1) := by
            rw [cmp_int]
            unfold lessS sameS
            rw [hs.1, hs.2]
            by_cases q : n1 < n2
            · simp [q]
            · by_cases q2 : n1 = n2 <;> simp [q, q2, Op.bytesLess]
          by_cases b : k1 = 3
          · rw [if_pos b]
            by_cases o3 : op > 2
            · rw [if_pos o3, if_neg (by rintro ⟨_, h⟩; exact h ⟨b, o3⟩)]
            · rw [if_neg o3, ecmp]
              simp only [Option.bind_some]
              rw [if_pos (hrng _ _), hsg, if_pos ⟨trivial, by rintro ⟨_, h⟩; exact o3 h⟩]
          · rw [if_neg b, ecmp]
            simp only [Option.bind_some]
            rw [if_pos (hrng _ _), hsg, if_pos ⟨trivial, by rintro ⟨h, _⟩; exact b h⟩]
      · rw [if_neg e, if_neg (by rintro ⟨h, _⟩; exact e h)]
end Go.Proofs.Ytlbaoekmnfeogaa.PAll
