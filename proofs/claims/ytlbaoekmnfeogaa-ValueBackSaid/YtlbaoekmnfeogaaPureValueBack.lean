/- The law ValueBack, of values and bytes alone: a right value is read of its bytes, with any behind, as it was; what is read of any bytes has those that it was read of. -/
import Derived.Test.YtlbaoekmnfeogaaPAllx18
import Derived.Test.YtlbaoekmnfeogaaPAllx31
import Derived.Test.YtlbaoekmnfeogaaValRt
namespace Go.Proofs.Ytlbaoekmnfeogaa.Pure
open Go.RowKit Go.Proofs.Ytlbaoekmnfeogaa.PAll Go.Proofs.YtlbaoekmnfeogaaW.PrintWords Go.Proofs.YtlbaoekmnfeogaaW.PrintLast
theorem head_ok : augurylaw04_head.f 20 = some true := by kernel_rfl
def zero5 : Int × Int × ByteArray × Int × Bool := (0, 0, ⟨#[]⟩, 0, false)
def textAt (l : List Int) : ByteArray := strOfNums ((l.take (2 + rd l 1).toNat).drop 2)
/-- What bytes are read as. -/
def getS (l : List Int) : Int × Int × ByteArray × Int × Bool :=
  if l.length < 2 then zero5 else
  if rd l 0 = 1 then (match numL 7 true (l.drop 1) with
    | some (m, j, true) => if okVal 1 (zz m) ⟨#[]⟩ = true then (1, zz m, ⟨#[]⟩, 1 + (j : Int), true) else zero5
    | _ => zero5) else
  if rd l 0 = 2 then (if 2 + rd l 1 ≤ (l.length : Int) then (if okVal 2 0 (textAt l) = true then (2, 0, textAt l, 2 + rd l 1, true) else zero5) else zero5) else
  if rd l 0 = 3 then (if okVal 3 (rd l 1) ⟨#[]⟩ = true then (3, rd l 1, ⟨#[]⟩, 2, true) else zero5) else zero5
theorem get_S (l : List Int) (hb : Bytes l) (hl : l.length ≤ 1000000) (k : Nat) (hk : 15 < k) : value_Get.f k l = some (getS l) := by
  have h0 := rd_byte hb 0
  have h1 := rd_byte hb 1
  have w0 : wrap64 (rd l 0) = rd l 0 := wrap_in (by omega) (by omega)
  have w1 : wrap64 (rd l 1) = rd l 1 := wrap_in (by omega) (by omega)
  have w2 : wrap64 (2 + rd l 1) = 2 + rd l 1 := wrap_in (by omega) (by omega)
  have hd := bytes_drop hb 1
  have hld : (l.drop 1).length ≤ 140737488355328 := by rw [List.length_drop]; omega
  unfold value_Get.f getS
  simp only [w0, w1, w2, right_ok, Option.bind_some]
  by_cases c1 : l.length < 2
  · rw [if_pos (by omega), if_pos c1]; rfl
  rw [if_neg (by omega), if_neg c1, if_pos (show 0 < (l.length : Int) by omega)]
  by_cases c2 : rd l 0 = 1
  · rw [if_pos c2, if_pos c2, if_pos (show 1 ≤ (l.length : Int) by omega), value_number_eq _ hd hld k (by omega), Option.bind_some]
    have hg := numG_L (l.drop 1) 7 0 0
    simp only [decide_true, List.drop_zero, Nat.mul_zero, Int.pow_zero, Int.mul_one, Int.zero_add, Nat.zero_add, Int.natCast_zero] at hg
    rw [hg]
    cases e : numL 7 true (l.drop 1) with
    | none => rfl
    | some r =>
      obtain ⟨m, j, fl⟩ := r
      have hgb := hg
      rw [e] at hgb
      obtain ⟨b0, b1, b2, b3, _⟩ := numG_bound (l.drop 1) 7 0 0 (by omega) (by omega) (by omega) (by decide) m j fl hgb
      simp only [Option.map_some, Option.getD_some]
      cases fl with
      | false => rfl
      | true =>
        rw [if_pos rfl, zz_eq m b0 b1, wrap_in (n := 1 + (j : Int)) (by omega) (by omega), c2]
        cases h : okVal 1 (zz m) ⟨#[]⟩ <;> simp [h, zero5]
  rw [if_neg c2, if_neg c2]
  by_cases c5 : rd l 0 = 2
  · rw [if_pos c5, if_pos c5, if_pos (show 1 < (l.length : Int) by omega), c5]
    by_cases c6 : 2 + rd l 1 ≤ (l.length : Int)
    · rw [if_pos c6, if_pos c6, if_pos (show 2 ≤ 2 + rd l 1 by omega)]
      unfold textAt
      cases okVal 2 0 (strOfNums (List.drop 2 (List.take (2 + rd l 1).toNat l))) <;> simp [zero5]
    · rw [if_neg c6, if_neg c6]; rfl
  rw [if_neg c5, if_neg c5]
  by_cases c7 : rd l 0 = 3
  · rw [if_pos c7, if_pos c7, if_pos (show 1 < (l.length : Int) by omega), c7]
    cases okVal 3 (rd l 1) ⟨#[]⟩ <;> simp [zero5]
  · rw [if_neg c7, if_neg c7]
    have : okVal (rd l 0) 0 ⟨#[]⟩ = false := by
      unfold okVal
      rw [if_neg c2, if_neg c5, if_neg c7]
    rw [this]
    rfl
theorem empty_of {s : ByteArray} (h : s.toList = []) : s = ⟨#[]⟩ := by
  have : s.data.toList = [] := by rw [← ByteArray.toList_eq]; exact h
  cases s with
  | mk d => rw [show d = #[] from Array.toList_inj.1 this]
theorem bytesOf_strOfNums {l : List Int} (h : Bytes l) : bytesOf (strOfNums l) = l := by
  unfold bytesOf strOfNums
  simp only [List.map_map]
  refine (List.map_congr_left (fun x hx => ?_)).trans (List.map_id l)
  have := h x hx
  simp only [Function.comp_apply, id_eq]
  rw [UInt8.toNat_ofNat']
  omega
theorem strOfNums_bytesOf (s : ByteArray) : strOfNums (bytesOf s) = s := by
  unfold bytesOf strOfNums
  rw [List.map_map]
  have : s.data.toList.map ((fun n : Int => UInt8.ofNat n.toNat) ∘ fun b : UInt8 => (b.toNat : Int)) = s.data.toList := by
    refine (List.map_congr_left (fun x _ => ?_)).trans (List.map_id _)
    simp
  rw [this]
theorem strOfNums_size (l : List Int) : (strOfNums l).size = l.length := by
  simp [strOfNums, ByteArray.size]
theorem bytesOf_bytes (s : ByteArray) : Bytes (bytesOf s) := by
  intro x hx
  obtain ⟨b, _, rfl⟩ := List.mem_map.1 hx
  have := b.toNat_lt
  omega
theorem dig_bytes (d : Nat) : ∀ (n : Int), 0 ≤ n → n < 2 ^ (7 * (d + 1)) → Bytes (digS d n) := by
  induction d with
  | zero =>
    intro n h0 h1 x hx
    have h1 : n < 128 := h1
    rw [digS, List.mem_singleton] at hx
    omega
  | succ d ih =>
    intro n h0 h1 x hx
    rw [digS] at hx
    by_cases c : n > 127
    · have hy : n / 128 < 2 ^ (7 * (d + 1)) := by rw [pow7] at h1; omega
      rw [if_pos c] at hx
      rcases List.mem_cons.1 hx with rfl | hx
      · omega
      · exact ih (n / 128) (by omega) hy x hx
    · rw [if_neg c, List.mem_singleton] at hx
      omega
theorem putS_int {n : Int} {s : ByteArray} (h : okVal 1 n s = true) : putS 1 n s = 1 :: digS 5 (zzE n) := by
  unfold putS
  rw [if_pos h, if_pos rfl]
theorem putS_text {n : Int} {s : ByteArray} (h : okVal 2 n s = true) : putS 2 n s = 2 :: (s.size : Int) :: bytesOf s := by
  unfold putS
  rw [if_pos h, if_neg (by decide), if_pos rfl]
theorem putS_bool {n : Int} {s : ByteArray} (h : okVal 3 n s = true) : putS 3 n s = [3, n] := by
  unfold putS
  rw [if_pos h, if_neg (by decide), if_neg (by decide)]
theorem putS_len {k n : Int} {s : ByteArray} (h : okVal k n s = true) : 2 ≤ (putS k n s).length ∧ (putS k n s).length ≤ 1000 := by
  unfold putS
  rw [if_pos h]
  rcases ok_kind h with rfl | rfl | rfl
  · rw [if_pos rfl]
    have := digS_length 5 (zzE n)
    have h2 : (digS 5 (zzE n)).length ≠ 0 := fun h => digS_nil _ _ (List.eq_nil_of_length_eq_zero h)
    simp only [List.length_cons]
    omega
  · have := ok_text h
    simp [bytesOf_length]
    omega
  · simp
theorem okInt_dig {n : Int} {s : ByteArray} (h : okVal 1 n s = true) : 0 ≤ zzE n ∧ zzE n < 2 ^ (7 * (5 + 1)) := by
  have := ok_int h
  have := zzE_lt n this.1 this.2.1
  have hp : (2 : Int) ^ (7 * (5 + 1)) = 4398046511104 := rfl
  omega
/-- What is put is got, with any bytes behind. -/
theorem get_put {k n : Int} {s : ByteArray} (h : okVal k n s = true) (more : List Int) : getS (putS k n s ++ more) = (k, n, s, ((putS k n s).length : Int), true) := by
  have hl := putS_len h
  unfold getS
  rw [if_neg (by rw [List.length_append]; omega)]
  rcases ok_kind h with rfl | rfl | rfl
  · have hz := okInt_dig h
    have he := empty_of (ok_int h).2.2
    subst he
    rw [putS_int h]
    have e0 : rd ((1 : Int) :: (digS 5 (zzE n) ++ more)) 0 = 1 := rfl
    rw [List.cons_append, e0, if_pos rfl, List.drop_succ_cons, List.drop_zero, num_dig 5 7 (zzE n) true more (by omega) hz.1 hz.2]
    simp only [Bool.true_or]
    rw [zz_zzE, if_pos h, List.length_cons, show 1 + ((digS 5 (zzE n)).length : Int) = (((digS 5 (zzE n)).length + 1 : Nat) : Int) by omega]
  · have ht := ok_text h
    rw [putS_text h]
    have e1 : rd ((2 : Int) :: (s.size : Int) :: bytesOf s ++ more) 1 = (s.size : Int) := rfl
    have et : textAt ((2 : Int) :: (s.size : Int) :: bytesOf s ++ more) = s := by
      unfold textAt
      rw [e1, show (2 + (s.size : Int)).toNat = s.size + 2 by omega]
      show strOfNums ((bytesOf s ++ more).take s.size) = s
      rw [List.take_left' (bytesOf_length s), strOfNums_bytesOf]
    have e0 : rd ((2 : Int) :: (s.size : Int) :: bytesOf s ++ more) 0 = 2 := rfl
    rw [e0, e1, et, if_neg (by decide), if_pos rfl, if_pos (by simp [bytesOf_length]; omega)]
    obtain ⟨rfl, _⟩ := ht
    rw [if_pos h]
    simp only [List.length_cons, bytesOf_length]
    rw [show 2 + (s.size : Int) = ((s.size + 1 + 1 : Nat) : Int) by omega]
  · have hb := ok_bool h
    have he := empty_of hb.2.2
    subst he
    rw [putS_bool h]
    have e0 : rd ([(3 : Int), n] ++ more) 0 = 3 := rfl
    have e1 : rd ([(3 : Int), n] ++ more) 1 = n := rfl
    rw [e0, e1, if_neg (by decide), if_neg (by decide), if_pos rfl, if_pos h]
    rfl
/-- What is cut is none. -/
theorem get_cut {k n : Int} {s : ByteArray} (h : okVal k n s = true) : getS ((putS k n s).take ((putS k n s).length - 1)) = zero5 := by
  have hl := putS_len h
  unfold getS
  by_cases c : ((putS k n s).take ((putS k n s).length - 1)).length < 2
  · rw [if_pos c]
  rw [if_neg c]
  rw [List.length_take] at c
  rcases ok_kind h with rfl | rfl | rfl
  · have hz := okInt_dig h
    rw [putS_int h] at hl c ⊢
    have hm := num_cut 5 7
    generalize hq : digS 5 (zzE n) = q at hl c ⊢
    obtain ⟨j, hj⟩ : ∃ j, ((1 : Int) :: q).length - 1 = j + 1 := ⟨((1 : Int) :: q).length - 2, by omega⟩
    rw [hj, List.take_succ_cons]
    have e0 : rd ((1 : Int) :: q.take j) 0 = 1 := rfl
    have hjl : j < q.length := by simp only [List.length_cons] at hj; omega
    rw [e0, if_pos rfl, List.drop_succ_cons, List.drop_zero, ← hq, hm j (zzE n) true (by rw [hq]; exact hjl) hz.1]
  · have ht := ok_text h
    rw [putS_text h] at hl c ⊢
    simp only [List.length_cons, bytesOf_length] at hl c ⊢
    obtain ⟨j, hj⟩ : ∃ j, s.size + 1 + 1 - 1 = j + 2 := ⟨s.size - 1, by omega⟩
    rw [hj, List.take_succ_cons, List.take_succ_cons]
    have e0 : rd ((2 : Int) :: (s.size : Int) :: (bytesOf s).take j) 0 = 2 := rfl
    have e1 : rd ((2 : Int) :: (s.size : Int) :: (bytesOf s).take j) 1 = (s.size : Int) := rfl
    rw [e0, e1, if_neg (by decide), if_pos rfl, if_neg (by simp [bytesOf_length]; omega)]
  · rw [putS_bool h] at c
    exact absurd c (by simp)
/-- What is got is put: it has the bytes that it was read of. -/
theorem put_get {l : List Int} (hb : Bytes l) {k n : Int} {s : ByteArray} {j : Int} (h : getS l = (k, n, s, j, true)) : okVal k n s = true ∧ 0 < j ∧ j ≤ (l.length : Int) ∧ putS k n s = l.take j.toNat := by
  unfold getS at h
  split at h
  · cases h
  rename_i c1
  obtain ⟨x0, x1, t, rfl⟩ : ∃ x0 x1 t, l = x0 :: x1 :: t := by
    match l, c1 with
    | x0 :: x1 :: t, _ => exact ⟨x0, x1, t, rfl⟩
    | [_], c => exact absurd (by simp) c
    | [], c => exact absurd (by simp) c
  have r0 : rd (x0 :: x1 :: t) 0 = x0 := rfl
  have r1 : rd (x0 :: x1 :: t) 1 = x1 := rfl
  have b1 := hb x1 (by simp)
  rw [r0, r1] at h
  split at h
  · rename_i c2
    subst c2
    split at h
    · rename_i m q e
      split at h
      · rename_i c3
        cases h
        obtain ⟨i1, i2, i3, i4, i5, i6⟩ := num_inv 6 true _ (bytes_drop hb 1) m q e
        have hok := okInt_dig c3
        rw [zzE_zz m i1] at hok
        rw [List.drop_succ_cons, List.drop_zero] at i5 i6
        refine ⟨c3, by omega, by rw [List.length_cons]; omega, ?_⟩
        unfold putS
        rw [if_pos c3, if_pos rfl, zzE_zz m i1, ← dig_more 5 m i1 hok.2, i6, show (1 + (q : Int)).toNat = q + 1 by omega, List.take_succ_cons]
      · cases h
    · cases h
  · split at h
    · rename_i c2 c3
      subst c3
      split at h
      · rename_i c4
        split at h
        · rename_i c5
          cases h
          refine ⟨c5, by omega, c4, ?_⟩
          have ht : textAt (2 :: x1 :: t) = strOfNums (t.take x1.toNat) := by
            unfold textAt
            rw [r1, show (2 + x1).toNat = x1.toNat + 2 by omega]
            rfl
          have hbt : Bytes (t.take x1.toNat) := fun x hx => hb x (by simp [List.mem_of_mem_take hx])
          unfold putS
          rw [if_pos c5, if_neg (by decide), if_pos rfl, ht, bytesOf_strOfNums hbt, strOfNums_size, show (2 + x1).toNat = x1.toNat + 2 by omega]
          rw [List.take_succ_cons, List.take_succ_cons, List.length_take]
          simp only [List.length_cons] at c4
          rw [show ((min x1.toNat t.length : Nat) : Int) = x1 by omega]
        · cases h
      · cases h
    · split at h
      · rename_i c4
        subst c4
        split at h
        · rename_i c5
          cases h
          refine ⟨c5, by omega, by simp; omega, ?_⟩
          unfold putS
          rw [if_pos c5, if_neg (by decide), if_neg (by decide)]
          rfl
        · cases h
      · cases h
theorem get_cases (l : List Int) : (getS l).2.2.2.2 = true ∨ getS l = zero5 := by
  unfold getS
  split
  · exact Or.inr rfl
  split
  · split
    · split
      · exact Or.inl rfl
      · exact Or.inr rfl
    · exact Or.inr rfl
  split
  · split
    · split
      · exact Or.inl rfl
      · exact Or.inr rfl
    · exact Or.inr rfl
  split
  · split
    · exact Or.inl rfl
    · exact Or.inr rfl
  · exact Or.inr rfl
theorem get_no {l : List Int} (h : (getS l).2.2.2.2 = false) : (getS l).2.2.2.1 = 0 := by
  rcases get_cases l with e | e
  · rw [h] at e
    cases e
  · rw [e]
    rfl
theorem back_j1 (l : List Int) (hb : Bytes l) (hl : l.length ≤ 9000) (q : Nat) (hq : 15 < q) : augurylaw04_ValueBack.j1 (q + 1) l true = some true := by
  rw [augurylaw04_ValueBack.j1, get_S l hb (by omega) q hq, Option.bind_some]
  obtain ⟨k, n, s, j, is, e⟩ : ∃ k n s j is, getS l = (k, n, s, j, is) := ⟨_, _, _, _, _, rfl⟩
  cases is with
  | false =>
    have := get_no (l := l) (by rw [e])
    rw [e] at this ⊢
    simp only at this
    simp [this]
  | true =>
    obtain ⟨p1, p2, p3, p4⟩ := put_get hb e
    rw [e]
    simp only [right_ok, put_eq q (by omega), p1, p4, Option.bind_some, if_true]
    rw [if_pos p2, if_pos p3, if_pos (by omega)]
theorem back_j0 (l : List Int) (hb : Bytes l) (hl : l.length ≤ 9000) (q : Nat) (hq : 15 < q) (k n : Int) (s : ByteArray) : augurylaw04_ValueBack.j0 (q + 2) l true false k n s = some true := by
  rw [augurylaw04_ValueBack.j0, if_neg (by simp), put_eq (q + 1) (by omega), Option.bind_some, right_ok, Option.bind_some]
  cases h : okVal k n s with
  | false =>
    have e : putS k n s = [] := by unfold putS; rw [h]; rfl
    rw [e, if_neg (by simp), if_neg (by simp)]
    exact back_j1 l hb hl q hq
  | true =>
    have hl2 := putS_len h
    have d1 : decide (((putS k n s).length : Int) > 0) = true := decide_eq_true (by omega)
    have hbp : Bytes (putS k n s ++ l) := by
      intro x hx
      rcases List.mem_append.1 hx with hx | hx
      · rcases ok_kind h with rfl | rfl | rfl
        · rw [putS_int h] at hx
          rcases List.mem_cons.1 hx with rfl | hx
          · decide
          · exact dig_bytes 5 (zzE n) (okInt_dig h).1 (okInt_dig h).2 x hx
        · have ht := ok_text h
          rw [putS_text h] at hx
          rcases List.mem_cons.1 hx with rfl | hx
          · decide
          · rcases List.mem_cons.1 hx with rfl | hx
            · omega
            · exact bytesOf_bytes s x hx
        · have ht := ok_bool h
          rw [putS_bool h] at hx
          rcases List.mem_cons.1 hx with rfl | hx
          · decide
          · rw [List.mem_singleton] at hx
            omega
      · exact hb x hx
    have hbc : Bytes ((putS k n s).take ((putS k n s).length - 1)) := fun x hx => hbp x (List.mem_append_left _ (List.mem_of_mem_take hx))
    rw [d1, if_neg (by simp), if_pos (by omega), Option.bind_some, List.nil_append, if_pos (by simp; omega), Option.bind_some, if_pos (by omega), get_S _ hbp (by rw [List.length_append]; omega) (q + 1) (by omega), Option.bind_some, get_put h, wrap_in (n := ((putS k n s).length : Int) - 1) (by omega) (by omega), if_pos (by omega), if_pos (by omega), show (((putS k n s).length : Int) - 1).toNat = (putS k n s).length - 1 by omega, get_S _ hbc (by rw [List.length_take]; omega) (q + 1) (by omega), Option.bind_some, get_cut h]
    rw [if_pos rfl, if_neg (by simp), if_pos rfl, if_neg (by simp [zero5])]
    exact back_j1 l hb hl q hq
theorem ValueBack : augurylaw04_ValueBack.Pure := by
  intro x l _ hl
  have hb := bytes_of_wf hl.2
  refine ⟨20, ?_⟩
  unfold augurylaw04_ValueBack.f
  rw [head_ok, Option.bind_some]
  by_cases c : (x.f2.size : Int) > 9000
  · rw [if_pos c]
    rfl
  rw [if_neg c]
  by_cases d : (l.length : Int) > 9000
  · rw [decide_eq_true d]
    rfl
  rw [decide_eq_false d]
  exact back_j0 l hb (by omega) 18 (by omega) _ _ _
end Go.Proofs.Ytlbaoekmnfeogaa.Pure
