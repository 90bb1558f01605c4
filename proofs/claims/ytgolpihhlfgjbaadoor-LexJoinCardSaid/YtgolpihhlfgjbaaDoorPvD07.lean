/- Layer 07, plainly: tokens as they are written. -/
import Derived.Test.YtgolpihhlfgjbaaDoorPvC07
import Derived.Test.YtgolpihhlfgjbaaDoorPvHead07
import Derived.Test.YtgolpihhlfgjbaaDoorPvQb07
namespace Go.Pv.L07
open Go Go.Pv Go.Proofs
set_option linter.all false
set_option linter.constructorNameAsVariable false
set_option linter.unusedSectionVars false
set_option linter.unusedVariables false
set_option linter.unusedSimpArgs false

theorem head_at {k : Nat} (hk : 100 ≤ k) : F6 k () = some ((true, ()), ()) := by
  have := head_ok (k - 100)
  rwa [show k - 100 + 100 = k by omega] at this
theorem F8_spec {k : Nat} (t : Tk) (hn : t.2.1.length ≤ 100000) : F8 k (toTok t, ()) = some ((ofL (saidL t.1 t.2.1), ()), ()) := by
  have e1 := size_tl (ofL t.2.1)
  rw [ofL_tl] at e1
  have e2 : (({ data := #[39] } : ByteArray) ++ ofL t.2.1).size = 1 + t.2.1.length := by rw [size_tl, app_tl, ofL_tl]; simp [Nat.add_comm]
  have e3 : ({ data := #[39] } : ByteArray).size = 1 := rfl
  rw [F8_eq]
  show (bif decide (t.1 = 3) then bif decide (({ data := #[39] } : ByteArray).size + (ofL t.2.1).size ≤ 9223372036854775807) then bif decide ((({ data := #[39] } : ByteArray) ++ ofL t.2.1).size + ({ data := #[39] } : ByteArray).size ≤ 9223372036854775807) then some ((({ data := #[39] } : ByteArray) ++ ofL t.2.1 ++ ({ data := #[39] } : ByteArray), ()), ()) else none else none else some ((ofL t.2.1, ()), ())) = _
  rw [e2, e3, e1, decide_eq_true (by omega : 1 + t.2.1.length ≤ 9223372036854775807), decide_eq_true (by omega : 1 + t.2.1.length + 1 ≤ 9223372036854775807)]
  unfold saidL
  cases decide (t.1 = 3) with
  | false => rfl
  | true =>
    dsimp only [cond_true]
    have : ({ data := #[39] } : ByteArray) ++ ofL t.2.1 ++ ({ data := #[39] } : ByteArray) = ofL (39 :: (t.2.1 ++ [39])) := ba_ext (by rw [app_tl, app_tl, ofL_tl, ofL_tl]; rfl)
    rw [this]

/-! ### places -/
theorem blank_at {a : ByteArray} {at_ : Nat} {l : List UInt8} (hd : a.data.toList.drop at_ = l) {m : Nat} (h1 : at_ ≤ m) (h2 : m < at_ + runL blk l) : bt a (m : Int) = 32 ∨ bt a (m : Int) = 10 := by
  have hr := run_le blk l
  have hl : m - at_ < l.length := by omega
  have e : bt a (m : Int) = l[m - at_] := by
    unfold bt
    subst hd
    rw [Int.toNat_natCast, List.getD_eq_getElem?_getD, List.getElem_drop, List.getElem?_eq_getElem (by rw [List.length_drop] at hl; omega)]
    simp only [Option.getD_some]
    congr 1; omega
  have hm : l[m - at_] ∈ l.take (runL blk l) := by
    rw [List.mem_take_iff_getElem]
    exact ⟨m - at_, by omega, rfl⟩
  have := run_mem blk l _ hm
  rw [← e] at this
  have : bt a (m : Int) ∈ blk := by simpa using this
  unfold blk at this
  simpa using this
theorem E4_0_0_spec {k : Nat} {a : ByteArray} {at_ : Nat} {l : List UInt8} (hd : a.data.toList.drop at_ = l) (hle : at_ ≤ a.size) (ha : a.size ≤ 600) (hk : 5000 < k) {up : Bool} {L : List (Int × ByteArray × Int)} {i : Int} :
    E4_0_0 k k (a, up, L, i, ((at_ + runL blk l : Nat) : Int), (at_ : Int), ()) = some (Sum.inl (a, up, L, i, ((at_ + runL blk l : Nat) : Int), ())) := by
  have hs := size_tl a
  have hr := run_le blk l
  have hll : l.length = a.size - at_ := by rw [← hd, List.length_drop, hs]
  have key := scan (E := fun j m => E4_0_0 k j (a, up, L, i, ((at_ + runL blk l : Nat) : Int), m, ())) (n := at_ + runL blk l) (p := fun m => decide (m < at_) && true) (a := Sum.inr (Sum.inl (false, ()))) (b := Sum.inl (a, up, L, i, ((at_ + runL blk l : Nat) : Int), ()))
  have key : ∀ (d m j : Nat), at_ + runL blk l - m = d → at_ ≤ m → m ≤ at_ + runL blk l → d < j → E4_0_0 k j (a, up, L, i, ((at_ + runL blk l : Nat) : Int), (m : Int), ()) = some (Sum.inl (a, up, L, i, ((at_ + runL blk l : Nat) : Int), ())) := by
    intro d
    induction d with
    | zero =>
      intro m j h1 h2 h3 h4
      have : m = at_ + runL blk l := by omega
      subst this
      match j, h4 with
      | j + 1, _ => rw [E4_0_0_eq, nlt_nat]; rfl
    | succ d ih =>
      intro m j h1 h2 h3 h4
      match j, h4 with
      | j + 1, h4 =>
        have hm : m < at_ + runL blk l := by omega
        have := ih (m + 1) j (by omega) (by omega) (by omega) (by omega)
        rw [show (((m + 1 : Nat)) : Int) = (m : Int) + 1 by omega] at this
        rw [E4_0_0_eq, lt_nat hm, inb_nat (show m < a.size by omega), wrap_nat (by omega), this]
        rcases blank_at hd h2 hm with e | e <;> rw [e] <;> rfl
  exact key (runL blk l) at_ k (by omega) (Nat.le_refl _) (by omega) (by omega)

theorem E4_0_spec {k : Nat} {a : ByteArray} (ha : a.size ≤ 600) (hk : 5000 < k) {up : Bool} {at_ : Nat} {l : List UInt8} {ts : List Tk} {st : Option Nat} (h : Lex k at_ l ts st) :
    st = none → a.data.toList.drop at_ = l → at_ ≤ a.size → ∀ (j : Nat) (L pre : List (Int × ByteArray × Int)), L = pre ++ ts.map toTok → pre.length + ts.length ≤ 5000 → ts.length < j →
      E4_0 k j (a, up, L, (at_ : Int), (pre.length : Int), ()) = some (Sum.inl (up, L, ())) := by
  have hs := size_tl a
  induction h with
  | fin at_ l h =>
    intro _ hd hle j L pre hL hp hj
    have hll : l.length = a.size - at_ := by rw [← hd, List.length_drop, hs]
    have hpl : pre.length = L.length := by rw [hL, List.map_nil, List.append_nil]
    match j, hj with
    | j + 1, hj =>
      have hin := E4_0_0_spec (k := k) hd hle ha hk (up := up) (L := L) (i := (L.length : Int))
      rw [h, show at_ + l.length = a.size by omega] at hin
      rw [E4_0_eq, hpl, decide_eq_true (Int.le_refl _), nlt_nat, decide_eq_false (by omega : ¬ (a.size : Int) < (at_ : Int)), decide_eq_false (by omega : ¬ (a.size : Int) < (a.size : Int)), hin]
      dsimp only [cond_true, cond_false, Option.bind]
      rw [decide_eq_true rfl]
      rfl
  | err => intro e; cases e
  | tok at_ l kd tx n ts st h h1 h2 h3 ih =>
    intro e hd hle j L pre hL hp hj
    have hll : l.length = a.size - at_ := by rw [← hd, List.length_drop, hs]
    have hd2 : a.data.toList.drop (at_ + runL blk l) = l.drop (runL blk l) := by rw [← hd, List.drop_drop]
    have hd3 : a.data.toList.drop (at_ + runL blk l + n) = l.drop (runL blk l + n) := by rw [← hd, List.drop_drop, Nat.add_assoc]
    have hn := one_le k (l.drop (runL blk l))
    rw [h1, List.length_drop] at hn
    have hn : n ≤ l.length - runL blk l := hn
    have hsaid := (one_local h1 h2).1
    have hsl : (saidL kd tx).length = n := by rw [hsaid, List.length_take, List.length_drop]; omega
    have htx : tx.length ≤ n := by
      rw [← hsl]
      unfold saidL
      cases decide (kd = 3) with
      | false => exact Nat.le_refl _
      | true => simp; omega
    match j, hj with
    | j + 1, hj =>
      have hp' := hp
      rw [List.length_cons] at hp'
      have hL2 : L = (pre ++ [toTok (kd, tx, at_ + runL blk l)]) ++ ts.map toTok := by rw [hL, List.append_assoc]; rfl
      have hlt : pre.length < L.length := by rw [hL2]; simp only [List.length_append, List.length_singleton]; omega
      have hrd : rd (Ty.p (Ty.i IntKind.i64) (Ty.p Ty.s (Ty.i IntKind.i64))) L (pre.length : Int) = toTok (kd, tx, at_ + runL blk l) := by
        rw [rd_nat, List.getD_eq_getElem?_getD, hL, List.getElem?_append_right (Nat.le_refl _), Nat.sub_self]
        rfl
      have hin := E4_0_0_spec (k := k) hd hle ha hk (up := up) (L := L) (i := (pre.length : Int))
      have hnext := ih e hd3 (by omega) j L _ hL2 (by
        rw [List.length_append, List.length_singleton]
        rw [List.length_cons] at hp
        omega) (by rw [List.length_cons] at hj; omega)
      rw [List.length_append, List.length_singleton, show ((pre.length + 1 : Nat) : Int) = (pre.length : Int) + 1 by omega] at hnext
      rw [E4_0_eq, decide_eq_true (by omega : (pre.length : Int) ≤ (L.length : Int)), lt_nat hlt, inb_nat hlt, hrd]
      dsimp only [cond_true]
      rw [show (toTok (kd, tx, at_ + runL blk l)).snd.snd = ((at_ + runL blk l : Nat) : Int) from rfl, decide_eq_false (by omega : ¬ ((at_ + runL blk l : Nat) : Int) < (at_ : Int)), decide_eq_false (by omega : ¬ (a.size : Int) < ((at_ + runL blk l : Nat) : Int)), hin]
      dsimp only [cond_true, cond_false, Option.bind]
      have e8 : (ofL (saidL kd tx)).size = n := by rw [size_tl, ofL_tl, hsl]
      rw [decide_eq_false (by omega : ¬ (pre.length : Int) = (L.length : Int)), inb_nat hlt, hrd, F8_spec (kd, tx, at_ + runL blk l) (by show tx.length ≤ _; omega)]
      dsimp only [cond_true, cond_false]
      rw [e8, wrap_le (by omega) (by omega), wrap_le (by omega) (by omega), wrap_nat (by omega)]
      rw [decide_eq_false (by omega : ¬ (a.size : Int) - ((at_ + runL blk l : Nat) : Int) < (n : Int)), show inr ((at_ + runL blk l : Nat) : Int) (((at_ + runL blk l : Nat) : Int) + (n : Int)) a.size = true by simp [inr]; omega]
      have hex : a.extract (Int.toNat ((at_ + runL blk l : Nat) : Int)) (Int.toNat (((at_ + runL blk l : Nat) : Int) + (n : Int))) = ofL (saidL kd tx) := ba_ext (by
        rw [ext_tl, ofL_tl, hsaid, ← hd2, show (((at_ + runL blk l : Nat) : Int) + (n : Int)).toNat = at_ + runL blk l + n by omega, Int.toNat_natCast, List.drop_take, Nat.add_sub_cancel_left])
      rw [hex, decide_eq_true rfl, decide_eq_false (by omega : ¬ (n : Int) = 0)]
      dsimp only [Bool.not_true, Bool.not_false, cond_true, cond_false]
      rw [show (((at_ + runL blk l : Nat) : Int) + (n : Int)) = ((at_ + runL blk l + n : Nat) : Int) by omega]
      exact hnext
end Go.Pv.L07
