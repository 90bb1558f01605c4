/- Layer 07, plainly: what a text begins with. -/
import Derived.Test.YtgolpihhlfgjbaaDoorPvQ07
import Derived.Test.YtgolpihhlfgjbaaDoorPvP0
import Derived.Lib.IndexLaws
namespace Go.Pv.L07
open Go Go.Pv Go.Proofs
set_option linter.all false
set_option linter.constructorNameAsVariable false
set_option linter.unusedSectionVars false
set_option linter.unusedVariables false
set_option linter.unusedSimpArgs false

theorem size_tl (a : ByteArray) : a.size = a.data.toList.length := by
  rw [Array.length_toList]; rfl
theorem ba_ext {a b : ByteArray} (h : a.data.toList = b.data.toList) : a = b := by
  obtain ⟨a⟩ := a
  obtain ⟨b⟩ := b
  exact congrArg ByteArray.mk (Array.toList_inj.1 h)
theorem ba_iff {a b : ByteArray} : a = b ↔ a.data.toList = b.data.toList := ⟨fun h => by rw [h], ba_ext⟩
theorem ext_tl (a : ByteArray) (i j : Nat) : (a.extract i j).data.toList = (a.data.toList.take j).drop i := by
  rw [ByteArray.data_extract, Array.toList_extract]
  simp [List.extract_eq_take_drop, List.drop_take]
theorem app_tl (a b : ByteArray) : (a ++ b).data.toList = a.data.toList ++ b.data.toList := by
  simp
theorem bt_cons {a : ByteArray} {c : UInt8} {r : List UInt8} (h : a.data.toList = c :: r) : bt a 0 = c := by
  unfold bt; rw [h]; rfl

def ofL (l : List UInt8) : ByteArray := ⟨l.toArray⟩
theorem ofL_tl (l : List UInt8) : (ofL l).data.toList = l := rfl
theorem tl_ofL (a : ByteArray) : ofL a.data.toList = a := ba_ext rfl

/-! ### runs -/
theorem ncon {cs : List UInt8} {c : UInt8} (h : cs.contains c = false) : ¬ cs.contains c = true := by rw [h]; exact Bool.false_ne_true
def runL (cs l : List UInt8) : Nat := (l.takeWhile cs.contains).length
theorem run_drop (cs : List UInt8) : ∀ l : List UInt8, (l.dropWhile cs.contains).length + runL cs l = l.length
  | [] => rfl
  | c :: r => by
    unfold runL
    cases h : cs.contains c with
    | true => rw [List.dropWhile_cons_of_pos h, List.takeWhile_cons_of_pos h]; have := run_drop cs r; unfold runL at this; simp only [List.length_cons]; omega
    | false => rw [List.dropWhile_cons_of_neg (ncon h), List.takeWhile_cons_of_neg (ncon h)]; rfl
theorem drop_run (cs : List UInt8) : ∀ l : List UInt8, l.drop (runL cs l) = l.dropWhile cs.contains
  | [] => rfl
  | c :: r => by
    unfold runL
    cases h : cs.contains c with
    | true => rw [List.dropWhile_cons_of_pos h, List.takeWhile_cons_of_pos h]; have := drop_run cs r; unfold runL at this; exact this
    | false => rw [List.dropWhile_cons_of_neg (ncon h), List.takeWhile_cons_of_neg (ncon h)]; rfl
theorem run_le (cs l : List UInt8) : runL cs l ≤ l.length := by have := run_drop cs l; omega
/-- A run that is cut out has its length, whatever stands behind, if that is of another kind. -/
theorem run_app {cs : List UInt8} {s : List UInt8} (hs : ∀ c, s.head? = some c → cs.contains c = false) : ∀ l : List UInt8, (∀ c, c ∈ l → cs.contains c = true) → runL cs (l ++ s) = l.length
  | [], _ => by
    cases s with
    | nil => rfl
    | cons c r =>
      unfold runL
      rw [List.nil_append, List.takeWhile_cons_of_neg (ncon (hs c rfl))]
  | c :: r, h => by
    have := run_app hs r (fun x hx => h x (List.mem_cons_of_mem _ hx))
    unfold runL at this ⊢
    rw [List.cons_append, List.takeWhile_cons_of_pos (h c List.mem_cons_self), List.length_cons, this]; rfl
theorem run_mem (cs : List UInt8) : ∀ (l : List UInt8) (c : UInt8), c ∈ l.take (runL cs l) → cs.contains c = true
  | [], c, h => by cases h
  | d :: r, c, h => by
    unfold runL at h
    cases hd : cs.contains d with
    | true =>
      rw [List.takeWhile_cons_of_pos hd, List.length_cons, List.take_succ_cons] at h
      rcases List.mem_cons.1 h with rfl | h
      · exact hd
      · exact run_mem cs r c h
    | false =>
      rw [List.takeWhile_cons_of_neg (ncon hd)] at h
      cases h
theorem run_stop (cs : List UInt8) : ∀ (l : List UInt8) (c : UInt8), (l.drop (runL cs l)).head? = some c → cs.contains c = false
  | [], c, h => by cases h
  | d :: r, c, h => by
    unfold runL at h
    cases hd : cs.contains d with
    | true =>
      rw [List.takeWhile_cons_of_pos hd, List.length_cons, List.drop_succ_cons] at h
      exact run_stop cs r c h
    | false =>
      rw [List.takeWhile_cons_of_neg (ncon hd)] at h
      injection h with h
      subst h; exact hd
theorem F10_spec {k : Nat} (a cut : ByteArray) (hc : (decide (cut.size < 4294967281) && cut.data.toList.all (fun b => decide (b.toNat < 128))) = true) (ha : a.size < 9223372036854775807) :
    F10 k (a, cut, ()) = some ((((runL cut.data.toList a.data.toList : Nat) : Int), ()), ()) := by
  rw [F10_eq]
  have h13 : F13 k (a, cut, ()) = some (((⟨(Lib.trimLeftS a.data.toList cut.data.toList).toArray⟩ : ByteArray), ()), ()) := by
    show (bif decide (cut.size < 4294967281) && cut.data.toList.all (fun b => decide (b.toNat < 128)) then _ else none) = _
    rw [hc]; rfl
  rw [h13]
  show some ((IntKind.i64.wrap ((a.size : Int) - ((ofL (Lib.trimLeftS a.data.toList cut.data.toList)).size : Int)), ()), ()) = _
  have e1 := run_drop cut.data.toList a.data.toList
  have e2 := size_tl a
  have e3 := size_tl (ofL (Lib.trimLeftS a.data.toList cut.data.toList))
  rw [ofL_tl] at e3
  have e3 : (ofL (Lib.trimLeftS a.data.toList cut.data.toList)).size = (a.data.toList.dropWhile cut.data.toList.contains).length := e3
  rw [wrap_le (by omega) (by omega)]
  congr 3
  omega

/-! ### numbers, quoted texts, signs -/
noncomputable def numK (k : Nat) (l : List UInt8) : Bool := match F15 k (ofL l, ()) with | some y => y.1.1 | none => false
theorem F15_total {k : Nat} (a : ByteArray) (h0 : 0 < a.size) (hk : a.size < min k 9223372036854775807) : F15 k (a, ()) = some ((numK k a.data.toList, ()), ()) := by
  have key : ∀ (d i j : Nat) (x : Int), a.data.toList.length - i = d → i ≤ a.data.toList.length → d < j → (∃ y, E15_0 k j (a, x, a.data.toList, (a.data.toList.length : Int), (i : Int), ()) = some (Sum.inl (a, y, ()))) ∨ E15_0 k j (a, x, a.data.toList, (a.data.toList.length : Int), (i : Int), ()) = some (Sum.inr (Sum.inl (false, ()))) := by
    have hs := size_tl a
    intro d
    induction d with
    | zero =>
      intro i j x h1 h2 h3
      have : i = a.data.toList.length := by omega
      subst this
      match j, h3 with
      | j + 1, _ => rw [E15_0_eq, nlt_nat]; exact .inl ⟨x, rfl⟩
    | succ d ih =>
      intro i j x h1 h2 h3
      match j, h3 with
      | j + 1, h3 =>
        have hi : i < a.data.toList.length := by omega
        rw [E15_0_eq, lt_nat hi, inb_nat hi, wrap_nat (by omega)]
        rw [cond_true, cond_true, cond_true]
        cases decide (1099511627776 < x) with
        | true => exact .inr rfl
        | false =>
          have := ih (i + 1) j (IntKind.i64.wrap (IntKind.i64.wrap (10 * x) + IntKind.i64.wrap (IntKind.u8.wrap ((↑(UInt8.toNat (rd Ty.y8 a.data.toList (i : Int))) : Int) - 48)))) (by omega) (by omega) (by omega)
          rw [show (((i + 1 : Nat)) : Int) = (i : Int) + 1 by omega] at this
          exact this
  have hs := size_tl a
  have hex : ∃ b, F15 k (a, ()) = some ((b, ()), ()) := by
    rw [F15_eq]
    have h0' := key a.data.toList.length 0 k 0 (by omega) (by omega) (by omega)
    rcases h0' with ⟨y, h⟩ | h
    · have h : E15_0 k k (a, 0, a.data.toList, (a.data.toList.length : Int), 0, ()) = _ := h
      rw [h]
      dsimp only [Option.bind]
      rw [show inb 0 (ByteArray.size a) = true from inb_nat h0, Bool.cond_self]
      exact ⟨_, rfl⟩
    · have h : E15_0 k k (a, 0, a.data.toList, (a.data.toList.length : Int), 0, ()) = _ := h
      rw [h]
      exact ⟨_, rfl⟩
  obtain ⟨b, hb⟩ := hex
  rw [hb]
  unfold numK
  rw [tl_ofL, hb]

/-- How many bytes a quoted text has (behind its first quote these are). -/
def quoL (r : List UInt8) : Nat :=
  bif decide (Lib.indexByte r 39 < 0) || decide (64 < Lib.indexByte r 39) then 0
  else bif anyR (fun i => decide ((r.take (Lib.indexByte r 39).toNat).getD i 0 < 32) || decide (126 < (r.take (Lib.indexByte r 39).toNat).getD i 0)) 0 (r.take (Lib.indexByte r 39).toNat).length then 0
  else (Lib.indexByte r 39).toNat + 2
theorem u8lt (x : UInt8) (n : Nat) (hn : n < 256) : decide (((x.toNat : Nat) : Int) < (n : Int)) = decide (x < UInt8.ofNat n) := by
  rw [decide_eq_decide, UInt8.lt_iff_toNat_lt, UInt8.toNat_ofNat_of_lt' hn]; omega
theorem u8gt (x : UInt8) (n : Nat) (hn : n < 256) : decide ((n : Int) < ((x.toNat : Nat) : Int)) = decide (UInt8.ofNat n < x) := by
  rw [decide_eq_decide, UInt8.lt_iff_toNat_lt, UInt8.toNat_ofNat_of_lt' hn]; omega
theorem idx_lt {l : List UInt8} {c : UInt8} {o : Nat} (h : Lib.indexByte l c = o) : o < l.length := by
  have := (Lib.indexByte_some h).1
  exact (List.getElem?_eq_some_iff.1 this).1
theorem F16_spec {k : Nat} {a : ByteArray} {c : UInt8} {r : List UInt8} (h : a.data.toList = c :: r) (hk : a.size < min k 4294967296) : F16 k (a, ()) = some ((((quoL r : Nat) : Int), ()), ()) := by
  have hs := size_tl a
  rw [h, List.length_cons] at hs
  have e1 : (a.extract (Int.toNat 1) ((a.size : Int)).toNat).data.toList = r := by
    rw [ext_tl, h, show ((a.size : Int)).toNat = r.length + 1 by omega]
    simp
  have g1 : inr 1 (a.size : Int) a.size = true := by simp [inr]; omega
  have e0 : UInt8.ofNat (Int.toNat 39) = 39 := rfl
  rw [F16_eq, g1, cond_true, e0]
  have h23 : F23 k (a.extract (Int.toNat 1) ((a.size : Int)).toNat, 39, ()) = some ((Lib.indexByte r 39, ()), ()) := by
    show some ((Lib.indexByte (a.extract (Int.toNat 1) ((a.size : Int)).toNat).data.toList 39, ()), ()) = _
    rw [e1]
  rw [h23]
  dsimp only [Option.bind]
  unfold quoL
  have hge := Lib.indexByte_ge r 39
  generalize hx : Lib.indexByte r 39 = x at hge ⊢
  by_cases h0 : x < 0
  · rw [decide_eq_true h0]; rfl
  · by_cases h64 : 64 < x
    · rw [decide_eq_true h64, Bool.cond_true_right]
      simp only [Bool.or_true]; rfl
    · obtain ⟨e, rfl⟩ := Int.eq_ofNat_of_zero_le (by omega : 0 ≤ x)
      have hlt := idx_lt hx
      rw [decide_eq_false h0, decide_eq_false h64]
      dsimp only [cond_false, Bool.or_false]
      have g2 : inr 1 (IntKind.i64.wrap ((e : Int) + 1)) a.size = true := by rw [wrap_nat (by omega)]; simp [inr]; omega
      have e2 : (a.extract (Int.toNat 1) (IntKind.i64.wrap ((e : Int) + 1)).toNat).data.toList = r.take e := by
        rw [ext_tl, h, wrap_nat (by omega), show ((e : Int) + 1).toNat = e + 1 by omega]
        simp
      rw [g2, e2]
      have key := scan0 (E := fun j i => E16_0 k j ((e : Int), r.take e, ((r.take e).length : Int), i, ())) (n := (r.take e).length) (p := fun i => decide ((r.take e).getD i 0 < 32) || decide (126 < (r.take e).getD i 0)) (a := Sum.inr (Sum.inl ((0 : Int), ()))) (b := Sum.inl ((e : Int), ()))
        (fun j i hi => by
          show E16_0 k (j + 1) _ = _
          have : (rd Ty.y8 (r.take e) (i : Int)) = (r.take e).getD i 0 := rd_nat _ _
          have q1 := u8lt ((r.take e).getD i 0) 32 (by omega)
          have q2 := u8gt ((r.take e).getD i 0) 126 (by omega)
          have hl : (r.take e).length ≤ r.length := List.length_take_le' _ _
          rw [E16_0_eq, lt_nat hi, inb_nat hi, this, wrap_nat (by omega)]
          rw [show ((32 : Int)) = ((32 : Nat) : Int) from rfl, show ((126 : Int)) = ((126 : Nat) : Int) from rfl, q1, q2]
          cases decide ((r.take e).getD i 0 < UInt8.ofNat 32) <;> rfl)
        (fun j => by
          show E16_0 k (j + 1) _ = _
          rw [E16_0_eq, nlt_nat]; rfl) (k := k) (by have : (r.take e).length ≤ r.length := List.length_take_le' _ _; omega)
      have key : E16_0 k k ((e : Int), r.take e, ((r.take e).length : Int), 0, ()) = _ := key
      rw [key]
      rw [Int.toNat_natCast]
      cases anyR (fun i => decide ((r.take e).getD i 0 < 32) || decide (126 < (r.take e).getD i 0)) 0 (r.take e).length with
      | true => rfl
      | false =>
        show some ((IntKind.i64.wrap ((e : Int) + 2), ()), ()) = some ((((e + 2 : Nat) : Int), ()), ())
        rw [wrap_le (by omega) (by omega)]; rfl

def two (l : List UInt8) : Bool := decide (l.take 2 = [33, 61]) || decide (l.take 2 = [60, 61]) || decide (l.take 2 = [62, 61])
def sgn : List UInt8 := [61, 60, 62, 43, 45, 40, 41, 46, 63]
def sigL (c : UInt8) (l : List UInt8) : Nat := bif two l then 2 else bif decide (0 ≤ Lib.indexByte sgn c) then 1 else 0
theorem F22_two {k : Nat} (a pre : ByteArray) (hp : pre.data.toList.length = 2) : F22 k (a, pre, ()) = some ((decide (a.data.toList.take 2 = pre.data.toList), ()), ()) := by
  have hs := size_tl a
  have hq := size_tl pre
  rw [F22_eq, F28_eq]
  by_cases h : pre.size ≤ a.size
  · rw [decide_eq_true (by omega : (pre.size : Int) ≤ (a.size : Int)), show inr 0 (pre.size : Int) a.size = true by simp [inr]; omega]
    dsimp only [cond_true, Option.bind]
    congr 3
    rw [decide_eq_decide, ba_iff, ext_tl, Int.toNat_natCast, hq, hp]
    rfl
  · rw [decide_eq_false (by omega : ¬ (pre.size : Int) ≤ (a.size : Int))]
    have : ¬ a.data.toList.take 2 = pre.data.toList := fun e => by
      have := congrArg List.length e
      rw [hp, List.length_take] at this; omega
    rw [decide_eq_false this]; rfl
theorem F14_spec {k : Nat} {a : ByteArray} {c : UInt8} {r : List UInt8} (h : a.data.toList = c :: r) : F14 k (a, ()) = some ((((sigL c (c :: r) : Nat) : Int), ()), ()) := by
  have hs := size_tl a
  rw [h, List.length_cons] at hs
  have g1 : inb 0 a.size = true := inb_nat (i := 0) (by omega)
  have hc : UInt8.ofNat ((bt a 0).toNat : Int).toNat = c := by rw [bt_cons h]; simp
  rw [F14_eq, F22_two _ _ rfl, F22_two _ _ rfl, F22_two _ _ rfl, g1, hc, h]
  have h23 : F23 k (({ data := #[61, 60, 62, 43, 45, 40, 41, 46, 63] } : ByteArray), c, ()) = some ((Lib.indexByte sgn c, ()), ()) := rfl
  rw [h23]
  unfold sigL two
  show _ = some (((((bif decide ((c :: r).take 2 = ({ data := #[33, 61] } : ByteArray).data.toList) || decide ((c :: r).take 2 = ({ data := #[60, 61] } : ByteArray).data.toList) || decide ((c :: r).take 2 = ({ data := #[62, 61] } : ByteArray).data.toList) then 2 else bif decide (0 ≤ Lib.indexByte sgn c) then 1 else 0 : Nat) : Int)), ()), ())
  cases decide ((c :: r).take 2 = ({ data := #[33, 61] } : ByteArray).data.toList) <;> cases decide ((c :: r).take 2 = ({ data := #[60, 61] } : ByteArray).data.toList) <;> cases decide ((c :: r).take 2 = ({ data := #[62, 61] } : ByteArray).data.toList) <;> dsimp only [Option.bind, cond_true, cond_false, Bool.or_true, Bool.or_false, Bool.true_or, Bool.false_or] <;> cases decide (0 ≤ Lib.indexByte sgn c) <;> rfl
end Go.Pv.L07
