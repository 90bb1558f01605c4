/- Layer 12, plainly: Accepts. -/
import Derived.Test.YthedngefmaklnaaPvO12
namespace Go.Pv.L12
open Go Go.Pv Go.Proofs
set_option linter.all false
set_option linter.constructorNameAsVariable false
set_option linter.unusedSectionVars false
set_option linter.unusedVariables false
set_option linter.unusedSimpArgs false
set_option maxRecDepth 20000

def addB (items : List Itm) (nm : ByteArray) (acc : Nat) (j : Int) : Nat := bif hasB (itmAt items j.toNat).2.1 nm then acc ||| 2 ^ (j.toNat + 1) else acc
def stepF (items : List Itm) (nm : ByteArray) (B : Nat) : List Sta → Nat → Nat → Nat
  | [], _, acc => acc
  | s :: r, i, acc => stepF items nm B r (i + 1) (bif Nat.testBit B i then s.1.foldl (addB items nm) acc else acc)
def hereF (items : List Itm) (sts : List Sta) (names : List ByteArray) (B : Nat) : Nat := names.foldl (fun B nm => stepF items nm B sts 0 0) B
def staAt (l : List Sta) (i : Nat) : Sta := l.getD i (Ty.dflt T36)
def accB (items : List Itm) (sts : List Sta) (names : List ByteArray) : Bool := anyR (fun i => Nat.testBit (hereF items sts names 1) i && (staAt sts i).2.2) 0 sts.length
def acceptsB (q : Qry) (names : List ByteArray) : Bool := accB q.1 (bif rightB q then compileB q else []) names
/-- States lead to items that are there. -/
def StOk (items : List Itm) (sts : List Sta) : Prop := sts.length ≤ 30 ∧ ∀ s, s ∈ sts → s.1.length ≤ 2000 ∧ ∀ j, j ∈ s.1 → 0 ≤ j ∧ j < items.length

theorem addB_lt {items : List Itm} (hi : items.length ≤ 30) {nm : ByteArray} {acc : Nat} {j : Int} (ha : acc < 2 ^ 40) (hj : 0 ≤ j ∧ j < items.length) : addB items nm acc j < 2 ^ 40 := by
  unfold addB
  cases hasB (itmAt items j.toNat).2.1 nm with
  | false => exact ha
  | true => exact Nat.or_lt_two_pow ha (Nat.pow_lt_pow_right (by omega) (by omega))
theorem foldB_lt {items : List Itm} (hi : items.length ≤ 30) {nm : ByteArray} : ∀ (l : List Int) {acc : Nat}, acc < 2 ^ 40 → (∀ j, j ∈ l → 0 ≤ j ∧ j < items.length) → l.foldl (addB items nm) acc < 2 ^ 40
  | [], acc, ha, _ => ha
  | j :: r, acc, ha, h => foldB_lt hi r (addB_lt hi ha (h j (by simp))) fun j hj => h j (by simp [hj])
theorem stepF_lt {items : List Itm} (hi : items.length ≤ 30) {nm : ByteArray} {B : Nat} : ∀ (sts : List Sta) (i : Nat) {acc : Nat}, acc < 2 ^ 40 → (∀ s, s ∈ sts → ∀ j, j ∈ s.1 → 0 ≤ j ∧ j < items.length) → stepF items nm B sts i acc < 2 ^ 40
  | [], i, acc, ha, _ => ha
  | s :: r, i, acc, ha, h => by
    unfold stepF
    refine stepF_lt hi r (i + 1) ?_ fun s' hs' => h s' (by simp [hs'])
    cases Nat.testBit B i with
    | true => exact foldB_lt hi s.1 ha (h s (by simp))
    | false => exact ha

theorem sta_drop {l : List Sta} {i : Nat} (h : i < l.length) : l.drop i = staAt l i :: l.drop (i + 1) := by
  rw [List.drop_eq_getElem_cons h]
  congr 1
  unfold staAt
  rw [List.getD_eq_getElem?_getD, List.getElem?_eq_getElem h]; rfl
theorem sta_mem {l : List Sta} {i : Nat} (h : i < l.length) : staAt l i ∈ l := by
  unfold staAt
  rw [List.getD_eq_getElem?_getD, List.getElem?_eq_getElem h]
  exact List.getElem_mem h

section
variable {k : Nat} {q : Qry} (hq : QOk k q) (hk : 2000 < k) (hlen : q.1.length ≤ 30)
include hq hk hlen

theorem E15_0_0_0_spec {nl : List Int} (hn : nl.length ≤ 2000 ∧ ∀ j, j ∈ nl → 0 ≤ j ∧ j < q.1.length) (x5 : List Sta) (x6 : Int) (x8 : ByteArray) (x18 : List ByteArray) (x19 x20 : Int) (x24 : List Sta) (x25 x26 : Int) :
    ∀ (d i j acc : Nat), nl.length - i = d → i ≤ nl.length → d < j → acc < 2 ^ 40 → E15_0_0_0 k j ((q, ()), x5, x6, x8, (acc : Int), x18, x19, x20, x24, x25, x26, nl, (nl.length : Int), (i : Int), ()) = some (Sum.inl ((q, ()), x5, x6, x8, (((nl.drop i).foldl (addB q.1 x8) acc : Nat) : Int), x18, x19, x20, x24, x25, x26, ())) := by
  intro d
  induction d with
  | zero =>
    intro i j acc h1 h2 h3 h4
    have : i = nl.length := by omega
    subst this
    match j, h3 with
    | j + 1, _ => rw [E15_0_0_0_eq, nlt_nat, List.drop_length]; rfl
  | succ d ih =>
    intro i j acc h1 h2 h3 h4
    match j, h3 with
    | j + 1, h3 =>
      have hi : i < nl.length := by omega
      have hrd : rd (Ty.i IntKind.i64) nl (i : Int) = nl[i] := rd_get (e := .i .i64) hi
      obtain ⟨g1, g2⟩ := hn.2 nl[i] (List.getElem_mem hi)
      obtain ⟨m, hm⟩ : ∃ m : Nat, nl[i] = (m : Int) := ⟨nl[i].toNat, by omega⟩
      have hml : m < q.1.length := by omega
      have h25 : F25 k ((itmAt q.1 m).2.1, x8, ()) = _ := F25_spec (k := k) (s := x8) (hq.2.2.2.2.1 _ (itmAt_mem hml)).2.1
      rw [E15_0_0_0_eq, lt_nat hi, inb_nat hi, hrd, hm, inb_nat hml, wrap_nat (by omega), wrap_nat (by omega), rd_nat]
      rw [show List.getD q.1 m (Ty.dflt (Ty.b.p (Ty.s.l.p (Ty.s.p (Ty.i IntKind.i64))))) = itmAt q.1 m from rfl, h25]
      rw [List.drop_eq_getElem_cons hi, hm]
      have hadd : addB q.1 x8 acc (m : Int) = bif hasB (itmAt q.1 m).2.1 x8 then acc ||| 2 ^ (m + 1) else acc := by unfold addB; rw [Int.toNat_natCast]
      have hlt := addB_lt (nm := x8) hlen h4 (j := (m : Int)) (by omega)
      have r1 := ih (i + 1) j (addB q.1 x8 acc (m : Int)) (by omega) (by omega) (by omega) hlt
      rw [show (((i + 1 : Nat)) : Int) = (i : Int) + 1 by omega] at r1
      rw [List.foldl_cons, ← r1, hadd]
      have hob := or_bits (a := acc) (m := m + 1) h4 (by omega)
      rw [show (((m + 1 : Nat)) : Int) = (m : Int) + 1 by omega] at hob
      rw [hob, show decide ((m : Int) + 1 < 0) = false from decide_eq_false (by omega)]
      cases hasB (itmAt q.1 m).2.1 x8 <;> rfl

theorem E15_0_0_spec {sts : List Sta} (hs : StOk q.1 sts) (x5 : List Sta) (B : Nat) (hB : B < 2 ^ 40) (x8 : ByteArray) (x18 : List ByteArray) (x19 x20 : Int) :
    ∀ (d i j acc : Nat), sts.length - i = d → i ≤ sts.length → d < j → acc < 2 ^ 40 → E15_0_0 k j ((q, ()), x5, (B : Int), x8, (acc : Int), x18, x19, x20, sts, (sts.length : Int), (i : Int), ()) = some (Sum.inl ((q, ()), x5, ((stepF q.1 x8 B (sts.drop i) i acc : Nat) : Int), x18, x19, x20, ())) := by
  obtain ⟨hs1, hs2⟩ := hs
  intro d
  induction d with
  | zero =>
    intro i j acc h1 h2 h3 h4
    have : i = sts.length := by omega
    subst this
    match j, h3 with
    | j + 1, _ => rw [E15_0_0_eq, nlt_nat, List.drop_length]; rfl
  | succ d ih =>
    intro i j acc h1 h2 h3 h4
    match j, h3 with
    | j + 1, h3 =>
      have hi : i < sts.length := by omega
      have hst := hs2 _ (sta_mem hi)
      rw [E15_0_0_eq, lt_nat hi, inb_nat hi, and_bit hB (by omega), rd_nat, sta_drop hi]
      rw [show List.getD sts i (Ty.dflt ((Ty.i IntKind.i64).l.p ((Ty.i IntKind.i64).l.p Ty.b))) = staAt sts i from rfl]
      rw [show decide ((i : Int) < 0) = false from decide_eq_false (by omega)]
      have h0 := E15_0_0_0_spec hq hk hlen hst x5 (B : Int) x8 x18 x19 x20 sts (sts.length : Int) (i : Int) (staAt sts i).1.length 0 k acc (by omega) (by omega) (by omega) h4
      unfold stepF
      cases hb : Nat.testBit B i with
      | true =>
        have hlt := foldB_lt (nm := x8) hlen (staAt sts i).1 h4 hst.2
        have r1 := ih (i + 1) j _ (by omega) (by omega) (by omega) hlt
        rw [show (((i + 1 : Nat)) : Int) = (i : Int) + 1 by omega] at r1
        have h0 : E15_0_0_0 k k ((q, ()), x5, (B : Int), x8, (acc : Int), x18, x19, x20, sts, (sts.length : Int), (i : Int), (staAt sts i).1, ((staAt sts i).1.length : Int), 0, ()) = _ := h0
        show (E15_0_0_0 k k ((q, ()), x5, (B : Int), x8, (acc : Int), x18, x19, x20, sts, (sts.length : Int), (i : Int), (staAt sts i).1, ((staAt sts i).1.length : Int), 0, ())).bind _ = _
        rw [h0]
        show E15_0_0 k j ((q, ()), x5, (B : Int), x8, _, x18, x19, x20, sts, (sts.length : Int), IntKind.i64.wrap ((i : Int) + 1), ()) = _
        rw [wrap_nat (by omega)]
        exact r1
      | false =>
        have r1 := ih (i + 1) j acc (by omega) (by omega) (by omega) h4
        rw [show (((i + 1 : Nat)) : Int) = (i : Int) + 1 by omega] at r1
        show E15_0_0 k j ((q, ()), x5, (B : Int), x8, (acc : Int), x18, x19, x20, sts, (sts.length : Int), IntKind.i64.wrap ((i : Int) + 1), ()) = _
        rw [wrap_nat (by omega)]
        exact r1

theorem E15_0_spec {sts : List Sta} (hs : StOk q.1 sts) {names : List ByteArray} (hnm : names.length < min k 9223372036854775807) :
    ∀ (d i j B : Nat), names.length - i = d → i ≤ names.length → d < j → B < 2 ^ 40 → ∃ B', B' = hereF q.1 sts (names.drop i) B ∧ B' < 2 ^ 40 ∧ E15_0 k j ((q, ()), sts, (B : Int), names, (names.length : Int), (i : Int), ()) = some (Sum.inl (sts, (B' : Int), ())) := by
  intro d
  induction d with
  | zero =>
    intro i j B h1 h2 h3 h4
    have : i = names.length := by omega
    subst this
    match j, h3 with
    | j + 1, _ => refine ⟨B, by rw [List.drop_length]; rfl, h4, ?_⟩; rw [E15_0_eq, nlt_nat]; rfl
  | succ d ih =>
    intro i j B h1 h2 h3 h4
    match j, h3 with
    | j + 1, h3 =>
      have hi : i < names.length := by omega
      have hrd : rd Ty.s names (i : Int) = names[i] := rd_get (e := .s) hi
      have h0 := E15_0_0_spec hq hk hlen hs sts B h4 names[i] names (names.length : Int) (i : Int) sts.length 0 k 0 (by omega) (by omega) (by have := hs.1; omega) (by omega)
      have hlt : stepF q.1 names[i] B sts 0 0 < 2 ^ 40 := stepF_lt hlen sts 0 (by omega) fun s hs' => (hs.2 s hs').2
      obtain ⟨B', e1, e2, e3⟩ := ih (i + 1) j (stepF q.1 names[i] B sts 0 0) (by omega) (by omega) (by omega) hlt
      rw [show (((i + 1 : Nat)) : Int) = (i : Int) + 1 by omega] at e3
      refine ⟨B', by rw [List.drop_eq_getElem_cons hi]; exact e1, e2, ?_⟩
      rw [E15_0_eq, lt_nat hi, inb_nat hi, hrd]
      have h0 : E15_0_0 k k ((q, ()), sts, (B : Int), names[i], 0, names, (names.length : Int), (i : Int), sts, (sts.length : Int), 0, ()) = _ := h0
      show (E15_0_0 k k ((q, ()), sts, (B : Int), names[i], 0, names, (names.length : Int), (i : Int), sts, (sts.length : Int), 0, ())).bind _ = _
      rw [h0]
      show E15_0 k j ((q, ()), sts, _, names, (names.length : Int), IntKind.i64.wrap ((i : Int) + 1), ()) = _
      rw [wrap_nat (by omega)]
      exact e3
end

theorem E15_1_spec {k : Nat} {sts : List Sta} (hs : sts.length ≤ 30) (hk : 2000 < k) {B : Nat} (hB : B < 2 ^ 40) :
    E15_1 k k ((B : Int), sts, (sts.length : Int), 0, ()) = some (bif anyR (fun i => Nat.testBit B i && (staAt sts i).2.2) 0 sts.length then Sum.inr (Sum.inl (true, ())) else Sum.inl ()) := by
  refine scan0 (E := fun j i => E15_1 k j ((B : Int), sts, (sts.length : Int), i, ())) (fun j i hi => ?_) (fun j => ?_) (by omega)
  · dsimp only
    rw [E15_1_eq, lt_nat hi, inb_nat hi, and_bit hB (by omega), wrap_nat (by omega), rd_nat]
    rw [show List.getD sts i (Ty.dflt ((Ty.i IntKind.i64).l.p ((Ty.i IntKind.i64).l.p Ty.b))) = staAt sts i from rfl]
    rw [show decide ((i : Int) < 0) = false from decide_eq_false (by omega)]
    generalize (staAt sts i).2.2 = f
    cases Nat.testBit B i <;> cases f <;> rfl
  · dsimp only
    rw [E15_1_eq, nlt_nat]; rfl

/-! ### the states of a query -/
theorem follow_mem : ∀ (l : List Itm) (j : Nat) (x : Int), x ∈ (follow l j).1 → (j : Int) ≤ x ∧ x < (j + l.length : Int)
  | [], j, x, h => by simp [follow] at h
  | y :: r, j, x, h => by
    unfold follow at h
    cases hy : y.1 with
    | true =>
      rw [hy] at h
      have := follow_mem r (j + 1) x h
      simp only [List.length_cons]
      omega
    | false =>
      rw [hy, cond_false] at h
      cases ho : decide (y.2.2.2 = 3) with
      | true =>
        rw [ho, cond_true] at h
        rcases List.mem_cons.1 h with rfl | h
        · simp only [List.length_cons]; omega
        · have := follow_mem r (j + 1) x h
          simp only [List.length_cons]
          omega
      | false =>
        rw [ho, cond_false] at h
        have : x = (j : Int) := by simpa using h
        subst this
        simp only [List.length_cons]; omega
theorem follow_len : ∀ (l : List Itm) (j : Nat), (follow l j).1.length ≤ l.length
  | [], j => by simp [follow]
  | y :: r, j => by
    have ih := follow_len r (j + 1)
    unfold follow
    cases y.1 with
    | true => simp only [cond_true, List.length_cons]; omega
    | false =>
      cases decide (y.2.2.2 = 3) with
      | true => simp only [cond_false, cond_true, List.length_cons]; omega
      | false => simp only [cond_false, List.length_cons, List.length_nil]; omega

theorem behind_ok {l : List Itm} {i : Nat} (hi : i < l.length) (hl : l.length ≤ 1000) : (behindB l i).1.length ≤ 2000 ∧ ∀ j, j ∈ (behindB l i).1 → 0 ≤ j ∧ j < l.length := by
  unfold behindB
  refine ⟨?_, fun (j : Int) hj => ?_⟩
  · have := follow_len (l.drop (i + 1)) (i + 1)
    rw [List.length_drop] at this
    simp only [List.length_append]
    cases decide ((itmAt l i).2.2.2 = 2) with
    | true => simp only [cond_true, List.length_singleton]; omega
    | false => simp only [cond_false, List.length_nil]; omega
  · show (0 : Int) ≤ j ∧ j < (l.length : Int)
    rcases List.mem_append.1 hj with h | h
    · cases hd : decide ((itmAt l i).2.2.2 = 2) with
      | true =>
        rw [hd, cond_true] at h
        have : j = (i : Int) := by simpa using h
        omega
      | false => rw [hd, cond_false] at h; cases h
    · have := follow_mem _ _ _ h
      rw [List.length_drop] at this
      omega
theorem compile_ok {q : Qry} (h : rightB q = true) : StOk q.1 (compileB q) := by
  obtain ⟨l1, l2⟩ := right_len h
  unfold compileB
  refine ⟨by simp only [List.length_cons, List.length_map, List.length_range]; omega, fun s hs => ?_⟩
  rcases List.mem_cons.1 hs with rfl | hs
  · refine ⟨by simp, fun (j : Int) hj => ?_⟩
    have : j = 0 := by simpa using hj
    show (0 : Int) ≤ j ∧ j < (q.1.length : Int)
    omega
  · obtain ⟨i, hi, rfl⟩ := List.mem_map.1 hs
    exact behind_ok (List.mem_range.1 hi) (by omega)

theorem F15_spec {k : Nat} {q : Qry} (hq : QOk k q) (hk : 2000 < k) {names : List ByteArray} (hnm : names.length < min k 9223372036854775807) : F15 k (q, names, ()) = some ((acceptsB q names, ()), ()) := by
  rw [F15_eq, F13_spec hq hk]
  unfold acceptsB accB
  cases hr : rightB q with
  | true =>
    have hs := compile_ok hr
    obtain ⟨l1, l2⟩ := right_len hr
    obtain ⟨B', e1, e2, e3⟩ := E15_0_spec hq hk (by omega) hs hnm names.length 0 k 1 (by omega) (by omega) (by omega) (by decide)
    have e3 : E15_0 k k ((q, ()), compileB q, 1, names, (names.length : Int), 0, ()) = _ := e3
    show (E15_0 k k ((q, ()), compileB q, 1, names, (names.length : Int), 0, ())).bind _ = _
    rw [e3]
    have e4 := E15_1_spec (sts := compileB q) hs.1 hk e2
    show (E15_1 k k ((B' : Int), compileB q, ((compileB q).length : Int), 0, ())).bind _ = _
    rw [e4]
    rw [List.drop_zero] at e1
    subst e1
    show (some (bif anyR (fun i => (hereF q.1 (compileB q) names 1).testBit i && (staAt (compileB q) i).2.2) 0 (compileB q).length then _ else _)).bind _ = some ((anyR (fun i => (hereF q.1 (compileB q) names 1).testBit i && (staAt (compileB q) i).2.2) 0 (compileB q).length, ()), ())
    cases anyR (fun i => (hereF q.1 (compileB q) names 1).testBit i && (staAt (compileB q) i).2.2) 0 (compileB q).length <;> rfl
  | false =>
    obtain ⟨B', e1, e2, e3⟩ : ∃ B' : Nat, B' = hereF q.1 [] names 1 ∧ B' < 2 ^ 40 ∧ E15_0 k k ((q, ()), [], 1, names, (names.length : Int), 0, ()) = some (Sum.inl ([], (B' : Int), ())) := by
      have key : ∀ (d i j B : Nat), names.length - i = d → i ≤ names.length → d < j → B < 2 ^ 40 → ∃ B' : Nat, B' = hereF q.1 [] (names.drop i) B ∧ B' < 2 ^ 40 ∧ E15_0 k j ((q, ()), [], (B : Int), names, (names.length : Int), (i : Int), ()) = some (Sum.inl ([], (B' : Int), ())) := by
        intro d
        induction d with
        | zero =>
          intro i j B h1 h2 h3 h4
          have : i = names.length := by omega
          subst this
          match j, h3 with
          | j + 1, _ => refine ⟨B, by rw [List.drop_length]; rfl, h4, ?_⟩; rw [E15_0_eq, nlt_nat]; rfl
        | succ d ih =>
          intro i j B h1 h2 h3 h4
          match j, h3 with
          | j + 1, h3 =>
            have hi : i < names.length := by omega
            obtain ⟨B', e1, e2, e3⟩ := ih (i + 1) j 0 (by omega) (by omega) (by omega) (by decide)
            rw [show (((i + 1 : Nat)) : Int) = (i : Int) + 1 by omega] at e3
            refine ⟨B', by rw [List.drop_eq_getElem_cons hi]; exact e1, e2, ?_⟩
            rw [E15_0_eq, lt_nat hi, inb_nat hi]
            have h0 : ∀ (x6 : Int) (x8 : ByteArray) (x20 : Int), E15_0_0 k k ((q, ()), [], x6, x8, 0, names, (names.length : Int), x20, [], (([] : List Sta).length : Int), 0, ()) = some (Sum.inl ((q, ()), [], 0, names, (names.length : Int), x20, ())) := by
              intro x6 x8 x20
              have key0 : ∀ k' j', E15_0_0 k' (j' + 1) ((q, ()), [], x6, x8, 0, names, (names.length : Int), x20, [], (([] : List Sta).length : Int), 0, ()) = some (Sum.inl ((q, ()), [], 0, names, (names.length : Int), x20, ())) := by
                intro k' j'
                rw [E15_0_0_eq, show decide ((0 : Int) < (([] : List Sta).length : Int)) = false from rfl, cond_false]
              have := key0 k (k - 1)
              rwa [show k - 1 + 1 = k by omega] at this
            show (E15_0_0 k k ((q, ()), [], (B : Int), rd Ty.s names (i : Int), 0, names, (names.length : Int), (i : Int), [], (([] : List Sta).length : Int), 0, ())).bind _ = _
            rw [h0]
            show E15_0 k j ((q, ()), [], 0, names, (names.length : Int), IntKind.i64.wrap ((i : Int) + 1), ()) = _
            rw [wrap_nat (by omega)]
            exact e3
      have := key names.length 0 k 1 (by omega) (by omega) (by omega) (by decide)
      rw [List.drop_zero] at this
      exact this
    show (E15_0 k k ((q, ()), [], 1, names, (names.length : Int), 0, ())).bind _ = _
    rw [e3]
    have e4 := E15_1_spec (sts := []) (by simp) hk e2
    have e4 : E15_1 k k ((B' : Int), [], 0, 0, ()) = _ := e4
    show (E15_1 k k ((B' : Int), [], 0, 0, ())).bind _ = _
    rw [e4]
    rfl
end Go.Pv.L12
