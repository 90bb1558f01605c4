/- Layer 16, plainly: versions that are right. -/
import Derived.Test.YtfmcfigoendjiaaGreatPvR16
namespace Go.Pv.L16
open Go Go.Pv Go.Proofs
set_option linter.all false
set_option linter.constructorNameAsVariable false
set_option linter.unusedSectionVars false
set_option linter.unusedVariables false
set_option linter.unusedSimpArgs false

abbrev Ver := Ty.den T57
def verAt (l : List Ver) (i : Nat) : Ver := l.getD i (Ty.dflt T57)
def zeroQ (q : Qry) : Bool := decide (q.1.length = 0) && (decide (q.2.1.length = 0) && (decide (q.2.2.1 = 0) && (decide (q.2.2.2.1 = { data := #[] : ByteArray }) && decide (q.2.2.2.2 = 0))))
def verB (v : Ver) : Bool := decide (0 ≤ v.1) && (decide (v.1 ≤ 1099511627776) && (bif v.2.1 then zeroQ v.2.2 else rightB v.2.2))
def badV (l : List Ver) (i : Nat) : Bool := !verB (verAt l i) || (bif decide (i = 0) then (verAt l i).2.1 else decide ((verAt l i).1 ≤ (verAt l (i - 1)).1) || ((verAt l (i - 1)).2.1 && (verAt l i).2.1))
def versB (l : List Ver) : Bool := bif anyR (badV l) 0 l.length then false else decide ((l.length : Int) ≤ 8)
def VOk (k : Nat) (l : List Ver) : Prop := 18 < k ∧ l.length < min k 9223372036854775807 ∧ ∀ v, v ∈ l → QOk k v.2.2

theorem verAt_mem {l : List Ver} {i : Nat} (h : i < l.length) : verAt l i ∈ l := by
  unfold verAt
  rw [List.getD_eq_getElem?_getD, List.getElem?_eq_getElem h]
  exact List.getElem_mem h

theorem dec_nat0 (n : Nat) : decide ((n : Int) = 0) = decide (n = 0) := decide_eq_decide.2 (by omega)

theorem F61_spec {k : Nat} {q : Qry} (hq : QOk k q) : F61 k (q, ()) = some ((zeroQ q, ()), ()) := by
  obtain ⟨h18, q1, q2, -⟩ := hq
  rw [F61_eq]
  have e : decide (IntKind.i64.wrap ((q.1.length : Int) + (q.2.1.length : Int)) = 0) = (decide (q.1.length = 0) && decide (q.2.1.length = 0)) := by
    rw [IntKind.wrap_i64, ← Bool.decide_and]
    exact decide_eq_decide.2 (by omega)
  rw [e]
  unfold zeroQ
  generalize decide (q.1.length = 0) = b1
  generalize decide (q.2.1.length = 0) = b2
  generalize decide (q.2.2.1 = 0) = b3
  generalize decide (q.2.2.2.1 = { data := #[] : ByteArray }) = b4
  generalize decide (q.2.2.2.2 = 0) = b5
  cases b1 <;> cases b2 <;> cases b3 <;> cases b4 <;> cases b5 <;> rfl

theorem F63_zero {k : Nat} {q : Qry} (hk : 0 < k) : F63 k (q, ([], [], 0, { data := #[] : ByteArray }, 0), ()) = some ((zeroQ q, ()), ()) := by
  obtain ⟨j, rfl⟩ : ∃ j, k = j + 1 := ⟨k - 1, by omega⟩
  obtain ⟨a, b, c, d, e⟩ := q
  rw [F63_eq]
  unfold zeroQ
  match a, b with
  | x :: a, b =>
    have : (decide ((((x :: a).length : Nat) : Int) = ((([] : List Itm).length : Nat) : Int))) = false := by simp; omega
    dsimp only at this ⊢
    rw [this]; rfl
  | [], x :: b =>
    have : (decide ((((x :: b).length : Nat) : Int) = ((([] : List Prd).length : Nat) : Int))) = false := by simp; omega
    dsimp only at this ⊢
    rw [this]; rfl
  | [], [] =>
    rw [show (decide (((([] : List Itm).length : Nat) : Int) = ((([] : List Itm).length : Nat) : Int))) = true from rfl]
    dsimp only
    cases hc : decide (c = (0 : Int)) with
    | false => rfl
    | true =>
    cases hd : decide (d = { data := #[] : ByteArray }) with
    | false => rfl
    | true =>
    cases he : decide (e = (0 : Int)) with
    | false => rfl
    | true =>
      have h0 : E63_0 (j + 1) (j + 1) ((([], [], c, d, e), ()), (([], [], 0, { data := #[] : ByteArray }, 0), ()), 0, ()) = some (Sum.inl ((([], [], c, d, e), ()), (([], [], 0, { data := #[] : ByteArray }, 0), ()), ())) := by rw [E63_0_eq]; rfl
      have h1 : ∃ x, E63_1 (j + 1) (j + 1) ((([], [], c, d, e), ()), (([], [], 0, { data := #[] : ByteArray }, 0), ()), 0, ()) = some (Sum.inl x) := ⟨(), by rw [E63_1_eq]; rfl⟩
      obtain ⟨x, h1⟩ := h1
      rw [show (decide (((([] : List Prd).length : Nat) : Int) = ((([] : List Prd).length : Nat) : Int))) = true from rfl]
      simp only [Bool.not_true, cond_false, cond_true]
      rw [h0]
      simp only [Option.bind_some]
      rw [h1]
      rfl

section
variable {k : Nat} {v : Ver} (hq : QOk k v.2.2)
include hq
theorem F44_spec : F44 k (v, ()) = some ((verB v, ()), ()) := by
  rw [F44_eq, F53_spec hq, F63_zero (by have := hq.1; omega)]
  unfold verB
  rw [show decide (v.1 < 0) = !decide (0 ≤ v.1) from dec_lt _ _, show decide (1099511627776 < v.1) = !decide (v.1 ≤ 1099511627776) from dec_lt _ _]
  generalize decide (0 ≤ v.1) = b1
  generalize decide (v.1 ≤ 1099511627776) = b2
  generalize v.2.1 = b3
  cases b1 <;> cases b2 <;> cases b3 <;> rfl
theorem F41_spec : F41 k (v, ()) = some ((verB v, ()), ()) := by
  rw [F41_eq, F61_spec hq, F62_spec hq]
  unfold verB
  generalize decide (0 ≤ v.1) = b1
  generalize decide (v.1 ≤ 1099511627776) = b2
  generalize v.2.1 = b3
  generalize zeroQ v.2.2 = b4
  generalize rightB v.2.2 = b5
  cases b1 <;> cases b2 <;> cases b3 <;> cases b4 <;> cases b5 <;> rfl
end

theorem wrap_pred {i : Nat} (h : i < 9223372036854775807) (h0 : 0 < i) : IntKind.i64.wrap ((i : Int) - 1) = ((i - 1 : Nat) : Int) := by
  rw [IntKind.wrap_i64]; omega

theorem F30_spec {k : Nat} {l : List Ver} (hl : VOk k l) : F30 k (l, ()) = some ((versB l, ()), ()) := by
  obtain ⟨h18, h1, h2⟩ := hl
  have h : E30_0 k k (l, 0, ()) = some (bif anyR (badV l) 0 l.length then Sum.inr (Sum.inl (false, ())) else Sum.inl (l, ())) := by
    refine scan0 (E := fun j m => E30_0 k j (l, m, ())) (fun j i hi => ?_) (fun j => ?_) (by omega)
    · dsimp only
      have hv : F44 k (rd T57 l (i : Int), ()) = some ((verB (verAt l i), ()), ()) := by
        rw [rd_nat]; exact F44_spec (h2 _ (verAt_mem hi))
      rw [E30_0_eq, lt_nat hi, inb_nat hi]
      have hv' := hv
      rw [show (rd ((Ty.i IntKind.i64).p (Ty.b.p ((Ty.b.p (Ty.s.l.p (Ty.s.p (Ty.i IntKind.i64)))).l.p (((Ty.i IntKind.i64).p (Ty.ex.p Ty.ex)).l.p ((Ty.i IntKind.i64).p (Ty.s.p (Ty.i IntKind.i64))))))) l (i : Int)) = verAt l i from rd_nat l i] at hv' ⊢
      rw [hv']
      unfold badV
      rw [dec_nat0]
      cases i with
      | zero =>
        have e0 : decide (0 < ((0 : Nat) : Int)) = false := rfl
        rw [e0, wrap_nat (by omega)]
        generalize verB (verAt l 0) = b1
        generalize (verAt l 0).2.1 = b2
        cases b1 <;> cases b2 <;> rfl
      | succ i =>
        have e0 : decide (0 < ((i + 1 : Nat) : Int)) = true := by simp
        have e1 : rd T57 l (i : Int) = verAt l i := rd_nat l i
        rw [e0, wrap_nat (by omega), wrap_pred (by omega) (Nat.succ_pos i), show i + 1 - 1 = i from rfl, inb_nat (show i < l.length by omega)]
        have e2 : decide (i + 1 = 0) = false := by simp
        rw [e2]
        rw [show (rd ((Ty.i IntKind.i64).p (Ty.b.p ((Ty.b.p (Ty.s.l.p (Ty.s.p (Ty.i IntKind.i64)))).l.p (((Ty.i IntKind.i64).p (Ty.ex.p Ty.ex)).l.p ((Ty.i IntKind.i64).p (Ty.s.p (Ty.i IntKind.i64))))))) l (i : Int)) = verAt l i from rd_nat l i]
        generalize verB (verAt l (i + 1)) = b1
        generalize (verAt l (i + 1)).2.1 = b2
        generalize (verAt l i).2.1 = b3
        generalize decide ((verAt l (i + 1)).1 ≤ (verAt l i).1) = b4
        cases b1 <;> cases b2 <;> cases b3 <;> cases b4 <;> rfl
    · dsimp only
      rw [E30_0_eq, nlt_nat]; rfl
  rw [F30_eq, h]
  unfold versB
  cases anyR (badV l) 0 l.length <;> rfl

def wasI (l : List Ver) (m : Int) : Ver := bif decide (m = 0) then (-1, true, [], [], 0, { data := #[] : ByteArray }, 0) else rd T57 l (m - 1)
theorem wasI_zero (l : List Ver) : wasI l ((0 : Nat) : Int) = (-1, true, [], [], 0, { data := #[] : ByteArray }, 0) := rfl
theorem wasI_succ (l : List Ver) (i : Nat) : wasI l ((i : Int) + 1) = verAt l i := by
  unfold wasI
  rw [show decide ((i : Int) + 1 = 0) = false by simp; omega, show (i : Int) + 1 - 1 = (i : Int) by omega]
  exact rd_nat l i

theorem F28_spec {k : Nat} {l : List Ver} (hl : VOk k l) : F28 k (l, ()) = some ((versB l, ()), ()) := by
  obtain ⟨h18, h1, h2⟩ := hl
  have h : E28_0 k k (l, (wasI l 0, ()), l, (l.length : Int), 0, ()) = some (bif anyR (badV l) 0 l.length then Sum.inr (Sum.inl (false, ())) else Sum.inl (l, ())) := by
    refine scan0 (E := fun j m => E28_0 k j (l, (wasI l m, ()), l, (l.length : Int), m, ())) (fun j i hi => ?_) (fun j => ?_) (by omega)
    · dsimp only
      have hv : F41 k (verAt l i, ()) = some ((verB (verAt l i), ()), ()) := F41_spec (h2 _ (verAt_mem hi))
      rw [E28_0_eq, lt_nat hi, inb_nat hi]
      rw [show (rd ((Ty.i IntKind.i64).p (Ty.b.p ((Ty.b.p (Ty.s.l.p (Ty.s.p (Ty.i IntKind.i64)))).l.p (((Ty.i IntKind.i64).p (Ty.ex.p Ty.ex)).l.p ((Ty.i IntKind.i64).p (Ty.s.p (Ty.i IntKind.i64))))))) l (i : Int)) = verAt l i from rd_nat l i]
      rw [hv, wrap_nat (by omega), wasI_succ]
      unfold badV
      cases i with
      | zero =>
        rw [wasI_zero]
        cases hb : verB (verAt l 0) with
        | false => rfl
        | true =>
          have e1 : decide ((verAt l 0).1 ≤ (-1 : Int)) = false := by
            unfold verB at hb
            rw [Bool.and_eq_true] at hb
            have hb1 : (0 : Int) ≤ (verAt l 0).1 := of_decide_eq_true hb.1
            exact decide_eq_false fun h => absurd (Int.le_trans hb1 h) (by decide)
          simp only [Option.bind_some]
          rw [e1]
          generalize (verAt l 0).2.1 = b2
          cases b2 <;> rfl
      | succ i =>
        rw [show (((i + 1 : Nat) : Int)) = (i : Int) + 1 from rfl, wasI_succ, show i + 1 - 1 = i from rfl, show decide (i + 1 = 0) = false by simp]
        generalize verB (verAt l (i + 1)) = b1
        generalize (verAt l (i + 1)).2.1 = b2
        generalize (verAt l i).2.1 = b3
        generalize decide ((verAt l (i + 1)).1 ≤ (verAt l i).1) = b4
        cases b1 <;> cases b2 <;> cases b3 <;> cases b4 <;> rfl
    · dsimp only
      rw [E28_0_eq, nlt_nat]; rfl
  rw [F28_eq]
  have h : E28_0 k k (l, ((-1, true, [], [], 0, { data := #[] : ByteArray }, 0), ()), l, (l.length : Int), 0, ()) = _ := h
  rw [h]
  unfold versB
  cases anyR (badV l) 0 l.length <;> rfl

/-! ### entries -/
abbrev Ent := Ty.den T36
def entAt (l : List Ent) (i : Nat) : Ent := l.getD i (Ty.dflt T36)
def badE (l : List Ent) (i : Nat) : Bool := !nameB (entAt l i).1 || (decide ((entAt l i).2.length = 0) || (!versB (entAt l i).2 || (bif decide (i = 0) then false else !strLt (entAt l (i - 1)).1 (entAt l i).1)))
def rightE (l : List Ent) : Bool := bif anyR (badE l) 0 l.length then false else decide ((l.length : Int) ≤ 8)
def LOk (k : Nat) (l : List Ent) : Prop := 18 < k ∧ l.length < min k 9223372036854775807 ∧ ∀ e, e ∈ l → e.1.size < min k 9223372036854775807 ∧ VOk k e.2
theorem entAt_mem {l : List Ent} {i : Nat} (h : i < l.length) : entAt l i ∈ l := by
  unfold entAt
  rw [List.getD_eq_getElem?_getD, List.getElem?_eq_getElem h]
  exact List.getElem_mem h
theorem rd36 (l : List Ent) (i : Nat) : rd (Ty.s.p ((Ty.i IntKind.i64).p (Ty.b.p ((Ty.b.p (Ty.s.l.p (Ty.s.p (Ty.i IntKind.i64)))).l.p (((Ty.i IntKind.i64).p (Ty.ex.p Ty.ex)).l.p ((Ty.i IntKind.i64).p (Ty.s.p (Ty.i IntKind.i64)))))) ).l) l (i : Int) = entAt l i := rd_nat l i

theorem F13_spec {k : Nat} {l : List Ent} (hl : LOk k l) : F13 k (l, ()) = some ((rightE l, ()), ()) := by
  obtain ⟨h18, h1, h2⟩ := hl
  have h : E13_0 k k (l, 0, ()) = some (bif anyR (badE l) 0 l.length then Sum.inr (Sum.inl (false, ())) else Sum.inl (l, ())) := by
    refine scan0 (E := fun j m => E13_0 k j (l, m, ())) (fun j i hi => ?_) (fun j => ?_) (by omega)
    · dsimp only
      obtain ⟨a1, a2⟩ := h2 _ (entAt_mem hi)
      have hn : F29 k ((entAt l i).1, ()) = some ((nameB (entAt l i).1, ()), ()) := F29_spec (by omega) (by omega) (by omega)
      have hv : F30 k ((entAt l i).2, ()) = some ((versB (entAt l i).2, ()), ()) := F30_spec a2
      rw [E13_0_eq, lt_nat hi, inb_nat hi, rd36, hn, hv, wrap_nat (by omega), dec_nat0]
      unfold badE
      cases i with
      | zero =>
        rw [show decide (0 < ((0 : Nat) : Int)) = false from rfl]
        generalize nameB (entAt l 0).1 = b1
        generalize decide ((entAt l 0).2.length = 0) = b2
        generalize versB (entAt l 0).2 = b3
        cases b1 <;> cases b2 <;> cases b3 <;> rfl
      | succ i =>
        have e0 : decide (0 < ((i + 1 : Nat) : Int)) = true := by simp
        rw [e0, wrap_pred (by omega) (Nat.succ_pos i), show i + 1 - 1 = i from rfl, inb_nat (show i < l.length by omega), rd36, show decide (i + 1 = 0) = false by simp]
        generalize nameB (entAt l (i + 1)).1 = b1
        generalize decide ((entAt l (i + 1)).2.length = 0) = b2
        generalize versB (entAt l (i + 1)).2 = b3
        generalize strLt (entAt l i).1 (entAt l (i + 1)).1 = b4
        cases b1 <;> cases b2 <;> cases b3 <;> cases b4 <;> rfl
    · dsimp only
      rw [E13_0_eq, nlt_nat]; rfl
  rw [F13_eq, h]
  unfold rightE
  cases anyR (badE l) 0 l.length <;> rfl

theorem F12_spec {k : Nat} {l : List Ent} (hl : LOk k l) : F12 k (l, ()) = some ((rightE l, ()), ()) := by
  obtain ⟨h18, h1, h2⟩ := hl
  have h : E12_0 k k (l, l, (l.length : Int), 0, ()) = some (bif anyR (badE l) 0 l.length then Sum.inr (Sum.inl (false, ())) else Sum.inl (l, ())) := by
    refine scan0 (E := fun j m => E12_0 k j (l, l, (l.length : Int), m, ())) (fun j i hi => ?_) (fun j => ?_) (by omega)
    · dsimp only
      obtain ⟨a1, a2⟩ := h2 _ (entAt_mem hi)
      have hn : F26 k ((entAt l i).1, ()) = some ((wordB (entAt l i).1, ()), ()) := F26_spec (by omega) (by omega)
      have hv : F28 k ((entAt l i).2, ()) = some ((versB (entAt l i).2, ()), ()) := F28_spec a2
      rw [E12_0_eq, lt_nat hi, inb_nat hi, rd36, hn, hv, wrap_nat (by omega), dec_nat0]
      unfold badE nameB
      cases hw : wordB (entAt l i).1 with
      | false => rfl
      | true =>
      have hk : F27 k ((entAt l i).1, ()) = some ((keyB (entAt l i).1, ()), ()) := F27_spec hw
      rw [hk]
      cases i with
      | zero =>
        rw [show decide (0 < ((0 : Nat) : Int)) = false from rfl]
        generalize keyB (entAt l 0).1 = b1
        generalize decide ((entAt l 0).2.length = 0) = b2
        generalize versB (entAt l 0).2 = b3
        cases b1 <;> cases b2 <;> cases b3 <;> rfl
      | succ i =>
        have e0 : decide (0 < ((i + 1 : Nat) : Int)) = true := by simp
        rw [e0, wrap_pred (by omega) (Nat.succ_pos i), show i + 1 - 1 = i from rfl, inb_nat (show i < l.length by omega), rd36, show decide (i + 1 = 0) = false by simp]
        generalize keyB (entAt l (i + 1)).1 = b1
        generalize decide ((entAt l (i + 1)).2.length = 0) = b2
        generalize versB (entAt l (i + 1)).2 = b3
        generalize strLt (entAt l i).1 (entAt l (i + 1)).1 = b4
        cases b1 <;> cases b2 <;> cases b3 <;> cases b4 <;> rfl
    · dsimp only
      rw [E12_0_eq, nlt_nat]; rfl
  rw [F12_eq, h]
  unfold rightE
  cases anyR (badE l) 0 l.length <;> rfl
theorem rightE_len {l : List Ent} (h : rightE l = true) : l.length ≤ 8 := by
  unfold rightE at h
  cases hb : anyR (badE l) 0 l.length with
  | true => rw [hb] at h; cases h
  | false => rw [hb] at h; have := of_decide_eq_true h; omega
end Go.Pv.L16
