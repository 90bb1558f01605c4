import Derived.Test.YtfmcfigoendjiaaGreatPvA16b
/- Layer 16, plainly: values and quoted texts. -/
namespace Go.Pv.L16
open Go Go.Pv Go.Proofs
set_option linter.all false
set_option linter.constructorNameAsVariable false
set_option linter.unusedSectionVars false
set_option linter.unusedVariables false
set_option linter.unusedSimpArgs false

def valB (x0 : Ty.den T81) : Bool := bif decide (x0.fst = 1) then (bif bif decide (-1099511627776 ≤ x0.snd.fst) then decide (x0.snd.fst ≤ 1099511627776) else false then decide (x0.snd.snd = { data := #[] : ByteArray }) else false) else bif decide (x0.fst = 2) then (bif decide (x0.snd.fst = 0) then decide ((↑(ByteArray.size x0.snd.snd) : Int) ≤ 64) else false) else bif decide (x0.fst = 3) then (bif bif decide (0 ≤ x0.snd.fst) then decide (x0.snd.fst ≤ 1) else false then decide (x0.snd.snd = { data := #[] : ByteArray }) else false) else false
theorem F112_spec (k : Nat) (v : Ty.den T81) : F112 k (v, ()) = some ((valB v, ()), ()) := by
  rw [F112_eq]
  unfold valB
  cases decide (v.fst = 1) <;> cases decide (v.fst = 2) <;> cases decide (v.fst = 3) <;> rfl
theorem F117_spec (k : Nat) (v : Ty.den T81) : F117 k (v, ()) = some ((valB v, ()), ()) := by
  rw [F117_eq]
  unfold valB
  by_cases h1 : v.fst = 1
  · rw [decide_eq_true h1]; rfl
  · rw [decide_eq_false h1]
    by_cases h3 : v.fst = 3
    · have h2 : ¬ v.fst = 2 := by intro h; rw [h] at h3; exact absurd h3 (by decide)
      rw [decide_eq_true h3, decide_eq_false h2]; rfl
    · rw [decide_eq_false h3]
      cases decide (v.fst = 2) <;> rfl

def badT (s : ByteArray) (i : Nat) : Bool :=
  let c : Int := (bt s i).toNat
  decide (c < 32) || (decide (126 < c) || decide (c = 39))
def plainB (s : ByteArray) : Bool := !anyR (badT s) 0 s.size

theorem F118_spec {k : Nat} {s : ByteArray} (hk : s.size < k) (hs : s.size < 9223372036854775807) : F118 k (s, ()) = some ((plainB s, ()), ()) := by
  have hE : E118_0 k k (s, (s.size : Int), 0, ()) = some (bif anyR (badT s) 0 s.size then Sum.inr (Sum.inl (false, ())) else Sum.inl ()) := by
    refine scan0 (E := fun j i => E118_0 k j (s, (s.size : Int), i, ())) (fun j i hi => ?_) (fun j => ?_) hk
    · dsimp only
      rw [E118_0_eq, lt_nat hi, inb_nat hi, wrap_nat (by omega)]
      simp only [badT]
      cases decide (((bt s i).toNat : Int) < 32) <;> cases decide (126 < ((bt s i).toNat : Int)) <;> cases decide (((bt s i).toNat : Int) = 39) <;> rfl
    · dsimp only
      rw [E118_0_eq, nlt_nat]; rfl
  rw [F118_eq, hE]
  unfold plainB
  cases anyR (badT s) 0 s.size <;> rfl

theorem Ex.eta (x : Ex) : Ex.mk (Ex.kind x) (Ex.vk x) (Ex.vn x) (Ex.vs x) (Ex.var x) (Ex.fld x) (Ex.kids x) = x := by cases x; rfl

theorem E92_0_spec {k : Nat} (s92 : shsDen I92 → Option (shsDen O92 × shsDen (shsUpd I92))) {x : Ty.den T84} (hk : (Ex.vs x).size < k) (hs : (Ex.vs x).size < 9223372036854775807) :
    E92_0 k s92 k ((x, ()), 0, ()) = some (bif anyR (badT (Ex.vs x)) 0 (Ex.vs x).size then Sum.inr (Sum.inl (false, ())) else Sum.inl ((x, ()), ())) := by
  refine scan0 (E := fun j i => E92_0 k s92 j ((x, ()), i, ())) (fun j i hi => ?_) (fun j => ?_) hk
  · dsimp only
    rw [E92_0_eq, lt_nat hi, inb_nat hi, wrap_nat (by omega), Ex.eta]
    simp only [badT]
    cases decide (((bt (Ex.vs x) i).toNat : Int) < 32) <;> cases decide (126 < ((bt (Ex.vs x) i).toNat : Int)) <;> cases decide (((bt (Ex.vs x) i).toNat : Int) = 39) <;> rfl
  · dsimp only
    rw [E92_0_eq, nlt_nat, Ex.eta]; rfl
end Go.Pv.L16

/- Layer 16, plainly: items. -/
namespace Go.Pv.L16
open Go Go.Pv Go.Proofs
set_option linter.all false
set_option linter.constructorNameAsVariable false
set_option linter.unusedSectionVars false
set_option linter.unusedVariables false
set_option linter.unusedSimpArgs false

def nameAt (l : List ByteArray) (i : Nat) : ByteArray := l.getD i ByteArray.empty
/-- Names of their own, each once. -/
def namesB (l : List ByteArray) : Bool := !anyR (fun i => dupK (nameAt l) i || !nameB (nameAt l i)) 0 l.length
def itemB (x : Ty.den T66) (first : Bool) : Bool :=
  nameB x.2.2.1 && (!decide ((x.2.1.length : Int) < 1) && (!decide (3 < (x.2.1.length : Int)) && (!decide (x.2.2.2 < 1) && (!decide (3 < x.2.2.2) && (namesB x.2.1 && (!(first && (x.1 || decide (x.2.2.2 = 3))) && (!x.1 || decide (x.2.2.2 = 1))))))))
/-- Sizes that loops' bounds are beyond. -/
def ItemOk (k : Nat) (x : Ty.den T66) : Prop := x.2.2.1.size < min k 9223372036854775807 ∧ x.2.1.length < min k 9223372036854775807 ∧ ∀ s, s ∈ x.2.1 → s.size < min k 9223372036854775807

section
variable {k : Nat} (h18 : 18 < k)
include h18

theorem F29_of {s : ByteArray} (h : s.size < min k 9223372036854775807) : F29 k (s, ()) = some ((nameB s, ()), ()) := F29_spec h18 (by omega) (by omega)
omit h18 in
theorem F99_of {s : ByteArray} (h : s.size < min k 9223372036854775807) : F99 k (s, ()) = some ((nameB s, ()), ()) := F99_spec (by omega) (by omega)

theorem F91_spec {x : Ty.den T66} (hx : ItemOk k x) (first : Bool) : F91 k (x, first, ()) = some ((itemB x first, ()), ()) := by
  obtain ⟨hx1, hx2, hx3⟩ := hx
  have h0 : ∀ i, i < x.2.1.length → E91_0_0 k k (first, (x, ()), (i : Int), 0, ()) = some (bif dupK (nameAt x.2.1) i then Sum.inr (Sum.inl (false, ())) else Sum.inl (first, (x, ()), (i : Int), ())) := by
    intro i hi
    refine scan0 (E := fun j m => E91_0_0 k j (first, (x, ()), (i : Int), m, ())) (fun j m hm => ?_) (fun j => ?_) (by omega)
    · dsimp only
      rw [E91_0_0_eq, lt_nat hm, inb_nat (by omega), inb_nat hi, wrap_nat (by omega), rd_nat, rd_nat]
      rfl
    · dsimp only
      rw [E91_0_0_eq, nlt_nat]; rfl
  have h1 : E91_0 k k (first, (x, ()), 0, ()) = some (bif anyR (fun i => dupK (nameAt x.2.1) i || !nameB (nameAt x.2.1 i)) 0 x.2.1.length then Sum.inr (Sum.inl (false, ())) else Sum.inl (first, (x, ()), ())) := by
    refine scan0 (E := fun j m => E91_0 k j (first, (x, ()), m, ())) (fun j i hi => ?_) (fun j => ?_) (by omega)
    · dsimp only
      have hn : F29 k (rd Ty.s x.2.1 (i : Int), ()) = some ((nameB (nameAt x.2.1 i), ()), ()) := by
        rw [rd_nat]
        have : (nameAt x.2.1 i).size < min k 9223372036854775807 := by
          unfold nameAt
          rw [List.getD_eq_getElem?_getD, List.getElem?_eq_getElem hi]
          exact hx3 _ (List.getElem_mem hi)
        exact F29_of h18 this
      rw [E91_0_eq, lt_nat hi, inb_nat hi, hn]
      dsimp only [cond_true, Option.bind_some]
      rw [h0 i hi]
      cases nameB (nameAt x.2.1 i) <;> cases dupK (nameAt x.2.1) i <;> first | rfl | (dsimp only [Bool.not_true, cond_false, Option.bind_some]; rw [wrap_nat (by omega)]; rfl)
    · dsimp only
      rw [E91_0_eq, nlt_nat]; rfl
  rw [F91_eq, F29_of h18 hx1]
  dsimp only [Option.bind_some]
  rw [h1]
  unfold itemB namesB
  generalize anyR (fun i => dupK (nameAt x.2.1) i || !nameB (nameAt x.2.1 i)) 0 x.2.1.length = b1
  generalize nameB x.2.2.1 = b2
  generalize decide ((x.2.1.length : Int) < 1) = b3
  generalize decide (3 < (x.2.1.length : Int)) = b4
  generalize decide (x.2.2.2 < 1) = b5
  generalize decide (3 < x.2.2.2) = b6
  cases b2 <;> cases b3 <;> cases b4 <;> cases b5 <;> cases b6 <;> first | rfl | skip
  cases b1
  · dsimp only [Bool.not_true, Bool.not_false, cond_true, cond_false, Option.bind_some]
    generalize decide (x.2.2.2 = 3) = b7
    generalize decide (x.2.2.2 = 1) = b8
    generalize x.1 = b9
    cases first <;> cases b7 <;> cases b8 <;> cases b9 <;> rfl
  · rfl

omit h18 in
theorem F97_spec {x : Ty.den T66} (hx : ItemOk k x) (at_ : Int) : F97 k (x, at_, ()) = some ((itemB x (decide (at_ = 0)), ()), ()) := by
  obtain ⟨hx1, hx2, hx3⟩ := hx
  have h1 : E97_0 k k (at_, (x, ()), [], x.2.1, (x.2.1.length : Int), 0, ()) = some (bif anyR (fun i => dupK (nameAt x.2.1) i || !nameB (nameAt x.2.1 i)) 0 x.2.1.length then Sum.inr (Sum.inl (false, ())) else Sum.inl (at_, (x, ()), ())) := by
    refine scanM0 (E := fun j es m => E97_0 k j (at_, (x, ()), es, x.2.1, (x.2.1.length : Int), m, ())) (fun j i es hi => ?_) (fun j es => ?_) (by omega)
    · dsimp only
      have hn : F99 k (rd Ty.s x.2.1 (i : Int), ()) = some ((nameB (nameAt x.2.1 i), ()), ()) := by
        rw [rd_nat]
        have : (nameAt x.2.1 i).size < min k 9223372036854775807 := by
          unfold nameAt
          rw [List.getD_eq_getElem?_getD, List.getElem?_eq_getElem hi]
          exact hx3 _ (List.getElem_mem hi)
        exact F99_of this
      rw [E97_0_eq, lt_nat hi, inb_nat hi, hn, mpGet_same, wrap_nat (by omega), rd_nat]
      show (bif true then bif true then (bif !decide (1 < mpV (nameAt x.2.1 i) es) then some ((nameB (nameAt x.2.1 i), ()), ()) else some ((Ty.b.dflt, ()), ())).bind (fun y => bif bif decide (1 < mpV (nameAt x.2.1 i) es) then true else !y.fst.fst then some (Sum.inr (Sum.inl (false, ()))) else E97_0 k j (at_, (x, ()), mpPut (nameAt x.2.1 i) (mpV (nameAt x.2.1 i) es) es, x.2.1, (x.2.1.length : Int), (i : Int) + 1, ())) else none else _) = _
      cases decide (1 < mpV (nameAt x.2.1 i) es) <;> cases nameB (nameAt x.2.1 i) <;> rfl
    · dsimp only
      rw [E97_0_eq, nlt_nat]; rfl
  rw [F97_eq, h1]
  unfold itemB namesB
  have e3 : decide ((x.2.1.length : Int) < 1) = decide ((x.2.1.length : Int) = 0) := decide_eq_decide.2 (by omega)
  rw [e3]
  cases anyR (fun i => dupK (nameAt x.2.1) i || !nameB (nameAt x.2.1 i)) 0 x.2.1.length with
  | true =>
    generalize nameB x.2.2.1 = b2
    generalize decide ((x.2.1.length : Int) = 0) = b3
    generalize decide (3 < (x.2.1.length : Int)) = b4
    generalize decide (x.2.2.2 < 1) = b5
    generalize decide (3 < x.2.2.2) = b6
    cases b2 <;> cases b3 <;> cases b4 <;> cases b5 <;> cases b6 <;> rfl
  | false =>
    dsimp only [cond_false, Option.bind_some]
    rw [F99_of hx1]
    generalize nameB x.2.2.1 = b2
    generalize decide ((x.2.1.length : Int) = 0) = b3
    generalize decide (3 < (x.2.1.length : Int)) = b4
    generalize decide (x.2.2.2 < 1) = b5
    generalize decide (3 < x.2.2.2) = b6
    generalize decide (x.2.2.2 = 3) = b7
    generalize decide (x.2.2.2 = 1) = b8
    generalize decide (at_ = 0) = b10
    generalize x.1 = b9
    cases b2 <;> cases b3 <;> cases b4 <;> cases b5 <;> cases b6 <;> cases b7 <;> cases b8 <;> cases b9 <;> cases b10 <;> rfl
end
end Go.Pv.L16

