import Derived.Test.YtfmcfigoendjiaaGreatPvQ16
import Derived.Test.YtfmcfigoendjiaaGreatPvRe16
import Derived.Test.YtfmcfigoendjiaaGreatPvG16
/- Layer 16: the live question is answered. -/
namespace Go.Pv.L16
open Go Go.Pv Go.Proofs
set_option linter.all false
set_option linter.constructorNameAsVariable false
set_option linter.unusedSectionVars false
set_option linter.unusedVariables false
set_option linter.unusedSimpArgs false
def it1 (a b : UInt8) : Ty.den T66 := (false, [(⟨#[a]⟩ : ByteArray)], (⟨#[b]⟩ : ByteArray), (1 : Int))
def en1 (nm : UInt8) (l : List (Ty.den T66)) : Ty.den T36 := ((⟨#[nm]⟩ : ByteArray), [((0 : Int), false, l, [], (5 : Int), (⟨#[]⟩ : ByteArray), (1 : Int))])
def eP : Ty.den T36 := en1 112 [it1 114 120]
def eQ : Ty.den T36 := en1 113 [it1 97 120, it1 112 121]
def eR : Ty.den T36 := en1 114 [it1 97 120]
def fP : Ty.den T36 := en1 112 [it1 113 120]
def fQ : Ty.den T36 := en1 113 [it1 112 120]
theorem e_1 (n : Nat) : F22 (n + 100) ({ data := #[112] : ByteArray }, { data := #[115, 101, 113, 32, 114, 32, 120, 32, 119, 105, 116, 104, 105, 110, 32, 53] : ByteArray }, ()) = some ((eP, ()), ()) := by kernel_rfl
theorem e_2 (n : Nat) : F22 (n + 100) ({ data := #[113] : ByteArray }, { data := #[115, 101, 113, 32, 97, 32, 120, 32, 116, 104, 101, 110, 32, 112, 32, 121, 32, 119, 105, 116, 104, 105, 110, 32, 53] : ByteArray }, ()) = some ((eQ, ()), ()) := by kernel_rfl
theorem e_3 (n : Nat) : F22 (n + 100) ({ data := #[114] : ByteArray }, { data := #[115, 101, 113, 32, 97, 32, 120, 32, 119, 105, 116, 104, 105, 110, 32, 53] : ByteArray }, ()) = some ((eR, ()), ()) := by kernel_rfl
theorem e_4 (n : Nat) : F22 (n + 100) ({ data := #[112] : ByteArray }, { data := #[115, 101, 113, 32, 113, 32, 120, 32, 119, 105, 116, 104, 105, 110, 32, 53] : ByteArray }, ()) = some ((fP, ()), ()) := by kernel_rfl
theorem e_5 (n : Nat) : F22 (n + 100) ({ data := #[113] : ByteArray }, { data := #[115, 101, 113, 32, 112, 32, 120, 32, 119, 105, 116, 104, 105, 110, 32, 53] : ByteArray }, ()) = some ((fQ, ()), ()) := by kernel_rfl
end Go.Pv.L16

/- Layer 16: the live question is answered. -/
namespace Go.Pv.L16
open Go Go.Pv Go.Proofs
set_option linter.all false
set_option linter.constructorNameAsVariable false
set_option linter.unusedSectionVars false
set_option linter.unusedVariables false
set_option linter.unusedSimpArgs false
theorem h_12 (n : Nat) : F12 (n + 100) ([eP, eQ, eR], ()) = some ((true, ()), ()) := by kernel_rfl
theorem h_10a (n : Nat) : F10 (n + 100) ([eP, eQ, eR], ()) = some (([(2 : Int), 3, 1], (0 : Int), ()), ()) := by kernel_rfl
theorem h_10b (n : Nat) : F10 (n + 100) ([fP, fQ], ()) = some (([], (161 : Int), ()), ()) := by kernel_rfl
theorem h_10c (n : Nat) : F10 (n + 100) ([({ data := #[112] : ByteArray }, [])], ()) = some (([], (1 : Int), ()), ()) := by kernel_rfl
theorem h_17 (n : Nat) : F17 (n + 100) ([eP, eQ, eR], 1, ()) = some (([(0 : Int)], ()), ()) := by kernel_rfl
theorem h_14a (n : Nat) : F14 (n + 100) ([(2 : Int), 3, 1], [2, 3, 1], ()) = some ((true, ()), ()) := by kernel_rfl
theorem h_14b (n : Nat) : F14 (n + 100) ([(2 : Int), 0, 1], [2, 0, 1], ()) = some ((true, ()), ()) := by kernel_rfl
theorem h_14c (n : Nat) : F14 (n + 100) ([(0 : Int)], [0], ()) = some ((true, ()), ()) := by kernel_rfl
theorem h_14d (n : Nat) : F14 (n + 100) ([(0 : Int), 1], [0, 1], ()) = some ((true, ()), ()) := by kernel_rfl
theorem h_15 (n : Nat) : F15 (n + 100) ([eP, eQ, eR], ()) = some (([(2 : Int), 0, 1], ()), ()) := by kernel_rfl
theorem h_19 (n : Nat) : F19 (n + 100) ([eP, eQ, eR], 2, ()) = some (([(0 : Int), 1], ()), ()) := by kernel_rfl
end Go.Pv.L16

/- Layer 16: the live question is answered. -/
namespace Go.Pv.L16
open Go Go.Pv Go.Proofs
set_option linter.all false
set_option linter.constructorNameAsVariable false
set_option linter.unusedSectionVars false
set_option linter.unusedVariables false
set_option linter.unusedSimpArgs false
theorem obind {α β : Type} {o : Option α} {a : α} {f : α → Option β} {r : Option β} (h : o = some a) (h2 : f a = r) : o.bind f = r := by rw [h]; exact h2
theorem head_ok (n : Nat) : F8 (n + 100) () = some ((true, ()), ()) := by
  have h := F8_eq (n + 100)
  refine h.trans ?_
  refine obind (e_1 n) ?_
  refine obind (e_2 n) ?_
  refine obind (e_3 n) ?_
  try dsimp only
  refine obind (h_10a n) ?_
  try dsimp only
  refine obind (e_4 n) ?_
  refine obind (e_5 n) ?_
  try dsimp only
  refine obind (h_10b n) ?_
  refine obind (h_10c n) ?_
  try dsimp only
  try simp only [decide_true, cond_true]
  refine obind (h_14a n) ?_
  try dsimp only
  try simp only [decide_true, cond_true]
  refine obind (h_15 n) ?_
  try dsimp only
  try simp only [cond_true]
  refine obind (h_14b n) ?_
  try dsimp only
  try simp only [decide_true, cond_true]
  refine obind (h_17 n) ?_
  try dsimp only
  try simp only [cond_true]
  refine obind (h_14c n) ?_
  try dsimp only
  try simp only [decide_true, cond_true]
  refine obind (h_19 n) ?_
  try dsimp only
  try simp only [cond_true]
  refine obind (h_14d n) ?_
  try dsimp only
  try simp only [cond_true]
  exact obind (h_12 n) rfl
end Go.Pv.L16

/- Layer 16, plainly: sizes of entries; what asks for them answers. -/
namespace Go.Pv.L16
open Go Go.Pv Go.Proofs
set_option linter.all false
set_option linter.constructorNameAsVariable false
set_option linter.unusedSectionVars false
set_option linter.unusedVariables false
set_option linter.unusedSimpArgs false

theorem head_at {k : Nat} (hk : 140737488351232 < k) : F8 k () = some ((true, ()), ()) := by
  have := head_ok (k - 100)
  rwa [show k - 100 + 100 = k by omega] at this
theorem QT.le {N N' : Nat} {q : Qry} (h : QT N q) (hN : N ≤ N') : QT N' q := ⟨h.items, h.preds, h.by_, h.item, fun p hp => ⟨(h.pred p hp).1.le hN, (h.pred p hp).2.le hN⟩⟩
def VT (N : Nat) (l : List Ver) : Prop := l.length ≤ 140737488351232 ∧ ∀ v, v ∈ l → QT N v.2.2
def ET (N : Nat) (e : Ent) : Prop := e.1.size ≤ 140737488351232 ∧ VT N e.2
def LT (N : Nat) (l : List Ent) : Prop := l.length ≤ 140737488351232 ∧ ∀ e, e ∈ l → ET N e
theorem common {α : Type} {P : Nat → α → Prop} (hP : ∀ {n m x}, n ≤ m → P n x → P m x) : ∀ l : List α, (∀ x, x ∈ l → ∃ n, P n x) → ∃ n, ∀ x, x ∈ l → P n x
  | [], _ => ⟨0, fun x h => by cases h⟩
  | a :: l, h => by
    obtain ⟨n, hn⟩ := common (P := P) hP l fun x hx => h x (List.mem_cons_of_mem _ hx)
    obtain ⟨m, hm⟩ := h a (List.mem_cons_self ..)
    refine ⟨n + m, fun x hx => ?_⟩
    rcases List.mem_cons.1 hx with rfl | hx
    · exact hP (by omega) hm
    · exact hP (by omega) (hn x hx)
theorem VT.le {N N' : Nat} {l : List Ver} (h : VT N l) (hN : N ≤ N') : VT N' l := ⟨h.1, fun v hv => (h.2 v hv).le hN⟩
theorem ET.le {N N' : Nat} {e : Ent} (h : ET N e) (hN : N ≤ N') : ET N' e := ⟨h.1, h.2.le hN⟩
theorem et_of {e : Ent} (h : T36.ok e) : ∃ N, ET N e := by
  obtain ⟨h1, h2, h3⟩ := h
  have : ∃ N, ∀ v, v ∈ (e.2 : List Ver) → QT N v.2.2 := common (P := fun n (v : Ver) => QT n v.2.2) (fun hnm h => h.le hnm) e.2 fun v hv => qt_of (h3 v hv).2.2
  obtain ⟨N, hN⟩ := this
  exact ⟨N, h1, h2, hN⟩
theorem lt_of {l : List Ent} (h : T22.ok l) : ∃ N, LT N l := by
  obtain ⟨h1, h2⟩ := h
  obtain ⟨N, hN⟩ := common (P := ET) (fun hnm h => h.le hnm) l fun e he => et_of (h2 e he)
  exact ⟨N, h1, hN⟩
section
variable {N k : Nat} (hk : 140737488351232 < k)
include hk
theorem VT.ok {l : List Ver} (h : VT N l) : VOk k l := ⟨by omega, by have := h.1; omega, fun v hv => (h.2 v hv).ok hk⟩
theorem LT.ok {l : List Ent} (h : LT N l) : LOk k l := ⟨by omega, by have := h.1; omega, fun e he => ⟨by have := (h.2 e he).1; omega, VT.ok hk (h.2 e he).2⟩⟩
theorem F23_total (hN : N ≤ k) {l : List Ver} (h : VT N l) : ∃ b, F23 k (l, ()) = some ((b, ()), ()) := by
  have key : ∀ (d i j : Nat), l.length - i = d → i ≤ l.length → d < j → (E23_0 k j (l, (i : Int), ()) = some (Sum.inl (l, ())) ∨ E23_0 k j (l, (i : Int), ()) = some (Sum.inr (Sum.inl (true, ())))) := by
    intro d
    induction d with
    | zero =>
      intro i j h1 h2 h3
      have : i = l.length := by omega
      subst this
      match j, h3 with
      | j + 1, _ => left; rw [E23_0_eq, nlt_nat]; rfl
    | succ d ih =>
      intro i j h1 h2 h3
      match j, h3 with
      | j + 1, h3 =>
        have hi : i < l.length := by omega
        obtain ⟨b, hb⟩ := F38_total (h.2 _ (verAt_mem hi)) hk hN
        have hl := h.1
        rw [E23_0_eq, lt_nat hi, inb_nat hi, rd57, wrap_nat (by omega)]
        simp only [cond_true]
        cases decide ((i : Int) < 20) with
        | false => left; rfl
        | true =>
          simp only [cond_true]
          have hb' : ∀ {β : Type} {f : _ → Option β}, (F38 k ((verAt l i).2.2, ())).bind f = f ((b, ()), ()) := fun {β f} => by rw [hb]; rfl
          rw [hb']
          cases b with
          | true => right; rfl
          | false => exact ih (i + 1) j (by omega) (by omega) (by omega)
  rw [F23_eq]
  rcases key l.length 0 k (by omega) (by omega) (by have := h.1; omega) with e | e
  · have e : E23_0 k k (l, 0, ()) = _ := e
    exact ⟨_, ob e rfl⟩
  · have e : E23_0 k k (l, 0, ()) = _ := e
    exact ⟨_, ob e rfl⟩
theorem F9_total (hN : N ≤ k) {l : List Ent} (h : LT N l) : ∃ b, F9 k (l, ()) = some ((b, ()), ()) ∧ (b = false → l.length ≤ 10) := by
  have key : ∀ (d i j : Nat), l.length - i = d → i ≤ l.length → d < j → (E9_0 k j (l, (i : Int), ()) = some (Sum.inl (l, ())) ∨ E9_0 k j (l, (i : Int), ()) = some (Sum.inr (Sum.inl (true, ())))) := by
    intro d
    induction d with
    | zero =>
      intro i j h1 h2 h3
      have : i = l.length := by omega
      subst this
      match j, h3 with
      | j + 1, _ => left; rw [E9_0_eq, nlt_nat]; rfl
    | succ d ih =>
      intro i j h1 h2 h3
      match j, h3 with
      | j + 1, h3 =>
        have hi : i < l.length := by omega
        obtain ⟨b, hb⟩ := F23_total hk hN (h.2 _ (entAt_mem hi)).2
        have hl := h.1
        rw [E9_0_eq, lt_nat hi, inb_nat hi, rd36, wrap_nat (by omega)]
        simp only [cond_true]
        cases decide ((i : Int) < 12) with
        | false => left; rfl
        | true =>
          simp only [cond_true]
          have hb' : ∀ {β : Type} {f : _ → Option β}, (F23 k ((entAt l i).2, ())).bind f = f ((b, ()), ()) := fun {β f} => by rw [hb]; rfl
          rw [hb']
          cases b with
          | true => right; rfl
          | false =>
            cases hz : decide (1000 < ((ByteArray.size (entAt l i).1 : Nat) : Int)) with
            | true => right; rfl
            | false =>
              have := ih (i + 1) j (by omega) (by omega) (by omega)
              exact this
  rw [F9_eq]
  rcases key l.length 0 k (by omega) (by omega) (by have := h.1; omega) with e | e
  · have e : E9_0 k k (l, 0, ()) = _ := e
    refine ⟨_, ob e rfl, fun h => ?_⟩
    have h := of_decide_eq_false h
    have h : ¬ 10 < (l.length : Int) := h
    omega
  · have e : E9_0 k k (l, 0, ()) = _ := e
    exact ⟨_, ob e rfl, fun h => by cases h⟩
end
theorem F14_same {k : Nat} {a : List Int} (ha : a.length < min k 1000000) : F14 k (a, a, ()) = some ((true, ()), ()) := by
  have h : E14_0 k k (a, a, 0, ()) = some (bif anyR (fun _ => false) 0 a.length then Sum.inr (Sum.inl (false, ())) else Sum.inl ()) := by
    refine scan0 (E := fun j m => E14_0 k j (a, a, m, ())) (fun j i hi => ?_) (fun j => ?_) (by omega)
    · dsimp only
      rw [E14_0_eq, lt_nat hi, inb_nat hi, wrap_nat (by omega)]
      have : decide (rd (Ty.i IntKind.i64) a (i : Int) = rd (Ty.i IntKind.i64) a (i : Int)) = true := decide_eq_true rfl
      rw [this]; rfl
    · dsimp only
      rw [E14_0_eq, nlt_nat]; rfl
  have hf : anyR (fun _ => false) 0 a.length = false := by
    cases hc : anyR (fun _ => false) 0 a.length with
    | false => rfl
    | true => obtain ⟨m, _, _, h⟩ := anyR_iff.1 hc; cases h
  rw [hf] at h
  rw [F14_eq, show decide ((a.length : Int) = (a.length : Int)) = true from decide_eq_true rfl]
  simp only [Bool.not_true, cond_false]
  exact ob h rfl
theorem order_len {l : List Ent} : (orderB l).length ≤ 24 := by
  have h8 := depths_len (l := l)
  unfold orderB bks bk
  cases decide ((depthsB l).2 = 0) with
  | false => simp
  | true =>
    have h := fun c : Int => rl_len (fun t => decide ((depthsB l).1.getD t 0 = c)) 0 (depthsB l).1.length
    have h1 := h 1
    have h2 := h 2
    have h3 := h 3
    simp only [cond_true, List.length_append]
    omega
theorem readsA_len {l : List Ent} {x : Int} : (readsA l x).length ≤ 8 := by
  unfold readsA
  cases hr : rightE l with
  | false => simp
  | true =>
    have := rightE_len hr
    cases (decide (0 ≤ x) && decide (x < (l.length : Int))) with
    | false => simp
    | true => have := readsOf_len l x.toNat; simp only [Bool.true_and, cond_true]; omega
theorem readersB_len {l : List Ent} {x : Int} : (readersB l x).length ≤ 8 := by
  unfold readersB
  cases hr : rightE l with
  | false => simp
  | true =>
    have := rightE_len hr
    cases (decide (0 ≤ x) && decide (x < (l.length : Int))) with
    | false => simp
    | true => have := rl_len (rchB (readsOf l) l.length x.toNat) 0 l.length; simp only [Bool.true_and, cond_true]; omega
end Go.Pv.L16

