/- Layer 16, plainly: who reads whom. -/
import Derived.Test.YtfmcfigoendjiaaGreatPvX16
namespace Go.Pv.L16
open Go Go.Pv Go.Proofs
set_option linter.all false
set_option linter.constructorNameAsVariable false
set_option linter.unusedSectionVars false
set_option linter.unusedVariables false
set_option linter.unusedSimpArgs false

theorem ob {α β : Type} {o : Option α} {a : α} {f : α → Option β} {r : Option β} (h : o = some a) (h2 : f a = r) : o.bind f = r := by rw [h]; exact h2
/-- The numbers from m on, below n, of which it is so. -/
def rl (p : Nat → Bool) (m n : Nat) : List Int := ((List.range' m (n - m)).filter p).map Int.ofNat
theorem rl_end (p : Nat → Bool) (n : Nat) : rl p n n = [] := by simp [rl]
theorem rl_step (p : Nat → Bool) {m n : Nat} (h : m < n) : rl p m n = (bif p m then [(m : Int)] else []) ++ rl p (m + 1) n := by
  unfold rl
  rw [show n - m = (n - (m + 1)) + 1 by omega, List.range'_succ, List.filter_cons]
  cases p m <;> rfl
theorem mem_rl {p : Nat → Bool} {m n : Nat} {x : Int} : x ∈ rl p m n ↔ ∃ i : Nat, x = (i : Int) ∧ m ≤ i ∧ i < n ∧ p i = true := by
  unfold rl
  rw [List.mem_map]
  constructor
  · rintro ⟨i, hi, rfl⟩
    rw [List.mem_filter, List.mem_range'_1] at hi
    exact ⟨i, rfl, by omega, by omega, hi.2⟩
  · rintro ⟨i, rfl, h1, h2, h3⟩
    exact ⟨i, by rw [List.mem_filter, List.mem_range'_1]; exact ⟨by omega, h3⟩, rfl⟩
theorem rl_len (p : Nat → Bool) (m n : Nat) : (rl p m n).length ≤ n - m := by
  unfold rl
  rw [List.length_map]
  exact Nat.le_trans (List.length_filter_le _ _) (by simp)

theorem set_map {α : Type} (f : Nat → α) (n i : Nat) (v : α) : ((List.range n).map f).set i v = (List.range n).map fun t => if t = i then v else f t := by
  apply List.ext_getElem
  · simp
  · intro t h1 h2
    rw [List.getElem_set]
    simp only [List.getElem_map, List.getElem_range]
    by_cases h : i = t
    · rw [if_pos h, if_pos h.symm]
    · rw [if_neg h, if_neg (Ne.symm h)]
theorem getD_map {α : Type} (f : Nat → α) {n i : Nat} (d : α) (h : i < n) : ((List.range n).map f).getD i d = f i := by
  rw [List.getD_eq_getElem?_getD, List.getElem?_eq_getElem (by simpa using h)]
  simp

def edgeB (l : List Ent) (i t : Nat) : Bool := namedB (entAt l i) (entAt l t).1
def readsOf (l : List Ent) (i : Nat) : List Int := rl (edgeB l i) 0 l.length
theorem readsOf_len (l : List Ent) (i : Nat) : (readsOf l i).length ≤ l.length := rl_len _ _ _

section
variable {k : Nat} {l : List Ent} (hl : LOk k l) (h8 : l.length ≤ 1000)
include hl h8
theorem E24_0_0_spec {i : Nat} (hi : i < l.length) : ∀ (d m j : Nat) (xs : List (List Int)) (pre : List Int), l.length - m = d → m ≤ l.length → d < j → xs.length = l.length → xs.getD i [] = pre → pre.length ≤ m →
    E24_0_0 k j (l, xs, (i : Int), (entAt l i, ()), l, (l.length : Int), (i : Int), l, (l.length : Int), (m : Int), ()) = some (Sum.inl (l, xs.set i (pre ++ rl (edgeB l i) m l.length), l, (l.length : Int), (i : Int), ())) := by
  intro d
  induction d with
  | zero =>
    intro m j xs pre h1 h2 h3 hx hp hq
    have : m = l.length := by omega
    subst this
    match j, h3 with
    | j + 1, _ =>
      rw [E24_0_0_eq, nlt_nat, rl_end, List.append_nil, ← hp]
      have : xs.set i (xs.getD i []) = xs := by
        rw [List.getD_eq_getElem?_getD, List.getElem?_eq_getElem (by omega)]
        exact List.set_getElem_self (by omega)
      rw [this]; rfl
  | succ d ih =>
    intro m j xs pre h1 h2 h3 hx hp hq
    match j, h3 with
    | j + 1, h3 =>
      have hm : m < l.length := by omega
      rw [E24_0_0_eq, lt_nat hm, inb_nat hm, rd36, F39_spec (hl.2.2 _ (entAt_mem hi)).2, wrap_nat (by omega), inb_nat (show i < xs.length by omega), rl_step _ hm]
      rw [show namedB (entAt l i) (entAt l m).1 = edgeB l i m from rfl]
      cases he : edgeB l i m with
      | false => exact ih (m + 1) j xs pre (by omega) (by omega) (by omega) hx hp (by omega)
      | true =>
        have e1 : rd (Ty.i IntKind.i64).l xs (i : Int) = pre := by rw [rd_nat, ← hp]; rfl
        rw [e1]
        have e2 : decide ((pre.length + [(m : Int)].length) * (7 + 1) ≤ 140737488355328) = true := decide_eq_true (by simp; omega)
        have e3 : decide ((i : Int) = (i : Int)) = true := decide_eq_true rfl
        have := ih (m + 1) j (xs.set i (pre ++ [(m : Int)])) (pre ++ [(m : Int)]) (by omega) (by omega) (by omega) (by simp [hx]) (by rw [List.getD_eq_getElem?_getD, List.getElem?_set_self (by omega)]; rfl) (by simp; omega)
        rw [List.set_set, List.append_assoc] at this
        rw [e3, Int.toNat_natCast]
        show (bif decide ((pre.length + [(m : Int)].length) * (7 + 1) ≤ 140737488355328) then _ else none) = _
        rw [e2]
        exact this
theorem E24_0_spec : ∀ (d i j : Nat) (xs : List (List Int)), l.length - i = d → i ≤ l.length → d < j → xs = (List.range l.length).map (fun t => if t < i then readsOf l t else []) →
    E24_0 k j (l, xs, l, (l.length : Int), (i : Int), ()) = some (Sum.inl ((List.range l.length).map (readsOf l), ())) := by
  intro d
  induction d with
  | zero =>
    intro i j xs h1 h2 h3 hx
    have : i = l.length := by omega
    subst this
    match j, h3 with
    | j + 1, _ =>
      rw [E24_0_eq, nlt_nat]
      have : xs = (List.range l.length).map (readsOf l) := by
        rw [hx]
        refine List.map_congr_left fun t ht => ?_
        rw [if_pos (List.mem_range.1 ht)]
      rw [this]; rfl
  | succ d ih =>
    intro i j xs h1 h2 h3 hx
    match j, h3 with
    | j + 1, h3 =>
      have hi : i < l.length := by omega
      have hg : xs.getD i [] = [] := by rw [hx, getD_map _ _ hi, if_neg (by omega)]
      have e := E24_0_0_spec hl h8 hi l.length 0 k xs [] (by omega) (by omega) (by have := hl.2.1; omega) (by rw [hx]; simp) hg (by simp)
      rw [E24_0_eq, lt_nat hi, inb_nat hi, rd36]
      have e : E24_0_0 k k (l, xs, (i : Int), (entAt l i, ()), l, (l.length : Int), (i : Int), l, (l.length : Int), 0, ()) = _ := e
      rw [e]
      show E24_0 k j (l, xs.set i ([] ++ rl (edgeB l i) 0 l.length), l, (l.length : Int), IntKind.i64.wrap ((i : Int) + 1), ()) = _
      rw [wrap_nat (by omega)]
      refine ih (i + 1) j _ (by omega) (by omega) (by omega) ?_
      rw [hx, set_map]
      refine List.map_congr_left fun t ht => ?_
      by_cases h : t = i
      · subst h; rw [if_pos rfl, if_pos (by omega)]; rfl
      · rw [if_neg h]
        by_cases h' : t < i
        · rw [if_pos h', if_pos (by omega)]
        · rw [if_neg h', if_neg (by omega)]
end

def edgesB (l : List Ent) : List (List Int) := bif rightE l then (List.range l.length).map (readsOf l) else []
set_option maxRecDepth 100000 in
theorem F24_spec {k : Nat} {l : List Ent} (hl : LOk k l) : F24 k (l, ()) = some ((edgesB l, ()), ()) := by
  rw [F24_eq]
  refine ob (F12_spec hl) ?_
  dsimp only
  unfold edgesB
  cases hr : rightE l with
  | false => rfl
  | true =>
    have h8 := rightE_len hr
    have hb : Tryz.prog.types[25].bytes = 24 := by kernel_rfl
    have hc : (decide (0 ≤ (l.length : Int)) && (decide ((l.length : Int) ≤ (l.length : Int)) && (decide ((l.length : Int) * ((Tryz.prog.types[25].bytes : Nat) : Int) ≤ 140737488355328) && decide ((l.length : Int) ≤ 140737488355328)))) = true := by
      rw [hb]
      simp only [Bool.and_eq_true, decide_eq_true_eq]
      omega
    have e := E24_0_spec hl (by omega) l.length 0 k (List.replicate (l.length : Int).toNat []) (by omega) (by omega) (by have := hl.2.1; omega) (by
      rw [Int.toNat_natCast]
      apply List.ext_getElem
      · simp
      · intro t h1 h2; simp)
    have e : E24_0 k k (l, List.replicate (l.length : Int).toNat [], l, (l.length : Int), 0, ()) = _ := e
    rw [hc]
    simp only [Bool.not_true, cond_false, cond_true]
    refine ob e ?_
    rfl

def readsA (l : List Ent) (n : Int) : List Int := bif rightE l && (decide (0 ≤ n) && decide (n < (l.length : Int))) then readsOf l n.toNat else []
theorem F17_spec {k : Nat} {l : List Ent} (hl : LOk k l) (n : Int) : F17 k (l, n, ()) = some ((readsA l n, ()), ()) := by
  rw [F17_eq]
  refine ob (F24_spec hl) ?_
  dsimp only
  unfold readsA
  cases hr : rightE l with
  | false =>
    have e : edgesB l = [] := by unfold edgesB; rw [hr]; rfl
    rw [e]
    have : (bif decide (0 ≤ n) then decide (n < (([] : List (List Int)).length : Int)) else false) = false := by
      cases h : decide (0 ≤ n) with
      | false => rfl
      | true => have := of_decide_eq_true h; exact decide_eq_false (by simp; omega)
    rw [this]; rfl
  | true =>
    have e : edgesB l = (List.range l.length).map (readsOf l) := by unfold edgesB; rw [hr]; rfl
    rw [e, List.length_map, List.length_range]
    cases h : decide (0 ≤ n) with
    | false => rfl
    | true =>
    cases h' : decide (n < (l.length : Int)) with
    | false => rfl
    | true =>
      have h := of_decide_eq_true h
      have h' := of_decide_eq_true h'
      obtain ⟨i, rfl⟩ : ∃ i : Nat, n = (i : Int) := ⟨n.toNat, by omega⟩
      have hi : i < l.length := by omega
      rw [inb_nat hi, rd_nat, getD_map _ _ hi]
      rfl

theorem E18_0_spec {k : Nat} {l : List Ent} (hl : LOk k l) (h8 : l.length ≤ 1000) {i : Nat} (hi : i < l.length) : ∀ (d m j : Nat) (pre : List Int), l.length - m = d → m ≤ l.length → d < j → pre.length ≤ m →
    E18_0 k j (l, (i : Int), pre, (m : Int), ()) = some (Sum.inl (pre ++ rl (edgeB l i) m l.length, ())) := by
  intro d
  induction d with
  | zero =>
    intro m j pre h1 h2 h3 hq
    have : m = l.length := by omega
    subst this
    match j, h3 with
    | j + 1, _ => rw [E18_0_eq, nlt_nat, rl_end, List.append_nil]; rfl
  | succ d ih =>
    intro m j pre h1 h2 h3 hq
    match j, h3 with
    | j + 1, h3 =>
      have hm : m < l.length := by omega
      rw [E18_0_eq, lt_nat hm, inb_nat hm, inb_nat hi, rd36, rd36, F34_spec (hl.2.2 _ (entAt_mem hi)).2, wrap_nat (by omega), rl_step _ hm]
      rw [show namedB (entAt l i) (entAt l m).1 = edgeB l i m from rfl]
      cases he : edgeB l i m with
      | false => exact ih (m + 1) j pre (by omega) (by omega) (by omega) (by omega)
      | true =>
        have e2 : decide ((pre.length + [(m : Int)].length) * (7 + 1) ≤ 140737488355328) = true := decide_eq_true (by simp; omega)
        have := ih (m + 1) j (pre ++ [(m : Int)]) (by omega) (by omega) (by omega) (by simp; omega)
        rw [List.append_assoc] at this
        show (bif decide ((pre.length + [(m : Int)].length) * (7 + 1) ≤ 140737488355328) then _ else none) = _
        rw [e2]
        exact this
theorem F18_spec {k : Nat} {l : List Ent} (hl : LOk k l) (n : Int) : F18 k (l, n, ()) = some ((readsA l n, ()), ()) := by
  rw [F18_eq]
  refine ob (F13_spec hl) ?_
  dsimp only
  unfold readsA
  rw [dec_lt n 0, show decide ((l.length : Int) ≤ n) = !decide (n < (l.length : Int)) by rw [dec_lt, Bool.not_not]]
  cases hr : rightE l with
  | false => rfl
  | true =>
    cases h : decide (0 ≤ n) with
    | false => rfl
    | true =>
    cases h' : decide (n < (l.length : Int)) with
    | false => rfl
    | true =>
      have h := of_decide_eq_true h
      have h' := of_decide_eq_true h'
      obtain ⟨i, rfl⟩ : ∃ i : Nat, n = (i : Int) := ⟨n.toNat, by omega⟩
      have h8 := rightE_len hr
      have e := E18_0_spec hl (by omega) (show i < l.length by omega) l.length 0 k [] (by omega) (by omega) (by have := hl.2.1; omega) (by simp)
      have e : E18_0 k k (l, (i : Int), [], 0, ()) = _ := e
      show (E18_0 k k (l, (i : Int), [], 0, ())).bind _ = _
      rw [e]
      rfl
end Go.Pv.L16
