/- Layer 16, plainly: one entry more. -/
import Derived.Test.YtfmcfigoendjiaaGreatPvPureGraphReaders
namespace Go.Pv.L16
open Go Go.Pv Go.Proofs
set_option linter.all false
set_option linter.constructorNameAsVariable false
set_option linter.unusedSectionVars false
set_option linter.unusedVariables false
set_option linter.unusedSimpArgs false

section
variable {l : List Ent} {x : Ent}
theorem ent_app {i : Nat} (hi : i < l.length) : entAt (l ++ [x]) i = entAt l i := by
  unfold entAt
  rw [List.getD_eq_getElem?_getD, List.getElem?_append_left hi, ← List.getD_eq_getElem?_getD]
theorem right_app (h : rightE (l ++ [x]) = true) : rightE l = true := by
  have h8 := rightE_len h
  rw [List.length_append] at h8
  unfold rightE at h ⊢
  cases hb : anyR (badE l) 0 l.length with
  | false => exact decide_eq_true (by simp at h8; omega)
  | true =>
    obtain ⟨m, _, h1, h2⟩ := anyR_iff.1 hb
    have e : badE (l ++ [x]) m = badE l m := by
      unfold badE
      rw [ent_app h1]
      by_cases hm : m = 0
      · rw [decide_eq_true hm]; rfl
      · rw [ent_app (show m - 1 < l.length by omega)]
    have : anyR (badE (l ++ [x])) 0 (l ++ [x]).length = true := anyR_iff.2 ⟨m, Nat.zero_le _, by rw [List.length_append]; omega, by rw [e]; exact h2⟩
    rw [this] at h
    cases h
theorem reads_app (h : ∀ i, i < l.length → edgeB (l ++ [x]) i l.length = false) {i : Nat} (hi : i < l.length) : readsOf (l ++ [x]) i = readsOf l i := by
  unfold readsOf
  rw [List.length_append, List.length_singleton, rl_snoc _ (Nat.zero_le _), h i hi]
  simp only [cond_false, List.append_nil]
  refine rl_congr fun t ht => ?_
  unfold edgeB
  rw [ent_app hi, ent_app ht]
end

section
variable {R R' : Nat → List Int} {n : Nat} (hR : ROk n R) (h1 : ∀ i, i < n → R' i = R i) (h2 : R' n = [])
include hR h1
theorem getD_app {o : List Int} (ho : o.length = n) (v : Int) {t : Nat} (ht : t < n) : (o ++ [v]).getD t 0 = o.getD t 0 := by
  rw [List.getD_eq_getElem?_getD, List.getElem?_append_left (by omega), ← List.getD_eq_getElem?_getD]
theorem ff_app {o : List Int} (ho : o.length = n) (v : Int) {i : Nat} (hi : i < n) : ff R' (o ++ [v]) i = ff R o i := by
  unfold ff
  rw [h1 i hi]
  refine fold_same _ _ fun t ht => ?_
  obtain ⟨a, b⟩ := (hR i).2 t ht
  exact getD_app hR h1 ho v (by omega)
theorem st_app {o : List Int} (ho : o.length = n) (g : Bool) (v : Int) {m : Nat} (hm : m < n) : st R' (o ++ [v], g) m = ((st R (o, g) m).1 ++ [v], (st R (o, g) m).2) := by
  unfold st
  dsimp only
  rw [ff_app hR h1 ho v hm, getD_app hR h1 ho v hm, List.set_append_left _ _ (by omega)]
theorem sw_app : ∀ (d m : Nat) {o : List Int} (g : Bool) (v : Int), n - m = d → m ≤ n → o.length = n → sw R' m n (o ++ [v], g) = ((sw R m n (o, g)).1 ++ [v], (sw R m n (o, g)).2) := by
  intro d
  induction d with
  | zero => intro m o g v a b c; rw [show m = n by omega, sw_end, sw_end]
  | succ d ih =>
    intro m o g v a b c
    rw [sw_step R' (show m < n by omega), sw_step R (show m < n by omega), st_app hR h1 c g v (by omega)]
    exact ih (m + 1) (o := (st R (o, g) m).1) (st R (o, g) m).2 v (by omega) (by omega) (by simp [st, c])
theorem sw_len (m : Nat) (p : List Int × Bool) : (sw R m n p).1.length = p.1.length := by
  unfold sw
  generalize List.range' m (n - m) = q
  induction q generalizing p with
  | nil => rfl
  | cons t q ih => rw [List.foldl_cons, ih]; simp [st]
include h2
theorem sw_more {o : List Int} (ho : o.length = n) (g : Bool) (v : Int) : sw R' 0 (n + 1) (o ++ [v], g) = ((sw R 0 n (o, g)).1 ++ [1], (sw R 0 n (o, g)).2 || decide (v < 1)) := by
  have e : sw R' 0 (n + 1) (o ++ [v], g) = st R' (sw R' 0 n (o ++ [v], g)) n := by
    unfold sw
    rw [Nat.sub_zero, Nat.sub_zero, List.range'_concat, List.foldl_append, Nat.one_mul, Nat.zero_add]
    rfl
  rw [e, sw_app hR h1 n 0 g v (by omega) (by omega) ho]
  have hl := sw_len hR h1 0 (o, g)
  generalize sw R 0 n (o, g) = p at hl
  obtain ⟨p1, p2⟩ := p
  have hl : p1.length = n := hl.trans ho
  unfold st ff
  dsimp only
  rw [h2]
  have e1 : (p1 ++ [v]).getD n 0 = v := by rw [← hl]; simp
  have e2 : (p1 ++ [v]).set n 1 = p1 ++ [1] := by rw [← hl]; simp
  show ((p1 ++ [v]).set n 1, p2 || decide ((p1 ++ [v]).getD n 0 < 1)) = _
  rw [e1, e2]
theorem dep_app : ∀ (d : Nat) {o : List Int}, o.length = n → dep R' (n + 1) d (o ++ [1]) = (dep R n d o).map (· ++ [1])
  | 0, o, _ => rfl
  | d + 1, o, ho => by
    have e := sw_more hR h1 h2 ho false 1
    have hl := sw_len hR h1 0 (o, false)
    unfold dep
    rw [e]
    generalize sw R 0 n (o, false) = p at hl
    obtain ⟨p1, p2⟩ := p
    have hl2 : p1.length = n := hl.trans ho
    cases p2 with
    | false => rfl
    | true => exact dep_app d hl2
end
theorem dep_more {R : Nat → List Int} {n : Nat} : ∀ (d : Nat) {o o' : List Int}, dep R n d o = some o' → dep R n (d + 1) o = some o'
  | 0, o, o', h => by cases h
  | d + 1, o, o', h => by
    unfold dep at h ⊢
    cases hb : (sw R 0 n (o, false)).2 with
    | true => rw [hb] at h; exact dep_more d h
    | false => rw [hb] at h; exact h
theorem ring_none {R : Nat → List Int} {n : Nat} (hR : ROk n R) (h : ∃ i, i < n ∧ Rch R n i i) (r : Nat) : dep R n r (List.replicate n 0) = none := by
  obtain ⟨i, hi, hr⟩ := h
  cases hd : dep R n r (List.replicate n 0) with
  | none => rfl
  | some o =>
    have ho : OOk n 0 (List.replicate n 0) := ⟨by simp, fun t ht => by rw [List.getD_eq_getElem?_getD, List.getElem?_replicate, if_pos ht]; simp⟩
    obtain ⟨_, hf⟩ := dep_some hR _ ho (gr_zero _ _) hd
    have key : ∀ {a c : Nat}, Rch R n a c → o.getD a 0 + 1 ≤ o.getD c 0 := by
      intro a c h
      induction h with
      | base hi ha =>
        have := (fold_le o (R _) 1).2 _ ha
        rw [Int.toNat_natCast] at this
        rw [hf _ hi]; exact this
      | step hi ht _ ih =>
        have := (fold_le o (R _) 1).2 _ ht
        rw [Int.toNat_natCast] at this
        rw [hf _ hi]
        unfold ff
        omega
    have := key hr
    omega
theorem first_grows {R : Nat → List Int} {n : Nat} (hR : ROk n R) (hn : 0 < n) : (sw R 0 n (List.replicate n 0, false)).2 = true := by
  have ho : OOk n 0 (List.replicate n 0) := ⟨by simp, fun t ht => by rw [List.getD_eq_getElem?_getD, List.getElem?_replicate, if_pos ht]; simp⟩
  rw [sw_step R hn]
  refine sw_snd (n - 1) 1 _ (by omega) (by omega) ?_
  rw [st_snd]
  have h1 := (ff_bound hR ho 0).1
  have h2 := (ho.2 0 hn).2
  rw [decide_eq_true (show (List.replicate n (0 : Int)).getD 0 0 < ff R (List.replicate n 0) 0 by omega)]
  rfl
/-- Depths with one entry more that reads none and is read by none. -/
theorem dep_one {R R' : Nat → List Int} {n : Nat} (hR : ROk n R) (h1 : ∀ i, i < n → R' i = R i) (h2 : R' n = []) (hn : 0 < n) : dep R' (n + 1) (n + 1 + 1) (List.replicate (n + 1) 0) = (dep R n (n + 1) (List.replicate n 0)).map (· ++ [1]) := by
  have hg := first_grows hR hn
  have hl := sw_len (n := n) hR h1 0 (List.replicate n 0, false)
  have hl : (sw R 0 n (List.replicate n 0, false)).1.length = n := hl.trans (by simp)
  have e0 : List.replicate (n + 1) (0 : Int) = List.replicate n 0 ++ [0] := List.replicate_succ'
  have e1 : ∀ d, dep R n (d + 1) (List.replicate n 0) = dep R n d (sw R 0 n (List.replicate n 0, false)).1 := fun d => by
    show (bif (sw R 0 n (List.replicate n 0, false)).2 then _ else _) = _
    rw [hg]; rfl
  have e2 : dep R' (n + 1) (n + 1 + 1) (List.replicate n 0 ++ [0]) = dep R' (n + 1) (n + 1) ((sw R 0 n (List.replicate n 0, false)).1 ++ [1]) := by
    show (bif (sw R' 0 (n + 1) (List.replicate n 0 ++ [0], false)).2 then dep R' (n + 1) (n + 1) (sw R' 0 (n + 1) (List.replicate n 0 ++ [0], false)).1 else _) = _
    rw [sw_more hR h1 h2 (by simp) false 0, hg]; rfl
  rw [e0, e2, dep_app hR h1 h2 (n + 1) hl]
  cases hd : dep R n (n + 1) (List.replicate n 0) with
  | some o =>
    rw [e1] at hd
    rw [dep_more n hd]
  | none =>
    have := ring_none hR ((ring_iff hR).1 hd) (n + 1 + 1)
    rw [e1] at this
    rw [this]
theorem deep_app (o : List Int) : deepB (o ++ [1]) = deepB o := by
  unfold deepB
  rw [List.any_append]
  simp
end Go.Pv.L16
