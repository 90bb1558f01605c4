/- Layer 07, plainly: the tokens of a text. -/
import Derived.Test.YtgolpihhlfgjbaaDoorPvA07
namespace Go.Pv.L07
open Go Go.Pv Go.Proofs
set_option linter.all false
set_option linter.constructorNameAsVariable false
set_option linter.unusedSectionVars false
set_option linter.unusedVariables false
set_option linter.unusedSimpArgs false

def wrd : List UInt8 := [97, 98, 99, 100, 101, 102, 103, 104, 105, 106, 107, 108, 109, 110, 111, 112, 113, 114, 115, 116, 117, 118, 119, 120, 121, 122, 48, 49, 50, 51, 52, 53, 54, 55, 56, 57, 95]
def dig : List UInt8 := [48, 49, 50, 51, 52, 53, 54, 55, 56, 57]
def blk : List UInt8 := [32, 10]
def isL (c : UInt8) : Bool := bif decide (97 ≤ ((c.toNat : Nat) : Int)) then decide (((c.toNat : Nat) : Int) ≤ 122) else false
def isD (c : UInt8) : Bool := bif decide (48 ≤ ((c.toNat : Nat) : Int)) then decide (((c.toNat : Nat) : Int) ≤ 57) else false
theorem all_bytes {p : UInt8 → Bool} (h : (List.range 256).all (fun n => p (UInt8.ofNat n)) = true) (c : UInt8) : p c = true := by
  have := List.all_eq_true.1 h c.toNat (List.mem_range.2 c.toNat_lt)
  rwa [UInt8.ofNat_toNat] at this
theorem isL_wrd {c : UInt8} (h : isL c = true) : wrd.contains c = true := by
  have := all_bytes (p := fun c => !isL c || wrd.contains c) (by decide +kernel) c
  rw [h] at this; exact this
theorem isD_dig {c : UInt8} (h : isD c = true) : dig.contains c = true := by
  have := all_bytes (p := fun c => !isD c || dig.contains c) (by decide +kernel) c
  rw [h] at this; exact this

/-- A token that a text begins with: its kind, its bytes, how many it has; 0: there is none. -/
noncomputable def oneL (k : Nat) : List UInt8 → Int × List UInt8 × Nat
  | [] => (0, [], 0)
  | c :: r =>
    bif isL c then (bif decide (16 < runL wrd (c :: r)) then (1, [], 0) else (1, (c :: r).take (runL wrd (c :: r)), runL wrd (c :: r)))
    else bif isD c then (bif numK k ((c :: r).take (runL dig (c :: r))) then (2, (c :: r).take (runL dig (c :: r)), runL dig (c :: r)) else (2, [], 0))
    else bif decide (c = 39) then (bif decide (quoL r = 0) then (0, [], 0) else (3, ((c :: r).take (quoL r - 1)).drop 1, quoL r))
    else (4, (c :: r).take (sigL c (c :: r)), sigL c (c :: r))

theorem oneL_cons (k : Nat) (c : UInt8) (r : List UInt8) : oneL k (c :: r) =
    bif isL c then (bif decide (16 < runL wrd (c :: r)) then (1, [], 0) else (1, (c :: r).take (runL wrd (c :: r)), runL wrd (c :: r)))
    else bif isD c then (bif numK k ((c :: r).take (runL dig (c :: r))) then (2, (c :: r).take (runL dig (c :: r)), runL dig (c :: r)) else (2, [], 0))
    else bif decide (c = 39) then (bif decide (quoL r = 0) then (0, [], 0) else (3, ((c :: r).take (quoL r - 1)).drop 1, quoL r))
    else (4, (c :: r).take (sigL c (c :: r)), sigL c (c :: r)) := rfl
theorem quo_some {r : List UInt8} (h : quoL r ≠ 0) : ∃ e, Lib.indexByte r 39 = ((e : Nat) : Int) ∧ quoL r = e + 2 ∧ e < r.length := by
  unfold quoL at h ⊢
  have hge := Lib.indexByte_ge r 39
  by_cases h0 : Lib.indexByte r 39 < 0
  · rw [decide_eq_true h0] at h
    exact absurd rfl h
  · obtain ⟨e, he⟩ := Int.eq_ofNat_of_zero_le (by omega : 0 ≤ Lib.indexByte r 39)
    refine ⟨e, he, ?_, idx_lt he⟩
    revert h
    cases (decide (Lib.indexByte r 39 < 0) || decide (64 < Lib.indexByte r 39)) with
    | true => intro h; exact absurd rfl h
    | false =>
      cases (anyR (fun i => decide ((r.take (Lib.indexByte r 39).toNat).getD i 0 < 32) || decide (126 < (r.take (Lib.indexByte r 39).toNat).getD i 0)) 0 (r.take (Lib.indexByte r 39).toNat).length) with
      | true => intro h; exact absurd rfl h
      | false => intro h; show (Lib.indexByte r 39).toNat + 2 = e + 2; rw [he, Int.toNat_natCast]

theorem two_len {l : List UInt8} (h : two l = true) : 2 ≤ l.length := by
  have : (l.take 2).length = 2 := by
    unfold two at h
    rw [Bool.or_eq_true, Bool.or_eq_true] at h
    rcases h with (h | h) | h <;> rw [of_decide_eq_true h] <;> rfl
  rw [List.length_take] at this; omega
theorem one_le (k : Nat) (l : List UInt8) : (oneL k l).2.2 ≤ l.length := by
  match l with
  | [] => exact Nat.le_refl _
  | c :: r =>
    rw [oneL_cons]
    have e1 := run_le wrd (c :: r)
    have e2 := run_le dig (c :: r)
    cases isL c with
    | true => cases decide (16 < runL wrd (c :: r)) <;> first | exact e1 | exact Nat.zero_le _
    | false =>
      cases isD c with
      | true => cases numK k ((c :: r).take (runL dig (c :: r))) <;> first | exact e2 | exact Nat.zero_le _
      | false =>
        cases decide (c = 39) with
        | true =>
          cases hq : decide (quoL r = 0) with
          | true => exact Nat.zero_le _
          | false =>
            obtain ⟨e, _, h2, h3⟩ := quo_some (of_decide_eq_false hq)
            show quoL r ≤ _
            rw [h2, List.length_cons]; omega
        | false =>
          show sigL c (c :: r) ≤ _
          unfold sigL
          cases ht : two (c :: r) with
          | true => exact two_len ht
          | false => cases decide (0 ≤ Lib.indexByte sgn c) <;> simp

/-- How a token is written. -/
def saidL (kd : Int) (tx : List UInt8) : List UInt8 := bif decide (kd = 3) then 39 :: (tx ++ [39]) else tx
theorem idx_app {l s : List UInt8} {c : UInt8} : ∀ {e : Nat}, Lib.indexByte l c = (e : Int) → Lib.indexByte (l.take (e + 1) ++ s) c = (e : Int) := by
  induction l with
  | nil => intro e h; cases h
  | cons b l ih =>
    intro e h
    unfold Lib.indexByte at h
    rw [List.take_succ_cons, List.cons_append]
    unfold Lib.indexByte
    cases hb : b == c with
    | true => rw [hb] at h; simpa using h
    | false =>
      rw [hb] at h
      simp only [Bool.false_eq_true, if_false] at h ⊢
      have hge := Lib.indexByte_ge l c
      by_cases hm : (Lib.indexByte l c == -1) = true
      · rw [if_pos hm] at h; cases h
      · rw [if_neg hm] at h
        have hm' : Lib.indexByte l c ≠ -1 := by simpa using hm
        obtain ⟨e', rfl⟩ : ∃ e', e = e' + 1 := ⟨e - 1, by omega⟩
        have := ih (e := e') (by omega)
        rw [this, if_neg (by simp)]; rfl
theorem one_local {k : Nat} {l : List UInt8} {kd : Int} {tx : List UInt8} {n : Nat} (h : oneL k l = (kd, tx, n)) (hn : 0 < n) : saidL kd tx = l.take n ∧
    ∀ s : List UInt8, (∀ c, s.head? = some c → c = 32 ∨ (l.drop n).head? = some c) → oneL k (l.take n ++ s) = (kd, tx, n) := by
  match l with
  | [] =>
    have : n = 0 := by
      have := congrArg (·.2.2) h
      exact this.symm
    omega
  | c :: r =>
    rw [oneL_cons] at h
    cases h1 : isL c with
    | true =>
      rw [h1, cond_true] at h
      cases h2 : decide (16 < runL wrd (c :: r)) with
      | true =>
        rw [h2] at h
        injection h with _ h; injection h with _ h
        omega
      | false =>
        rw [h2, cond_false] at h
        injection h with e1 h; injection h with e2 e3
        subst e1 e2 e3
        refine ⟨rfl, fun s hs => ?_⟩
        have hrun : runL wrd ((c :: r).take (runL wrd (c :: r)) ++ s) = ((c :: r).take (runL wrd (c :: r))).length := run_app (fun d hd => by
          rcases hs d hd with rfl | hd
          · rfl
          · exact run_stop _ _ _ hd) _ (run_mem _ _)
        have hlen : ((c :: r).take (runL wrd (c :: r))).length = runL wrd (c :: r) := by rw [List.length_take]; have := run_le wrd (c :: r); omega
        rw [hlen] at hrun
        obtain ⟨m, hm⟩ : ∃ m, runL wrd (c :: r) = m + 1 := ⟨runL wrd (c :: r) - 1, by omega⟩
        rw [hm, List.take_succ_cons, List.cons_append] at hrun ⊢
        rw [oneL_cons]
        rw [hrun, h1, ← hm, h2, cond_true, cond_false]
        congr 2
        rw [hm, List.take_succ_cons, List.take_append_of_le_length (by rw [List.length_take]; rw [hm, List.take_succ_cons, List.length_cons, List.length_take] at hlen; omega)]
        rw [List.take_take, Nat.min_self]
    | false =>
      rw [h1, cond_false] at h
      cases h2 : isD c with
      | true =>
        rw [h2, cond_true] at h
        cases h3 : numK k ((c :: r).take (runL dig (c :: r))) with
        | false =>
          rw [h3] at h
          injection h with _ h; injection h with _ h
          omega
        | true =>
          rw [h3, cond_true] at h
          injection h with e1 h; injection h with e2 e3
          subst e1 e2 e3
          refine ⟨rfl, fun s hs => ?_⟩
          have hrun : runL dig ((c :: r).take (runL dig (c :: r)) ++ s) = ((c :: r).take (runL dig (c :: r))).length := run_app (fun d hd => by
            rcases hs d hd with rfl | hd
            · rfl
            · exact run_stop _ _ _ hd) _ (run_mem _ _)
          have hlen : ((c :: r).take (runL dig (c :: r))).length = runL dig (c :: r) := by rw [List.length_take]; have := run_le dig (c :: r); omega
          rw [hlen] at hrun
          have htk : ((c :: r).take (runL dig (c :: r)) ++ s).take (runL dig (c :: r)) = (c :: r).take (runL dig (c :: r)) := by
            rw [List.take_append_of_le_length (by omega), List.take_take, Nat.min_self]
          obtain ⟨m, hm⟩ : ∃ m, runL dig (c :: r) = m + 1 := ⟨runL dig (c :: r) - 1, by omega⟩
          rw [hm] at htk hrun h3 ⊢
          rw [List.take_succ_cons, List.cons_append] at htk hrun ⊢
          rw [List.take_succ_cons] at h3
          rw [oneL_cons]
          rw [hrun, h1, h2, htk, h3]
          rfl
      | false =>
        rw [h2, cond_false] at h
        cases h3 : decide (c = 39) with
        | true =>
          rw [h3, cond_true] at h
          cases hq : decide (quoL r = 0) with
          | true =>
            rw [hq] at h
            injection h with _ h; injection h with _ h
            omega
          | false =>
            rw [hq, cond_false] at h
            injection h with e1 h; injection h with e2 e3
            have hc := of_decide_eq_true h3
            obtain ⟨e, q1, q2, q3⟩ := quo_some (of_decide_eq_false hq)
            rw [q2] at e2 e3
            subst e1 e2 e3 hc
            have hre : r[e]? = some 39 := (Lib.indexByte_some q1).1
            refine ⟨?_, fun s hs => ?_⟩
            · show 39 :: (((39 :: r).take (e + 1)).drop 1 ++ [39]) = (39 :: r).take (e + 2)
              rw [List.take_succ_cons, List.take_succ_cons, List.drop_succ_cons, List.drop_zero]
              congr 1
              rw [List.take_add_one, hre]; rfl
            · have hq2 : quoL (r.take (e + 1) ++ s) = quoL r := by
                have i1 := idx_app (s := s) q1
                unfold quoL
                rw [i1, q1, Int.toNat_natCast, List.take_append_of_le_length (by rw [List.length_take]; omega), List.take_take, Nat.min_eq_left (by omega)]
              rw [List.take_succ_cons, List.cons_append]
              rw [oneL_cons]
              rw [h1, h2, hq2, hq, q2]
              show ((3 : Int), ((39 :: (r.take (e + 1) ++ s)).take (e + 1)).drop 1, e + 2) = (3, ((39 :: r).take (e + 1)).drop 1, e + 2)
              rw [List.take_succ_cons, List.take_succ_cons, List.take_append_of_le_length (by rw [List.length_take]; omega), List.take_take, Nat.min_eq_left (by omega)]
        | false =>
          rw [h3, cond_false] at h
          injection h with e1 h; injection h with e2 e3
          subst e1 e2 e3
          refine ⟨rfl, fun s hs => ?_⟩
          cases ht : two (c :: r) with
          | true =>
            have hl := two_len ht
            have hsg : ∀ l, two l = true → sigL c l = 2 := fun l h => by unfold sigL; rw [h]; rfl
            have ht2 : two ((c :: r).take 2 ++ s) = true := by
              unfold two at ht ⊢
              rw [List.take_append_of_le_length (by rw [List.length_take]; omega), List.take_take, Nat.min_self]
              exact ht
            rw [hsg _ ht]
            rw [List.take_succ_cons, List.cons_append] at ht2 ⊢
            rw [oneL_cons]
            rw [h1, h2, h3, hsg _ ht2]
            show ((4 : Int), (c :: (r.take 1 ++ s)).take 2, 2) = (4, c :: r.take 1, 2)
            rw [List.take_succ_cons, List.take_append_of_le_length (by rw [List.length_take]; rw [List.length_cons] at hl; omega), List.take_take, Nat.min_self]
          | false =>
            have hsg : ∀ l, two l = false → sigL c l = bif decide (0 ≤ Lib.indexByte sgn c) then 1 else 0 := fun l h => by unfold sigL; rw [h]; rfl
            rw [hsg _ ht] at hn hs ⊢
            cases hz : decide (0 ≤ Lib.indexByte sgn c) with
            | false => rw [hz] at hn; exact absurd hn (Nat.lt_irrefl 0)
            | true =>
              rw [hz] at hs
              have hs : ∀ d, s.head? = some d → d = 32 ∨ r.head? = some d := hs
              show oneL k (c :: s) = (4, [c], 1)
              have ht2 : two (c :: s) = false := by
                unfold two at ht ⊢
                match s, hs with
                | [], _ => simp
                | d :: s, hs =>
                  rcases hs d rfl with rfl | hd
                  · simp
                  · match r, hd with
                    | d' :: r, hd =>
                      injection hd with hd
                      subst hd
                      simpa using ht
              rw [oneL_cons]
              rw [h1, h2, h3, hsg _ ht2, hz]
              rfl
end Go.Pv.L07
