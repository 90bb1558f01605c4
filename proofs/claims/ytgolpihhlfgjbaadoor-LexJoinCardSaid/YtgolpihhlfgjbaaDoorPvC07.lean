/- Layer 07, plainly: reading. -/
import Derived.Test.YtgolpihhlfgjbaaDoorPvB07
namespace Go.Pv.L07
open Go Go.Pv Go.Proofs
set_option linter.all false
set_option linter.constructorNameAsVariable false
set_option linter.unusedSectionVars false
set_option linter.unusedVariables false
set_option linter.unusedSimpArgs false

abbrev Tk := Int × List UInt8 × Nat
/-- The tokens of bytes that begin at a place; and where, behind these, there is none. -/
inductive Lex (k : Nat) : Nat → List UInt8 → List Tk → Option Nat → Prop
  | fin (at_ : Nat) (l : List UInt8) (h : runL blk l = l.length) : Lex k at_ l [] none
  | err (at_ : Nat) (l : List UInt8) (h : runL blk l < l.length) (h1 : (oneL k (l.drop (runL blk l))).2.2 = 0) : Lex k at_ l [] (some (at_ + runL blk l))
  | tok (at_ : Nat) (l : List UInt8) (kd : Int) (tx : List UInt8) (n : Nat) (ts : List Tk) (st : Option Nat) (h : runL blk l < l.length) (h1 : oneL k (l.drop (runL blk l)) = (kd, tx, n)) (h2 : 0 < n)
      (h3 : Lex k (at_ + runL blk l + n) (l.drop (runL blk l + n)) ts st) : Lex k at_ l ((kd, tx, at_ + runL blk l) :: ts) st

theorem lex_ex (k : Nat) : ∀ (m : Nat) (l : List UInt8) (at_ : Nat), l.length ≤ m → ∃ ts st, Lex k at_ l ts st := by
  intro m
  induction m with
  | zero =>
    intro l at_ h
    have : l = [] := List.length_eq_zero_iff.1 (by omega)
    subst this
    exact ⟨_, _, .fin at_ [] rfl⟩
  | succ m ih =>
    intro l at_ h
    have hr := run_le blk l
    by_cases h0 : runL blk l = l.length
    · exact ⟨_, _, .fin at_ l h0⟩
    · by_cases h1 : (oneL k (l.drop (runL blk l))).2.2 = 0
      · exact ⟨_, _, .err at_ l (by omega) h1⟩
      · obtain ⟨ts, st, h2⟩ := ih (l.drop (runL blk l + (oneL k (l.drop (runL blk l))).2.2)) (at_ + runL blk l + (oneL k (l.drop (runL blk l))).2.2) (by have e := List.length_drop (i := runL blk l + (oneL k (l.drop (runL blk l))).2.2) (l := l); omega)
        exact ⟨_, _, .tok at_ l _ _ _ ts st (Nat.lt_of_le_of_ne hr h0) rfl (Nat.pos_of_ne_zero h1) h2⟩

/-! ### what is behind one another -/
theorem run_app_lt {cs : List UInt8} (s : List UInt8) : ∀ l : List UInt8, runL cs l < l.length → runL cs (l ++ s) = runL cs l
  | [], h => absurd h (Nat.lt_irrefl 0)
  | c :: r, h => by
    unfold runL at h ⊢
    rw [List.cons_append]
    cases hc : cs.contains c with
    | true =>
      rw [List.takeWhile_cons_of_pos hc] at h
      rw [List.takeWhile_cons_of_pos hc, List.takeWhile_cons_of_pos hc, List.length_cons, List.length_cons]
      have := run_app_lt (cs := cs) s r (by unfold runL; rw [List.length_cons, List.length_cons] at h; omega)
      unfold runL at this
      rw [this]
    | false => rw [List.takeWhile_cons_of_neg (ncon hc), List.takeWhile_cons_of_neg (ncon hc)]
theorem run_app_eq {cs : List UInt8} (s : List UInt8) : ∀ l : List UInt8, runL cs l = l.length → runL cs (l ++ s) = l.length + runL cs s
  | [], h => by simp
  | c :: r, h => by
    unfold runL at h ⊢
    rw [List.cons_append]
    cases hc : cs.contains c with
    | true =>
      rw [List.takeWhile_cons_of_pos hc, List.length_cons, List.length_cons] at h
      rw [List.takeWhile_cons_of_pos hc, List.length_cons, List.length_cons]
      have := run_app_eq (cs := cs) s r (by unfold runL; omega)
      unfold runL at this
      rw [this]; omega
    | false => rw [List.takeWhile_cons_of_neg (ncon hc)] at h; cases h

/-- Blanks ahead. -/
theorem lex_blanks {k : Nat} {b m : List UInt8} (hb : runL blk b = b.length) {at_ : Nat} {us : List Tk} {st : Option Nat} (h : Lex k (at_ + b.length) m us st) : Lex k at_ (b ++ m) us st := by
  have hr := run_app_eq m b hb
  have hd : (b ++ m).drop (runL blk (b ++ m)) = m.drop (runL blk m) := by rw [hr, ← List.drop_drop, List.drop_left]
  cases h with
  | fin _ _ h => exact .fin _ _ (by rw [hr, List.length_append]; omega)
  | err _ _ h h1 =>
    have := Lex.err (k := k) at_ (b ++ m) (by rw [hr, List.length_append]; omega) (by rw [hd]; exact h1)
    rw [hr] at this
    rwa [Nat.add_assoc]
  | tok _ _ kd tx n ts st h h1 h2 h3 =>
    have := Lex.tok (k := k) at_ (b ++ m) kd tx n ts st (by rw [hr, List.length_append]; omega) (by rw [hd]; exact h1) h2 (by
      rw [hr, show b.length + runL blk m + n = b.length + (runL blk m + n) by omega, ← List.drop_drop, List.drop_left, show at_ + (b.length + runL blk m) = at_ + b.length + runL blk m by omega]
      exact h3)
    rw [hr] at this
    rwa [Nat.add_assoc]
theorem lex_join {k : Nat} {at_ : Nat} {l m : List UInt8} {ts us : List Tk} {st sf : Option Nat} (h : Lex k at_ l ts sf) : sf = none → Lex k (at_ + l.length + 1) m us st → Lex k at_ (l ++ 32 :: m) (ts ++ us) st := by
  induction h with
  | fin at_ l h =>
    intro _ g
    have hb : runL blk (l ++ [32]) = (l ++ [32]).length := by rw [run_app_eq _ _ h, List.length_append]; rfl
    have := lex_blanks (m := m) hb (at_ := at_) (us := us) (st := st) (by rw [List.length_append]; exact g)
    rw [List.append_assoc] at this
    exact this
  | err => intro e; cases e
  | tok at_ l kd tx n ts st' h h1 h2 h3 ih =>
    intro e g
    have hr := run_app_lt (cs := blk) (32 :: m) l h
    have hle := one_le k (l.drop (runL blk l))
    rw [h1, List.length_drop] at hle
    have hle : n ≤ l.length - runL blk l := hle
    have := Lex.tok (k := k) at_ (l ++ 32 :: m) kd tx n (ts ++ us) st (by rw [hr, List.length_append]; omega) (by
      rw [hr, List.drop_append_of_le_length (by omega)]
      have := (one_local h1 h2).2 ((l.drop (runL blk l)).drop n ++ 32 :: m) (fun c hc => by
        rw [List.head?_append] at hc
        cases hd : ((l.drop (runL blk l)).drop n).head? with
        | none => rw [hd] at hc; injection hc with hc; exact .inl hc.symm
        | some d => rw [hd] at hc; exact .inr hc)
      rwa [← List.append_assoc, List.take_append_drop] at this) h2 (by
      rw [hr, List.drop_append_of_le_length (by omega)]
      refine ih e ?_
      rw [List.length_drop, show at_ + runL blk l + n + (l.length - (runL blk l + n)) + 1 = at_ + l.length + 1 by omega]
      exact g)
    rw [hr] at this
    exact this
def shT (d : Nat) (t : Tk) : Tk := (t.1, t.2.1, t.2.2 + d)
theorem lex_shift {k d at_ : Nat} {l : List UInt8} {ts : List Tk} {st : Option Nat} (h : Lex k at_ l ts st) : Lex k (at_ + d) l (ts.map (shT d)) (st.map (· + d)) := by
  induction h with
  | fin at_ l h => exact .fin _ _ h
  | err at_ l h h1 =>
    have := Lex.err (k := k) (at_ + d) l h h1
    rwa [Nat.add_right_comm] at this
  | tok at_ l kd tx n ts st h h1 h2 h3 ih =>
    have := Lex.tok (k := k) (at_ + d) l kd tx n _ _ h h1 h2 (by rw [show at_ + d + runL blk l + n = at_ + runL blk l + n + d by omega]; exact ih)
    rw [Nat.add_right_comm] at this
    exact this

/-! ### Read -/
def toTok (t : Tk) : Int × ByteArray × Int := (t.1, ofL t.2.1, ((t.2.2 : Nat) : Int))
theorem ext_all {a : ByteArray} {at_ : Nat} {l : List UInt8} (h : a.data.toList.drop at_ = l) : (a.extract (Int.toNat (at_ : Int)) ((a.size : Int)).toNat).data.toList = l := by
  rw [ext_tl, Int.toNat_natCast, Int.toNat_natCast, size_tl, List.take_length, h]
theorem F11_spec {k : Nat} {a : ByteArray} {l : List UInt8} (h : a.data.toList = l) (h0 : 0 < l.length) (hk : a.size < min k 4294967296) : F11 k (a, ()) = some (((((oneL k l).1, ofL (oneL k l).2.1, 0), (((oneL k l).2.2 : Nat) : Int), ()), ())) := by
  match l, h0 with
  | c :: r, _ =>
    have hs := size_tl a
    have hle := one_le k (c :: r)
    have hx : ∀ n, (a.extract (Int.toNat 0) (Int.toNat ((n : Nat) : Int))) = ofL ((c :: r).take n) := fun n => ba_ext (by rw [ext_tl, h, Int.toNat_natCast]; rfl)
    have hx0 : (a.extract (Int.toNat 0) (Int.toNat 0)) = ofL [] := ba_ext (by rw [ext_tl, h]; rfl)
    have g1 : inb 0 a.size = true := inb_nat (i := 0) (by rw [hs, h, List.length_cons]; omega)
    have hin : ∀ n : Nat, n ≤ (c :: r).length → inr 0 (n : Int) a.size = true := fun n hn => by rw [← h, ← hs] at hn; simp [inr]; omega
    have hin0 : inr 0 0 a.size = true := hin 0 (Nat.zero_le _)
    have e1 := run_le wrd (c :: r)
    have e2 := run_le dig (c :: r)
    rw [F11_eq, g1, cond_true, bt_cons h, hin0, hx0]
    rw [oneL_cons] at hle ⊢
    rw [show (bif decide (97 ≤ ((c.toNat : Nat) : Int)) then decide (((c.toNat : Nat) : Int) ≤ 122) else false) = isL c from rfl, show (bif decide (48 ≤ ((c.toNat : Nat) : Int)) then decide (((c.toNat : Nat) : Int) ≤ 57) else false) = isD c from rfl]
    rw [F10_spec a _ rfl (by omega), F10_spec a _ rfl (by omega), h]
    rw [show ({ data := #[97, 98, 99, 100, 101, 102, 103, 104, 105, 106, 107, 108, 109, 110, 111, 112, 113, 114, 115, 116, 117, 118, 119, 120, 121, 122, 48, 49, 50, 51, 52, 53, 54, 55, 56, 57, 95] } : ByteArray).data.toList = wrd from rfl, show ({ data := #[48, 49, 50, 51, 52, 53, 54, 55, 56, 57] } : ByteArray).data.toList = dig from rfl]
    cases h1 : isL c with
    | true =>
      dsimp only [Option.bind, cond_true]
      rw [hin _ e1, hx, show decide (16 < ((runL wrd (c :: r) : Nat) : Int)) = decide (16 < runL wrd (c :: r)) from decide_eq_decide.2 (by omega)]
      cases decide (16 < runL wrd (c :: r)) <;> rfl
    | false =>
      rw [cond_false, cond_false]
      cases h2 : isD c with
      | true =>
        have hp : 0 < runL dig (c :: r) := by
          unfold runL; rw [List.takeWhile_cons_of_pos (isD_dig h2), List.length_cons]; omega
        have hln : (ofL ((c :: r).take (runL dig (c :: r)))).size = runL dig (c :: r) := by
          rw [size_tl, ofL_tl, List.length_take]; omega
        dsimp only [Option.bind, cond_true]
        rw [hin _ e2, hx, F15_total _ (by rw [hln]; exact hp) (by rw [hln]; rw [hs, h] at hk; omega), ofL_tl]
        dsimp only [cond_true]
        cases numK k ((c :: r).take (runL dig (c :: r))) <;> rfl
      | false =>
        rw [cond_false, cond_false]
        have h39 : decide (((c.toNat : Nat) : Int) = 39) = decide (c = 39) := by
          rw [decide_eq_decide]
          constructor
          · intro e
            exact UInt8.toNat_inj.1 (by have : c.toNat = 39 := by omega
                                        exact this)
          · rintro rfl; rfl
        rw [h39, F14_spec h]
        cases h3 : decide (c = 39) with
        | true =>
          rw [cond_true, cond_true, F16_spec h (by omega)]
          dsimp only [Option.bind]
          have hc := of_decide_eq_true h3
          cases hq : decide (quoL r = 0) with
          | true => rw [of_decide_eq_true hq]; rfl
          | false =>
            obtain ⟨e, q1, q2, q3⟩ := quo_some (of_decide_eq_false hq)
            rw [decide_eq_false (by omega : ¬ ((quoL r : Nat) : Int) = 0), q2]
            dsimp only [cond_false]
            have hw : IntKind.i64.wrap (((e + 2 : Nat) : Int) - 1) = ((e + 1 : Nat) : Int) := by rw [hs, h, List.length_cons] at hk; rw [wrap_le (by omega) (by omega)]; omega
            rw [hw, show inr 1 ((e + 1 : Nat) : Int) a.size = true by rw [hs, h]; simp [inr]; omega]
            have hy : (a.extract (Int.toNat 1) (Int.toNat ((e + 1 : Nat) : Int))) = ofL (((c :: r).take (e + 2 - 1)).drop 1) := ba_ext (by rw [ext_tl, h, Int.toNat_natCast]; rfl)
            rw [hy]; rfl
        | false =>
          dsimp only [Option.bind, cond_false]
          rw [h1, h2, h3] at hle
          have hle : sigL c (c :: r) ≤ (c :: r).length := hle
          rw [hin _ hle, hx]
          rfl

def resE (out : List (Int × ByteArray × Int)) (ts : List Tk) : Option Nat → XD X7_0
  | none => Sum.inl (out ++ ts.map toTok, ())
  | some p => Sum.inr (Sum.inl ([], 71, (p : Int), ()))
/-- A loop's state: how many bytes of blanks are ahead. -/
theorem E7_0_spec {k : Nat} {a : ByteArray} (ha : a.size ≤ 600) (hk : 5000000000 < k) {at_ : Nat} {l : List UInt8} {ts : List Tk} {st : Option Nat} (h : Lex k at_ l ts st) :
    a.data.toList.drop at_ = l → at_ ≤ a.size → ∀ (j : Nat) (out : List (Int × ByteArray × Int)), l.length < j → out.length ≤ 128 →
      (128 < out.length + ts.length → ∃ p, E7_0 k j (a, out, ((at_ + runL blk l : Nat) : Int), ()) = some (Sum.inr (Sum.inl ([], 2, p, ())))) ∧
      (out.length + ts.length ≤ 128 → E7_0 k j (a, out, ((at_ + runL blk l : Nat) : Int), ()) = some (resE out ts st)) := by
  have hs := size_tl a
  induction h with
  | fin at_ l h =>
    intro hd hle j out hj ho
    have hll : l.length = a.size - at_ := by rw [← hd, List.length_drop, hs]
    match j, hj with
    | j + 1, hj =>
      refine ⟨fun e => absurd e (by simp; omega), fun _ => ?_⟩
      rw [E7_0_eq, decide_eq_false (by omega : ¬ ((at_ + runL blk l : Nat) : Int) < (a.size : Int))]
      exact congrArg (fun z : List (Int × ByteArray × Int) => (some (Sum.inl (z, ())) : Option (XD X7_0))) (List.append_nil out).symm
  | err at_ l h h1 =>
    intro hd hle j out hj ho
    have hll : l.length = a.size - at_ := by rw [← hd, List.length_drop, hs]
    have hd2 : a.data.toList.drop (at_ + runL blk l) = l.drop (runL blk l) := by rw [← hd, List.drop_drop]
    match j, hj with
    | j + 1, hj =>
      refine ⟨fun e => absurd e (by simp; omega), fun _ => ?_⟩
      rw [E7_0_eq, decide_eq_true (by omega : ((at_ + runL blk l : Nat) : Int) < (a.size : Int)), show inr ((at_ + runL blk l : Nat) : Int) (a.size : Int) a.size = true by simp [inr]; omega]
      have e0 := ext_all hd2
      have e1 := size_tl (a.extract (Int.toNat ((at_ + runL blk l : Nat) : Int)) ((a.size : Int)).toNat)
      rw [e0, List.length_drop] at e1
      rw [F11_spec e0 (by rw [List.length_drop]; omega) (by rw [e1]; omega), h1]
      rfl
  | tok at_ l kd tx n ts st h h1 h2 h3 ih =>
    intro hd hle j out hj ho
    have hll : l.length = a.size - at_ := by rw [← hd, List.length_drop, hs]
    have hd2 : a.data.toList.drop (at_ + runL blk l) = l.drop (runL blk l) := by rw [← hd, List.drop_drop]
    have hd3 : a.data.toList.drop (at_ + runL blk l + n) = l.drop (runL blk l + n) := by rw [← hd, List.drop_drop, Nat.add_assoc]
    have hn := one_le k (l.drop (runL blk l))
    rw [h1, List.length_drop] at hn
    have hn : n ≤ l.length - runL blk l := hn
    match j, hj with
    | j + 1, hj =>
      have e0 := ext_all hd2
      have e1 := size_tl (a.extract (Int.toNat ((at_ + runL blk l : Nat) : Int)) ((a.size : Int)).toNat)
      rw [e0, List.length_drop] at e1
      have hw : IntKind.i64.wrap (((at_ + runL blk l : Nat) : Int) + (n : Int)) = ((at_ + runL blk l + n : Nat) : Int) := by rw [wrap_le (by omega) (by omega)]; omega
      have e2 := ext_all hd3
      have e3 := size_tl (a.extract (Int.toNat ((at_ + runL blk l + n : Nat) : Int)) ((a.size : Int)).toNat)
      rw [e2, List.length_drop] at e3
      have hr2 := run_le blk (l.drop (runL blk l + n))
      rw [List.length_drop] at hr2
      have hw2 : IntKind.i64.wrap (((at_ + runL blk l + n : Nat) : Int) + ((runL blk (l.drop (runL blk l + n)) : Nat) : Int)) = ((at_ + runL blk l + n + runL blk (l.drop (runL blk l + n)) : Nat) : Int) := by rw [wrap_le (by omega) (by omega)]; omega
      have step : E7_0 k (j + 1) (a, out, ((at_ + runL blk l : Nat) : Int), ()) = bif decide ((out.length : Int) = 128) then some (Sum.inr (Sum.inl ([], 2, ((at_ + runL blk l : Nat) : Int), ()))) else E7_0 k j (a, out ++ [toTok (kd, tx, at_ + runL blk l)], ((at_ + runL blk l + n + runL blk (l.drop (runL blk l + n)) : Nat) : Int), ()) := by
        rw [E7_0_eq, decide_eq_true (by omega : ((at_ + runL blk l : Nat) : Int) < (a.size : Int)), show inr ((at_ + runL blk l : Nat) : Int) (a.size : Int) a.size = true by simp [inr]; omega]
        rw [F11_spec e0 (by rw [List.length_drop]; omega) (by rw [e1]; omega), h1]
        dsimp only [Option.bind, cond_true]
        rw [decide_eq_false (by omega : ¬ (n : Int) = 0)]
        dsimp only [cond_false]
        rw [hw, show inr ((at_ + runL blk l + n : Nat) : Int) (a.size : Int) a.size = true by simp [inr]; omega]
        rw [F10_spec _ _ rfl (by rw [e3]; omega), e2]
        dsimp only [cond_true]
        rw [show ([32, 10] : List UInt8) = blk from rfl, hw2]
        by_cases hx : out.length = 128
        · rw [decide_eq_true (by omega : (out.length : Int) = 128)]; rfl
        · rw [decide_eq_false (by omega : ¬ (out.length : Int) = 128), decide_eq_true (by simp only [List.length_singleton]; omega : (out.length + [(kd, ofL tx, ((at_ + runL blk l : Nat) : Int))].length) * (31 + 1) ≤ 140737488355328)]
          rfl
      rw [step]
      by_cases hx : out.length = 128
      · rw [decide_eq_true (by omega : (out.length : Int) = 128)]
        exact ⟨fun _ => ⟨_, rfl⟩, fun e => absurd e (by rw [List.length_cons]; omega)⟩
      · rw [decide_eq_false (by omega : ¬ (out.length : Int) = 128), cond_false]
        have := ih hd3 (by omega) j (out ++ [toTok (kd, tx, at_ + runL blk l)]) (by rw [List.length_drop]; omega) (by rw [List.length_append, List.length_singleton]; omega)
        rw [List.length_append, List.length_singleton] at this
        rw [List.length_cons]
        refine ⟨fun e => this.1 (by omega), fun e => (this.2 (by omega)).trans ?_⟩
        cases st with
        | some p => rfl
        | none => exact congrArg (fun z : List (Int × ByteArray × Int) => (some (Sum.inl (z, ())) : Option (XD X7_0))) (by rw [List.append_assoc]; rfl)
/-- What Read tells. -/
theorem F7_spec {k : Nat} {a : ByteArray} (ha : a.size ≤ 512) (hk : 5000000000 < k) {ts : List Tk} {st : Option Nat} (h : Lex k 0 a.data.toList ts st) :
    (128 < ts.length → ∃ p, F7 k (a, ()) = some (([], 2, p, ()), ())) ∧
    (ts.length ≤ 128 → F7 k (a, ()) = match st with
      | none => some ((ts.map toTok, 0, 0, ()), ())
      | some p => some (([], 71, (p : Int), ()), ())) := by
  have hs := size_tl a
  have := E7_0_spec (a := a) (by omega) hk h rfl (Nat.zero_le _) k [] (by omega) (by decide)
  have hF : F7 k (a, ()) = _ := F7_eq k a
  rw [decide_eq_false (by omega : ¬ (512 : Int) < (a.size : Int)), F10_spec a _ rfl (by omega), show ({ data := #[32, 10] } : ByteArray).data.toList = blk from rfl] at hF
  dsimp only [Option.bind, cond_false] at hF
  rw [Nat.zero_add, List.length_nil, Nat.zero_add] at this
  refine ⟨fun e => ?_, fun e => ?_⟩
  · obtain ⟨p, hp⟩ := this.1 e
    rw [hp] at hF
    exact ⟨p, hF⟩
  · rw [this.2 e] at hF
    cases st <;> exact hF
theorem F7_great {k : Nat} {a : ByteArray} (ha : 512 < a.size) : F7 k (a, ()) = some (([], 2, 0, ()), ()) := by
  rw [F7_eq, decide_eq_true (by omega : (512 : Int) < (a.size : Int))]
  rfl
end Go.Pv.L07
