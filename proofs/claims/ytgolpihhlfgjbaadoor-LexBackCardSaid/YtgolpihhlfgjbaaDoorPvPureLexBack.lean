/- Layer 07: LexBack, plainly. -/
import Derived.Test.YtgolpihhlfgjbaaDoorPvD07
namespace Go.Pv.L07
open Go Go.Pv Go.Proofs
set_option linter.all false
set_option linter.constructorNameAsVariable false
set_option linter.unusedSectionVars false
set_option linter.unusedVariables false
set_option linter.unusedSimpArgs false

/-- Tokens as they are written, a blank between each two. -/
def joinL : List Tk → List UInt8
  | [] => []
  | [t] => saidL t.1 t.2.1
  | t :: u :: r => saidL t.1 t.2.1 ++ 32 :: joinL (u :: r)
def restL : List Tk → List UInt8
  | [] => []
  | t :: r => 32 :: (saidL t.1 t.2.1 ++ restL r)
theorem join_rest : ∀ (t : Tk) (r : List Tk), joinL (t :: r) = saidL t.1 t.2.1 ++ restL r
  | t, [] => by unfold joinL restL; rw [List.append_nil]
  | t, u :: r => by
    show saidL t.1 t.2.1 ++ 32 :: joinL (u :: r) = _
    rw [join_rest u r]; rfl

theorem lex_one {k : Nat} {l : List UInt8} {kd : Int} {tx : List UInt8} {n : Nat} (h : runL blk l < l.length) (h1 : oneL k (l.drop (runL blk l)) = (kd, tx, n)) (h2 : 0 < n) (at_ : Nat) : Lex k at_ (saidL kd tx) [(kd, tx, at_)] none := by
  obtain ⟨e1, e2⟩ := one_local h1 h2
  have hn := one_le k (l.drop (runL blk l))
  rw [h1] at hn
  have hn : n ≤ (l.drop (runL blk l)).length := hn
  have e3 := e2 [] (fun c hc => by cases hc)
  rw [List.append_nil, ← e1] at e3
  have hlen : (saidL kd tx).length = n := by rw [e1, List.length_take]; omega
  have hr : runL blk (saidL kd tx) = 0 := by
    cases hd : l.drop (runL blk l) with
    | nil => rw [hd] at hn; simp at hn; omega
    | cons c r =>
      have := run_stop blk l c (by rw [hd]; rfl)
      rw [hd] at e1
      obtain ⟨m, rfl⟩ : ∃ m, n = m + 1 := ⟨n - 1, by omega⟩
      rw [e1, List.take_succ_cons]
      unfold runL
      rw [List.takeWhile_cons_of_neg (ncon this)]; rfl
  have := Lex.tok (k := k) at_ (saidL kd tx) kd tx n [] none (by omega) (by rw [hr, List.drop_zero]; exact e3) h2 (by
    have : (saidL kd tx).drop (runL blk (saidL kd tx) + n) = [] := by rw [hr, List.drop_eq_nil_iff]; omega
    rw [this]
    exact .fin _ _ rfl)
  rw [hr] at this
  exact this
/-- Written so, tokens are read alike. -/
theorem lex_back {k : Nat} {at_ : Nat} {l : List UInt8} {ts : List Tk} {st : Option Nat} (h : Lex k at_ l ts st) : ∀ a, ∃ us, Lex k a (joinL ts) us none ∧ us.map (fun t => (t.1, t.2.1)) = ts.map (fun t => (t.1, t.2.1)) := by
  induction h with
  | fin => exact fun a => ⟨[], .fin _ _ rfl, rfl⟩
  | err => exact fun a => ⟨[], .fin _ _ rfl, rfl⟩
  | tok at_ l kd tx n ts st h h1 h2 h3 ih =>
    intro a
    have h0 := lex_one h h1 h2 a
    match ts, ih with
    | [], _ => exact ⟨_, h0, rfl⟩
    | u :: r, ih =>
      obtain ⟨us, hu, hm⟩ := ih (a + (saidL kd tx).length + 1)
      refine ⟨(kd, tx, a) :: us, ?_, ?_⟩
      · exact lex_join h0 rfl hu
      · rw [List.map_cons, hm]; rfl
theorem said_len {k : Nat} {at_ : Nat} {l : List UInt8} {ts : List Tk} {st : Option Nat} (h : Lex k at_ l ts st) : ∀ t, t ∈ ts → (saidL t.1 t.2.1).length ≤ l.length ∧ t.2.1.length ≤ l.length := by
  induction h with
  | fin => intro t ht; simp at ht
  | err => intro t ht; simp at ht
  | tok at_ l kd tx n ts st h h1 h2 h3 ih =>
    have hn := one_le k (l.drop (runL blk l))
    rw [h1, List.length_drop] at hn
    have hn : n ≤ l.length - runL blk l := hn
    intro t ht
    rcases List.mem_cons.1 ht with rfl | ht
    · have hsaid := (one_local h1 h2).1
      have hsl : (saidL kd tx).length = n := by rw [hsaid, List.length_take, List.length_drop]; omega
      have htx : tx.length ≤ n := by
        rw [← hsl]
        unfold saidL
        cases decide (kd = 3) with
        | false => exact Nat.le_refl _
        | true => simp; omega
      exact ⟨by show (saidL kd tx).length ≤ _; omega, by show tx.length ≤ _; omega⟩
    · have := ih t ht
      rw [List.length_drop] at this
      omega

theorem rd_tok {ts : List Tk} {i : Nat} (hi : i < ts.length) : rd (Ty.p (Ty.i IntKind.i64) (Ty.p Ty.s (Ty.i IntKind.i64))) (ts.map toTok) (i : Int) = toTok ts[i] := by
  rw [rd_nat, List.getD_eq_getElem?_getD, List.getElem?_map, List.getElem?_eq_getElem hi]; rfl
/-- The text that is built. -/
theorem E3_0_spec {k : Nat} {up : Bool} {ts : List Tk} (hl : ts.length ≤ 200) (hb : ∀ t, t ∈ ts → (saidL t.1 t.2.1).length ≤ 1000 ∧ t.2.1.length ≤ 1000) : ∀ (d i j : Nat) (s : List UInt8), ts.length - i = d → 0 < i → i ≤ ts.length → d < j → s.length ≤ 2000 * i →
    E3_0 k j (up, ts.map toTok, ofL s, (i : Int), ()) = some (Sum.inl (up, ts.map toTok, ofL (s ++ restL (ts.drop i)), ())) := by
  have hml : (ts.map toTok).length = ts.length := List.length_map _
  intro d
  induction d with
  | zero =>
    intro i j s h1 h0 h2 h3 h4
    have : i = ts.length := by omega
    subst this
    match j, h3 with
    | j + 1, _ =>
      rw [E3_0_eq, hml, nlt_nat, List.drop_length]
      show some (Sum.inl (up, ts.map toTok, ofL s, ())) = some (Sum.inl (up, ts.map toTok, ofL (s ++ []), ()))
      rw [List.append_nil]
  | succ d ih =>
    intro i j s h1 h0 h2 h3 h4
    match j, h3 with
    | j + 1, h3 =>
      have hi : i < ts.length := by omega
      have hbi := hb ts[i] (List.getElem_mem hi)
      have es := size_tl (ofL s)
      rw [ofL_tl] at es
      have e1 : (ofL s ++ ({ data := #[32] } : ByteArray)) = ofL (s ++ [32]) := ba_ext (by rw [app_tl, ofL_tl, ofL_tl])
      have es1 := size_tl (ofL (s ++ [32]))
      rw [ofL_tl, List.length_append, List.length_singleton] at es1
      have e2 : ofL (s ++ [32]) ++ ofL (saidL ts[i].1 ts[i].2.1) = ofL (s ++ [32] ++ saidL ts[i].1 ts[i].2.1) := ba_ext (by rw [app_tl, ofL_tl, ofL_tl, ofL_tl])
      have es2 := size_tl (ofL (saidL ts[i].1 ts[i].2.1))
      rw [ofL_tl] at es2
      have e0 : ({ data := #[32] } : ByteArray).size = 1 := rfl
      have hnext := ih (i + 1) j (s ++ [32] ++ saidL ts[i].1 ts[i].2.1) (by omega) (by omega) (by omega) (by omega) (by simp only [List.length_append, List.length_singleton]; omega)
      rw [show (((i + 1 : Nat)) : Int) = (i : Int) + 1 by omega] at hnext
      rw [E3_0_eq, hml, lt_nat hi, decide_eq_true (by omega : (0 : Int) < (i : Int)), inb_nat hi, rd_tok hi, F8_spec _ (by omega), wrap_nat (by omega), e0, e1]
      dsimp only [cond_true, Option.bind]
      rw [es, es1, es2, e2, decide_eq_true (by omega : s.length + 1 ≤ 9223372036854775807), decide_eq_true (by omega : s.length + 1 + (saidL ts[i].1 ts[i].2.1).length ≤ 9223372036854775807), hnext]
      dsimp only [cond_true]
      have hd : ts.drop i = ts[i] :: ts.drop (i + 1) := List.drop_eq_getElem_cons hi
      rw [hd, show restL (ts[i] :: ts.drop (i + 1)) = 32 :: (saidL ts[i].1 ts[i].2.1 ++ restL (ts.drop (i + 1))) from rfl]
      have : s ++ [32] ++ saidL ts[i].1 ts[i].2.1 ++ restL (ts.drop (i + 1)) = s ++ 32 :: (saidL ts[i].1 ts[i].2.1 ++ restL (ts.drop (i + 1))) := by simp
      rw [this]
theorem E3_0_all {k : Nat} {up : Bool} {ts : List Tk} (hl : ts.length ≤ 200) (hb : ∀ t, t ∈ ts → (saidL t.1 t.2.1).length ≤ 1000 ∧ t.2.1.length ≤ 1000) : ∀ j, 1000 < j →
    E3_0 k j (up, ts.map toTok, ({ data := #[] } : ByteArray), 0, ()) = some (Sum.inl (up, ts.map toTok, ofL (joinL ts), ()))
  | j + 1, hj => by
    match ts, hl, hb with
    | [], _, _ => rw [E3_0_eq]; rfl
    | t :: r, hl, hb =>
      have hb0 := hb t List.mem_cons_self
      have hml : ((t :: r).map toTok).length = r.length + 1 := by rw [List.length_map]; rfl
      have es2 := size_tl (ofL (saidL t.1 t.2.1))
      rw [ofL_tl] at es2
      have e0 : ({ data := #[] } : ByteArray).size = 0 := rfl
      have e1 : ({ data := #[] } : ByteArray) ++ ofL (saidL t.1 t.2.1) = ofL (saidL t.1 t.2.1) := ba_ext (by rw [app_tl, ofL_tl]; rfl)
      have hnext := E3_0_spec (k := k) (up := up) hl hb r.length 1 j (saidL t.1 t.2.1) (by simp) (by omega) (by simp) (by simp at hl; omega) (by omega)
      have hr : rd (Ty.p (Ty.i IntKind.i64) (Ty.p Ty.s (Ty.i IntKind.i64))) ((t :: r).map toTok) 0 = toTok t := rd_tok (ts := t :: r) (i := 0) (by simp)
      rw [E3_0_eq, hml, decide_eq_true (by omega : (0 : Int) < ((r.length + 1 : Nat) : Int)), decide_eq_false (by omega : ¬ (0 : Int) < 0), show inb 0 (r.length + 1) = true from inb_nat (i := 0) (by omega), hr, F8_spec _ (by omega), wrap_le (by omega) (by omega), e0]
      dsimp only [cond_true, cond_false, Option.bind]
      rw [es2, e1, decide_eq_true (by omega : 0 + (saidL t.1 t.2.1).length ≤ 9223372036854775807)]
      dsimp only [cond_true]
      refine Eq.trans hnext ?_
      rw [join_rest]; rfl
theorem E3_1_spec {k : Nat} {up : Bool} {ts us : List Tk} (hl : ts.length ≤ 200) (hm : us.map (fun t => (t.1, t.2.1)) = ts.map (fun t => (t.1, t.2.1))) : ∀ (d i j : Nat), ts.length - i = d → i ≤ ts.length → d < j →
    E3_1 k j (up, ts.map toTok, us.map toTok, (i : Int), ()) = some (Sum.inl (up, ())) := by
  have hml : (ts.map toTok).length = ts.length := List.length_map _
  have hlu : us.length = ts.length := by have := congrArg List.length hm; rwa [List.length_map, List.length_map] at this
  have hmu : (us.map toTok).length = ts.length := by rw [List.length_map, hlu]
  intro d
  induction d with
  | zero =>
    intro i j h1 h2 h3
    have : i = ts.length := by omega
    subst this
    match j, h3 with
    | j + 1, _ => rw [E3_1_eq, hml, nlt_nat]; rfl
  | succ d ih =>
    intro i j h1 h2 h3
    match j, h3 with
    | j + 1, h3 =>
      have hi : i < ts.length := by omega
      have hnext := ih (i + 1) j (by omega) (by omega) (by omega)
      rw [show (((i + 1 : Nat)) : Int) = (i : Int) + 1 by omega] at hnext
      have he : (us[i].1, us[i].2.1) = (ts[i].1, ts[i].2.1) := by
        have := congrArg (fun l => l[i]?) hm
        simp only [List.getElem?_map, List.getElem?_eq_getElem hi, List.getElem?_eq_getElem (show i < us.length by omega)] at this
        simpa using this
      injection he with he1 he2
      rw [E3_1_eq, hml, hmu, lt_nat hi, inb_nat hi, rd_tok hi, rd_tok (by omega), wrap_nat (by omega), hnext]
      unfold toTok
      dsimp only
      rw [he1, he2]
      simp

theorem PureLexBack (x : shsDen (argSh [T9])) (hok : okAll [T9] x) : ∃ k z, F3 k x = some ((true, ()), z) := by
  obtain ⟨a, u⟩ := x
  refine ⟨10000000000, (), ?_⟩
  generalize hkk : 10000000000 = k
  have hk : 5000000000 < k := by omega
  show F3 k (a, ()) = _
  rw [F3_eq, head_at (by omega)]
  dsimp only [Option.bind]
  cases h3 : decide ((3000 : Int) < (a.size : Int)) with
  | true => rfl
  | false =>
    rw [cond_false]
    by_cases h5 : 512 < a.size
    · rw [F7_great h5]; rfl
    · obtain ⟨ts, st, hl⟩ := lex_ex k a.data.toList.length a.data.toList 0 (Nat.le_refl _)
      obtain ⟨f1, f2⟩ := F7_spec (by omega) hk hl
      by_cases hn : 128 < ts.length
      · obtain ⟨p, hp⟩ := f1 hn
        rw [hp]; rfl
      · have hp := f2 (by omega)
        cases st with
        | some p => rw [hp]; rfl
        | none =>
          rw [hp]
          dsimp only
          have hb : ∀ t, t ∈ ts → (saidL t.1 t.2.1).length ≤ 1000 ∧ t.2.1.length ≤ 1000 := fun t ht => by
            have := said_len hl t ht
            rw [← size_tl] at this
            omega
          rw [show (!decide ((0 : Int) = 0)) = false from rfl, cond_false, E3_0_all (by omega) hb k (by omega)]
          dsimp only
          obtain ⟨us, hu, hm⟩ := lex_back hl 0
          have hlu : us.length = ts.length := by have := congrArg List.length hm; rwa [List.length_map, List.length_map] at this
          by_cases h6 : 512 < (ofL (joinL ts)).size
          · rw [F7_great h6, decide_eq_true (by omega : (512 : Int) < ((ofL (joinL ts)).size : Int))]
            rfl
          · have hq := (F7_spec (a := ofL (joinL ts)) (by omega) hk hu).2 (by omega)
            rw [hq, decide_eq_false (by omega : ¬ (512 : Int) < ((ofL (joinL ts)).size : Int))]
            dsimp only [cond_false]
            rw [List.length_map, List.length_map, hlu, decide_eq_true (rfl : (ts.length : Int) = (ts.length : Int)), show (!decide ((0 : Int) = 0)) = false from rfl]
            have key := E3_1_spec (k := k) (up := true) (ts := ts) (us := us) (by omega) hm ts.length 0 k (by omega) (by omega) (by omega)
            have key : E3_1 k k (true, ts.map toTok, us.map toTok, 0, ()) = _ := key
            dsimp only [cond_false, Bool.not_true]
            rw [key]
            rfl
end Go.Pv.L07
