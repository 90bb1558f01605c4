/- Layer 07: LexJoin, plainly. -/
import Derived.Test.YtgolpihhlfgjbaaDoorPvD07
namespace Go.Pv.L07
open Go Go.Pv Go.Proofs
set_option linter.all false
set_option linter.constructorNameAsVariable false
set_option linter.unusedSectionVars false
set_option linter.unusedVariables false
set_option linter.unusedSimpArgs false

theorem E5_0_spec {k : Nat} {a : ByteArray} {up : Bool} {xs ys : List Tk} (hx : xs.length ≤ 1000) (hy : ys.length ≤ 1000) (ha : a.size ≤ 1000) (hys : ∀ t, t ∈ ys → t.2.2 ≤ 1000000) : ∀ (d i j : Nat), xs.length + ys.length - i = d → i ≤ xs.length + ys.length → d < j →
    E5_0 k j (a, up, xs.map toTok, ys.map toTok, (xs ++ ys.map (shT (a.size + 1))).map toTok, (i : Int), ()) = some (Sum.inl (up, ())) := by
  have hz : ((xs ++ ys.map (shT (a.size + 1))).map toTok).length = xs.length + ys.length := by simp
  have hxl : (xs.map toTok).length = xs.length := List.length_map _
  have hyl : (ys.map toTok).length = ys.length := List.length_map _
  intro d
  induction d with
  | zero =>
    intro i j h1 h2 h3
    have : i = xs.length + ys.length := by omega
    subst this
    match j, h3 with
    | j + 1, _ =>
      rw [E5_0_eq, hz, nlt_nat]
      rfl
  | succ d ih =>
    intro i j h1 h2 h3
    match j, h3 with
    | j + 1, h3 =>
      have hi : i < xs.length + ys.length := by omega
      have hnext := ih (i + 1) j (by omega) (by omega) (by omega)
      rw [show (((i + 1 : Nat)) : Int) = (i : Int) + 1 by omega] at hnext
      by_cases hlt : i < xs.length
      · have hr : rd (Ty.p (Ty.i IntKind.i64) (Ty.p Ty.s (Ty.i IntKind.i64))) ((xs ++ ys.map (shT (a.size + 1))).map toTok) (i : Int) = rd (Ty.p (Ty.i IntKind.i64) (Ty.p Ty.s (Ty.i IntKind.i64))) (xs.map toTok) (i : Int) := by
          rw [rd_nat, rd_nat, List.getD_eq_getElem?_getD, List.getD_eq_getElem?_getD, List.map_append, List.getElem?_append_left (by rw [hxl]; exact hlt)]
        rw [E5_0_eq, hz, hxl, lt_nat hi, lt_nat hlt, inb_nat hi, inb_nat hlt, hr, decide_eq_false (by omega : ¬ (xs.length : Int) ≤ (i : Int)), wrap_nat (by omega), hnext]
        simp
      · obtain ⟨m, rfl⟩ : ∃ m, i = xs.length + m := ⟨i - xs.length, by omega⟩
        have hm : m < ys.length := by omega
        have hsub : IntKind.i64.wrap (((xs.length + m : Nat) : Int) - (xs.length : Int)) = (m : Int) := by rw [wrap_le (by omega) (by omega)]; omega
        have hry : rd (Ty.p (Ty.i IntKind.i64) (Ty.p Ty.s (Ty.i IntKind.i64))) (ys.map toTok) (m : Int) = toTok ys[m] := by
          rw [rd_nat, List.getD_eq_getElem?_getD, List.getElem?_map, List.getElem?_eq_getElem hm]; rfl
        have hrz : rd (Ty.p (Ty.i IntKind.i64) (Ty.p Ty.s (Ty.i IntKind.i64))) ((xs ++ ys.map (shT (a.size + 1))).map toTok) ((xs.length + m : Nat) : Int) = toTok (shT (a.size + 1) ys[m]) := by
          rw [rd_nat, List.getD_eq_getElem?_getD, List.map_append, List.getElem?_append_right (by rw [hxl]; omega), hxl, Nat.add_sub_cancel_left, List.getElem?_map, List.getElem?_map, List.getElem?_eq_getElem hm]; rfl
        have hb := hys ys[m] (List.getElem_mem hm)
        have e3 : IntKind.i64.wrap (IntKind.i64.wrap (((ys[m].2.2 : Nat) : Int) + (a.size : Int)) + 1) = ((ys[m].2.2 + (a.size + 1) : Nat) : Int) := by
          rw [wrap_le (x := ((ys[m].2.2 : Nat) : Int) + (a.size : Int)) (by omega) (by omega), wrap_le (by omega) (by omega)]; omega
        rw [E5_0_eq, hz, hxl, hyl, lt_nat hi, decide_eq_false (by omega : ¬ ((xs.length + m : Nat) : Int) < (xs.length : Int)), hsub, hry, hrz, inb_nat hi, inb_nat hm, decide_eq_true (by omega : (xs.length : Int) ≤ ((xs.length + m : Nat) : Int)), wrap_nat (by omega), hnext]
        unfold toTok shT
        dsimp only
        rw [e3]
        simp
theorem lex_at {k at_ : Nat} {l : List UInt8} {ts : List Tk} {st : Option Nat} (h : Lex k at_ l ts st) : (∀ t, t ∈ ts → t.2.2 ≤ at_ + l.length) ∧ ∀ p, st = some p → p ≤ at_ + l.length := by
  induction h with
  | fin => exact ⟨fun t ht => by simp at ht, fun p hp => by cases hp⟩
  | err at_ l h h1 => exact ⟨fun t ht => by simp at ht, fun p hp => by injection hp; omega⟩
  | tok at_ l kd tx n ts st h h1 h2 h3 ih =>
    have hn := one_le k (l.drop (runL blk l))
    rw [h1, List.length_drop] at hn
    have hn : n ≤ l.length - runL blk l := hn
    rw [List.length_drop] at ih
    refine ⟨fun t ht => ?_, fun p hp => ?_⟩
    · rcases List.mem_cons.1 ht with rfl | ht
      · show at_ + runL blk l ≤ _; omega
      · have := ih.1 t ht; omega
    · have := ih.2 p hp; omega

theorem PureLexJoin (x : shsDen (argSh [T9, T9])) (hok : okAll [T9, T9] x) : ∃ k z, F5 k x = some ((true, ()), z) := by
  obtain ⟨a, b, u⟩ := x
  obtain ⟨ok1, ok2, _⟩ := hok
  have ok1 : a.size ≤ 140737488351232 := ok1
  have ok2 : b.size ≤ 140737488351232 := ok2
  refine ⟨10000000000, (), ?_⟩
  generalize hkk : 10000000000 = k
  have hk : 5000000000 < k := by omega
  show F5 k (a, b, ()) = _
  rw [F5_eq, head_at (by omega), wrap_le (by omega) (by omega)]
  dsimp only [Option.bind]
  by_cases h5 : a.size + b.size ≤ 500
  · have hab : (a ++ ({ data := #[32] } : ByteArray) ++ b).data.toList = a.data.toList ++ 32 :: b.data.toList := by rw [app_tl, app_tl]; simp
    have hz1 : (a ++ ({ data := #[32] } : ByteArray)).size = a.size + 1 := by rw [size_tl, app_tl, size_tl]; simp
    have hz2 : (a ++ ({ data := #[32] } : ByteArray) ++ b).size = a.size + 1 + b.size := by rw [size_tl, hab, size_tl, size_tl]; simp; omega
    have hq : ({ data := #[32] } : ByteArray).size = 1 := rfl
    obtain ⟨xs, sx, hlx⟩ := lex_ex k a.data.toList.length a.data.toList 0 (Nat.le_refl _)
    obtain ⟨ys, sy, hly⟩ := lex_ex k b.data.toList.length b.data.toList 0 (Nat.le_refl _)
    obtain ⟨f1, f2⟩ := F7_spec (by omega) hk hlx
    obtain ⟨g1, g2⟩ := F7_spec (by omega) hk hly
    -- whatever the whole comes to, it comes to something
    obtain ⟨zs, sz, hlz⟩ := lex_ex k (a ++ ({ data := #[32] } : ByteArray) ++ b).data.toList.length (a ++ ({ data := #[32] } : ByteArray) ++ b).data.toList 0 (Nat.le_refl _)
    have hj : sx = none → Lex k 0 (a ++ ({ data := #[32] } : ByteArray) ++ b).data.toList (xs ++ ys.map (shT (a.size + 1))) (sy.map (· + (a.size + 1))) := fun e => by
      rw [hab]
      refine lex_join hlx e ?_
      have := lex_shift (d := a.size + 1) hly
      rw [Nat.zero_add] at this ⊢
      rw [← size_tl]
      exact this
    have tot : ∃ y, F7 k (a ++ ({ data := #[32] } : ByteArray) ++ b, ()) = some y := by
      obtain ⟨h1, h2⟩ := F7_spec (a := a ++ ({ data := #[32] } : ByteArray) ++ b) (by omega) hk hlz
      by_cases hn : 128 < zs.length
      · obtain ⟨p, hp⟩ := h1 hn; exact ⟨_, hp⟩
      · have := h2 (by omega)
        cases sz <;> exact ⟨_, this⟩
    obtain ⟨yz, hyz⟩ := tot
    have totb : ∃ y, F7 k (b, ()) = some y := by
      by_cases hn : 128 < ys.length
      · obtain ⟨p, hp⟩ := g1 hn; exact ⟨_, hp⟩
      · have := g2 (by omega)
        cases sy <;> exact ⟨_, this⟩
    obtain ⟨yb, hyb⟩ := totb
    rw [decide_eq_false (by omega : ¬ (500 : Int) < (a.size : Int) + (b.size : Int)), cond_false, hz1, hq, decide_eq_true (by omega : a.size + 1 ≤ 9223372036854775807), decide_eq_true (by omega : a.size + 1 + b.size ≤ 9223372036854775807), hyz]
    by_cases hnx : 128 < xs.length
    · obtain ⟨p, hp⟩ := f1 hnx
      rw [hp, hyb]; rfl
    · have hp := f2 (by omega)
      cases sx with
      | some p => rw [hp, hyb]; rfl
      | none =>
        have hlj := hj rfl
        obtain ⟨h1, h2⟩ := F7_spec (a := a ++ ({ data := #[32] } : ByteArray) ++ b) (by omega) hk hlj
        rw [List.length_append, List.length_map] at h1 h2
        rw [hp]
        dsimp only [cond_true]
        rw [show (!decide ((0 : Int) = 0)) = false from rfl]
        by_cases hny : 128 < ys.length
        · obtain ⟨p, hp2⟩ := g1 hny
          obtain ⟨q, hq2⟩ := h1 (by omega)
          rw [hyz] at hq2
          injection hq2 with hq2
          rw [hp2, hq2]
          dsimp only
          rw [decide_eq_true (rfl : (2 : Int) = 2)]
          show some ((bif decide (q = _) then true else true, ()), ()) = _
          rw [Bool.cond_self]; rfl
        · have hp2 := g2 (by omega)
          cases sy with
          | some p =>
            rw [hp2]
            dsimp only
            have hpb := (lex_at hly).2 p rfl
            rw [Nat.zero_add, ← size_tl] at hpb
            by_cases hnz : 128 < xs.length + ys.length
            · obtain ⟨q, hq2⟩ := h1 hnz
              rw [hyz] at hq2
              injection hq2 with hq2
              rw [hq2]
              dsimp only
              rw [decide_eq_true (rfl : (2 : Int) = 2)]
              show some ((bif decide (q = _) then true else true, ()), ()) = _
              rw [Bool.cond_self]; rfl
            · have hq2 := h2 (by omega)
              rw [hyz] at hq2
              injection hq2 with hq2
              rw [hq2]
              dsimp only [Option.map]
              rw [wrap_le (x := (a.size : Int) + 1) (by omega) (by omega), wrap_le (by omega) (by omega), decide_eq_true (by omega : ((p + (a.size + 1) : Nat) : Int) = (a.size : Int) + 1 + (p : Int))]
              rfl
          | none =>
            rw [hp2]
            dsimp only
            rw [show (!decide ((0 : Int) = 0)) = false from rfl, List.length_map, List.length_map, wrap_le (x := (xs.length : Int) + (ys.length : Int)) (by omega) (by omega)]
            by_cases hnz : 128 < xs.length + ys.length
            · obtain ⟨q, hq2⟩ := h1 hnz
              rw [hyz] at hq2
              injection hq2 with hq2
              rw [decide_eq_true (by omega : (128 : Int) < (xs.length : Int) + (ys.length : Int)), hq2]
              rfl
            · have hq2 := h2 (by omega)
              rw [hyz] at hq2
              injection hq2 with hq2
              rw [decide_eq_false (by omega : ¬ (128 : Int) < (xs.length : Int) + (ys.length : Int)), hq2]
              dsimp only [cond_false]
              rw [show (!decide ((0 : Int) = 0)) = false from rfl, List.length_map, List.length_append, List.length_map, decide_eq_true (by omega : ((xs.length + ys.length : Nat) : Int) = (xs.length : Int) + (ys.length : Int))]
              have key := E5_0_spec (k := k) (a := a) (up := true) (xs := xs) (ys := ys) (by omega) (by omega) (by omega) (fun t ht => by have := (lex_at hly).1 t ht; rw [← size_tl] at this; omega) (xs.length + ys.length) 0 k (by omega) (by omega) (by omega)
              have key : E5_0 k k (a, true, xs.map toTok, ys.map toTok, (xs ++ ys.map (shT (a.size + 1))).map toTok, 0, ()) = _ := key
              dsimp only [Bool.not_true, cond_false]
              rw [key]
              rfl
  · rw [decide_eq_true (by omega : (500 : Int) < (a.size : Int) + (b.size : Int))]
    rfl
end Go.Pv.L07
