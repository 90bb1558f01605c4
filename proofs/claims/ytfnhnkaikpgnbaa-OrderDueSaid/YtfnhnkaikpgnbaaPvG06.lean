/- Layer 06, plainly: rows that are the same, and how much is said. -/
import Derived.Test.YtfnhnkaikpgnbaaPvE06
import Derived.Test.YtfnhnkaikpgnbaaPvHead06
namespace Go.Pv.L06
open Go Go.Pv Go.Proofs
set_option linter.all false
set_option linter.constructorNameAsVariable false
set_option linter.unusedSectionVars false
set_option linter.unusedVariables false
set_option linter.unusedSimpArgs false
theorem F32_same {k : Nat} (l : List Vl) (hk : l.length < k) (hs : l.length < 9223372036854775807) : F32 k (l, l, ()) = some ((true, ()), ()) := by
  have hE : E32_0 k k (l, l, 0, ()) = some (bif anyR (fun _ => false) 0 l.length then Sum.inr (Sum.inl (false, ())) else Sum.inl ()) := by
    refine scan0 (E := fun j i => E32_0 k j (l, l, i, ())) (fun j i hi => ?_) (fun j => ?_) hk
    · dsimp only
      rw [E32_0_eq, lt_nat hi, inb_nat hi, wrap_nat (by omega)]
      simp only [cond_true, decide_true, Bool.and_self, Bool.not_true, cond_false]
    · dsimp only
      rw [E32_0_eq, nlt_nat]; rfl
  have h0 : anyR (fun _ => false) 0 l.length = false := by
    cases h : anyR (fun _ => false) 0 l.length with
    | false => rfl
    | true => obtain ⟨m, _, _, q⟩ := anyR_iff.1 h; cases q
  rw [h0] at hE
  rw [F32_eq, decide_eq_true rfl]
  exact ob hE rfl
theorem F21_same {k : Nat} (hk : MX < k) {e : Ev} (he : EvOk e) : F21 k (e, e, ()) = some ((true, ()), ()) := by
  have h2 : e.2.2.2.2.length ≤ MX := he.2
  rw [F21_eq]
  simp only [decide_true, cond_true]
  exact ob (F32_same _ (by omega) (by simp only [MX] at h2; omega)) rfl
theorem F14_same {k : Nat} (hk : MX < k) {l : List Ev} (hl : l.length ≤ MX) (he : ∀ a, a ∈ l → EvOk a) : F14 k (l, l, ()) = some ((true, ()), ()) := by
  have hE : E14_0 k k (l, l, 0, ()) = some (bif anyR (fun _ => false) 0 l.length then Sum.inr (Sum.inl (false, ())) else Sum.inl ()) := by
    refine scan0 (E := fun j i => E14_0 k j (l, l, i, ())) (fun j i hi => ?_) (fun j => ?_) (by omega)
    · dsimp only
      rw [E14_0_eq, lt_nat hi, inb_nat hi, wrap_nat (by simp only [MX] at hl; omega)]
      simp only [cond_true]
      rw [rd_get (e := T31) hi]
      exact ob (F21_same hk (he _ (List.getElem_mem hi))) rfl
    · dsimp only
      rw [E14_0_eq, nlt_nat]; rfl
  have h0 : anyR (fun _ => false) 0 l.length = false := by
    cases h : anyR (fun _ => false) 0 l.length with
    | false => rfl
    | true => obtain ⟨m, _, _, q⟩ := anyR_iff.1 h; cases q
  rw [h0] at hE
  rw [F14_eq, decide_eq_true rfl]
  exact ob hE rfl

theorem E22_total {k : Nat} {e : Ev} (hl : e.2.2.2.2.length ≤ MX) : ∀ (d i j : Nat) (x : Int), e.2.2.2.2.length - i = d → i ≤ e.2.2.2.2.length → d < j → ∃ y : Int, E22_0 k j ((e, ()), x, (i : Int), ()) = some (Sum.inl (y, ())) := by
  intro d
  induction d with
  | zero =>
    intro i j x h1 h2 h3
    have : i = e.2.2.2.2.length := by omega
    match j, h3 with
    | j + 1, _ =>
      rw [E22_0_eq, this, nlt_nat]
      exact ⟨x, rfl⟩
  | succ d ih =>
    intro i j x h1 h2 h3
    match j, h3 with
    | j + 1, h3 =>
      have hlt : i < e.2.2.2.2.length := by omega
      rw [E22_0_eq, lt_nat hlt, inb_nat hlt, wrap_nat (by simp only [MX] at hl; omega)]
      cases decide (x < 9000) with
      | false => exact ⟨x, rfl⟩
      | true =>
        obtain ⟨y, hy⟩ := ih (i + 1) j (IntKind.i64.wrap (x + bif false then bif decide ((↑(ByteArray.size (rd T62 e.2.2.2.2 i).2.2) : Int) < 9000) then 9000 else (↑(ByteArray.size (rd T62 e.2.2.2.2 i).2.2) : Int) else bif decide (9000 < (↑(ByteArray.size (rd T62 e.2.2.2.2 i).2.2) : Int)) then 9000 else (↑(ByteArray.size (rd T62 e.2.2.2.2 i).2.2) : Int))) (by omega) (by omega) (by omega)
        rw [show (((i + 1 : Nat)) : Int) = (i : Int) + 1 by omega] at hy
        exact ⟨y, hy⟩
theorem F22_total {k : Nat} (hk : MX < k) {e : Ev} (he : EvOk e) : ∃ b : Bool, F22 k (e, ()) = some ((b, ()), ()) := by
  have h2 : e.2.2.2.2.length ≤ MX := he.2
  obtain ⟨y, hy⟩ := E22_total (k := k) h2 e.2.2.2.2.length 0 k (IntKind.i64.wrap ((↑(ByteArray.size e.2.2.2.1) : Int) + (↑(List.length e.2.2.2.2) : Int))) (by omega) (by omega) (by omega)
  rw [F22_eq]
  exact ⟨decide (9000 ≤ y), ob hy rfl⟩
abbrev Op6 := Ty.den ((Ty.i IntKind.i64).p (((Ty.i IntKind.i64).p ((Ty.i IntKind.i64).p ((Ty.i IntKind.i64).p (Ty.s.p ((Ty.i IntKind.i64).p ((Ty.i IntKind.i64).p Ty.s)).l)))).p (Ty.i IntKind.i64)))
theorem rdO {l : List Op6} {i : Nat} (h : i < l.length) : rd ((Ty.i IntKind.i64).p (((Ty.i IntKind.i64).p ((Ty.i IntKind.i64).p ((Ty.i IntKind.i64).p (Ty.s.p ((Ty.i IntKind.i64).p ((Ty.i IntKind.i64).p Ty.s)).l)))).p (Ty.i IntKind.i64))) l (i : Int) = l[i] := rd_get (e := (Ty.i IntKind.i64).p (((Ty.i IntKind.i64).p ((Ty.i IntKind.i64).p ((Ty.i IntKind.i64).p (Ty.s.p ((Ty.i IntKind.i64).p ((Ty.i IntKind.i64).p Ty.s)).l)))).p (Ty.i IntKind.i64))) h
def OpsOk (l : List Op6) : Prop := l.length ≤ MX ∧ ∀ o, o ∈ l → EvOk o.2.1
theorem E11_total {k : Nat} (hk : MX < k) {l : List Op6} (hl : OpsOk l) : ∀ (d i j : Nat), l.length - i = d → i ≤ l.length → d < j → i ≤ 700 → (E11_0 k j (l, (i : Int), ()) = some (Sum.inr (Sum.inl (true, ())))) ∨ (E11_0 k j (l, (i : Int), ()) = some (Sum.inl (l, ()))) := by
  have hM := hl.1
  intro d
  induction d with
  | zero =>
    intro i j h1 h2 h3 h4
    have : i = l.length := by omega
    match j, h3 with
    | j + 1, _ =>
      rw [E11_0_eq, this, nlt_nat]
      exact .inr rfl
  | succ d ih =>
    intro i j h1 h2 h3 h4
    match j, h3 with
    | j + 1, h3 =>
      have hlt : i < l.length := by omega
      rw [E11_0_eq, lt_nat hlt, inb_nat hlt, wrap_nat (by omega)]
      cases h7 : decide ((i : Int) < 700) with
      | false => exact .inr rfl
      | true =>
        have h7 : (i : Int) < 700 := by simpa using h7
        simp only [cond_true, rdO hlt]
        obtain ⟨b, hb⟩ := F22_total hk (hl.2 _ (List.getElem_mem hlt))
        have := ih (i + 1) j (by omega) (by omega) (by omega) (by omega)
        rw [show (((i + 1 : Nat)) : Int) = (i : Int) + 1 by omega] at this
        cases b with
        | true => exact .inl (ob hb rfl)
        | false =>
          generalize hz : decide (400 < IntKind.i64.wrap _) = z
          cases z with
          | true => exact .inl (ob hb rfl)
          | false =>
            rcases this with g | g
            · exact .inl (ob hb g)
            · exact .inr (ob hb g)
theorem F11_total {k : Nat} (hk : MX < k) {l : List Op6} (hl : OpsOk l) : ∃ b : Bool, F11 k (l, ()) = some ((b, ()), ()) ∧ (b = false → l.length ≤ 600) := by
  have hM := hl.1
  rw [F11_eq]
  rcases E11_total hk hl l.length 0 k (by omega) (by omega) (by omega) (by omega) with h | h
  · exact ⟨true, ob h rfl, fun h => by cases h⟩
  · exact ⟨decide (600 < (l.length : Int)), ob h rfl, fun h => by simp at h; omega⟩
theorem head_at {k : Nat} (hk : MX < k) : F8 k () = some ((true, ()), ()) := by
  obtain ⟨n, rfl⟩ := Nat.exists_eq_add_of_le (show 100 ≤ k by simp only [MX] at hk; omega)
  rw [Nat.add_comm]; exact head_ok n
theorem F24_spec {k : Nat} {l : List Ev} (hl : Bf l) : F24 k (l, ()) = some ((l, ()), (l, ())) := by
  have := hl.len
  unfold F24 D24
  dsimp only
  rw [decide_eq_true (show l.length * 64 ≤ 140737488355328 by omega)]; rfl
theorem F19_spec {k : Nat} {l : List Ev} (hl : Bf l) (t : Int) : F19 k ((l, t, ()), ()) = some ((l, ()), (l, t, ()), ()) := by
  rw [F19_eq]
  exact ob (F24_spec hl) rfl
end Go.Pv.L06
