/- Layer 12: NfaPlain, plainly. -/
import Derived.Test.YthedngefmaklnaaPvT12
import Derived.Test.YthedngefmaklnaaPvHead12
namespace Go.Pv.L12
open Go Go.Pv Go.Proofs
set_option linter.all false
set_option linter.constructorNameAsVariable false
set_option linter.unusedSectionVars false
set_option linter.unusedVariables false
set_option linter.unusedSimpArgs false

/-- What the laws of this layer begin with. -/
theorem head_at {k : Nat} (hk : 140737488351232 < k) : F9 k () = some ((true, ()), ()) := by
  have := head_ok (k - 100)
  rwa [show k - 100 + 100 = k by omega] at this

/-- All its items are One, and no Nots. -/
def PlainQ (q : Qry) : Prop := ∀ i, i < q.1.length → (itmAt q.1 i).1 = false ∧ (itmAt q.1 i).2.2.2 = 1
theorem plain_behind {q : Qry} (h : PlainQ q) {i : Nat} (hi : i < q.1.length) : (behindB q.1 i).1 = (if i + 1 < q.1.length then [((i + 1 : Nat) : Int)] else []) ∧ (behindB q.1 i).2.2 = decide (i + 1 = q.1.length) := by
  obtain ⟨h1, h2⟩ := h i hi
  unfold behindB
  rw [h2, show decide ((1 : Int) = 2) = false from rfl]
  by_cases hn : i + 1 < q.1.length
  · obtain ⟨g1, g2⟩ := h (i + 1) hn
    rw [if_pos hn, drop_at hn]
    unfold follow finalB
    rw [g1, g2]
    refine ⟨rfl, ?_⟩
    rw [decide_eq_false (by omega : ¬ i + 1 = q.1.length), List.any_cons]
    unfold mustB
    rw [g1, g2]
    rfl
  · rw [if_neg hn, List.drop_of_length_le (by omega), decide_eq_true (by omega : i + 1 = q.1.length)]
    exact ⟨rfl, rfl⟩

theorem plain_next {q : Qry} (h : PlainQ q) (hn : 1 ≤ q.1.length) {i : Nat} (hi : i < (compileB q).length) (x : Int) : x ∈ (staAt (compileB q) i).1 ↔ i < q.1.length ∧ x = (i : Int) := by
  rw [comp_len] at hi
  cases i with
  | zero =>
    rw [comp_zero]
    show x ∈ [(0 : Int)] ↔ _
    rw [List.mem_singleton]
    constructor
    · intro e; exact ⟨by omega, e⟩
    · exact fun e => e.2
  | succ i =>
    rw [comp_succ q (by omega), (plain_behind h (by omega)).1]
    by_cases hc : i + 1 < q.1.length
    · rw [if_pos hc, List.mem_singleton]
      exact ⟨fun e => ⟨hc, e⟩, fun e => e.2⟩
    · rw [if_neg hc]
      exact ⟨fun e => (by cases e), fun e => absurd e.1 hc⟩

theorem plain_step {q : Qry} (h : PlainQ q) (hn : 1 ≤ q.1.length) {nm : ByteArray} {i t : Nat} : stepP q.1 (compileB q) nm (fun m => m = i) t ↔ i < q.1.length ∧ hasB (itmAt q.1 i).2.1 nm = true ∧ t = i + 1 := by
  unfold stepP
  constructor
  · rintro ⟨i', h1, rfl, j, h2, h3, h4⟩
    obtain ⟨g1, rfl⟩ := (plain_next h hn h1 j).1 h2
    rw [Int.toNat_natCast] at h3 h4
    exact ⟨g1, h3, h4⟩
  · rintro ⟨h1, h2, h3⟩
    have hl : i < (compileB q).length := by rw [comp_len]; omega
    exact ⟨i, hl, rfl, (i : Int), (plain_next h hn hl _).2 ⟨h1, rfl⟩, by rw [Int.toNat_natCast]; exact h2, by rw [Int.toNat_natCast]; exact h3⟩

theorem plain_run {q : Qry} (h : PlainQ q) (hn : 1 ≤ q.1.length) : ∀ (names : List ByteArray) (i t : Nat), i ≤ q.1.length → (runP q.1 (compileB q) names (fun m => m = i) t ↔ i + names.length ≤ q.1.length ∧ t = i + names.length ∧ ∀ m, m < names.length → hasB (itmAt q.1 (i + m)).2.1 (names.getD m ByteArray.empty) = true)
  | [], i, t, hi => by
    show t = i ↔ _
    simp only [List.length_nil, Nat.add_zero]
    exact ⟨fun e => ⟨hi, e, fun m hm => absurd hm (Nat.not_lt_zero _)⟩, fun e => e.2.1⟩
  | nm :: r, i, t, hi => by
    show runP q.1 (compileB q) r (stepP q.1 (compileB q) nm (fun m => m = i)) t ↔ _
    by_cases hc : i < q.1.length ∧ hasB (itmAt q.1 i).2.1 nm = true
    · rw [runP_congr r (Q := fun m => m = i + 1) (fun m => by rw [plain_step h hn]; exact ⟨fun e => e.2.2, fun e => ⟨hc.1, hc.2, e⟩⟩) t, plain_run h hn r (i + 1) t (by omega)]
      simp only [List.length_cons]
      constructor
      · rintro ⟨h1, h2, h3⟩
        refine ⟨by omega, by omega, fun m hm => ?_⟩
        cases m with
        | zero => exact hc.2
        | succ m =>
          have := h3 m (by omega)
          rw [show i + (m + 1) = i + 1 + m by omega, List.getD_cons_succ]
          exact this
      · rintro ⟨h1, h2, h3⟩
        refine ⟨by omega, by omega, fun m hm => ?_⟩
        have := h3 (m + 1) (by omega)
        rw [show i + (m + 1) = i + 1 + m by omega, List.getD_cons_succ] at this
        exact this
    · constructor
      · intro e
        exact absurd e (runP_false r (fun m => by rw [plain_step h hn]; exact fun e => hc ⟨e.1, e.2.1⟩) t)
      · rintro ⟨h1, h2, h3⟩
        simp only [List.length_cons] at h1
        exact absurd ⟨by omega, h3 0 (by simp)⟩ hc

def fitsB (q : Qry) (names : List ByteArray) : Bool := decide (names.length = q.1.length) && !anyR (fun i => !hasB (itmAt q.1 i).2.1 (names.getD i ByteArray.empty)) 0 q.1.length
theorem plain_accepts {q : Qry} (hr : rightB q = true) (h : PlainQ q) (names : List ByteArray) : acceptsB q names = fitsB q names := by
  obtain ⟨l1, l2⟩ := right_len hr
  unfold acceptsB
  rw [hr, cond_true, Bool.eq_iff_iff, acc_iff]
  unfold fitsB
  rw [Bool.and_eq_true, decide_eq_true_eq, Bool.not_eq_true']
  constructor
  · rintro ⟨i, h1, h2, h3⟩
    rw [comp_len] at h1
    obtain ⟨g1, g2, g3⟩ := (plain_run h l1 names 0 i (by omega)).1 h2
    have hi : i = q.1.length := by
      cases i with
      | zero => rw [comp_zero] at h3; cases h3
      | succ i =>
        rw [comp_succ q (by omega), (plain_behind h (by omega)).2] at h3
        exact of_decide_eq_true h3
    refine ⟨by omega, ?_⟩
    cases ha : anyR (fun i => !hasB (itmAt q.1 i).2.1 (names.getD i ByteArray.empty)) 0 q.1.length with
    | false => rfl
    | true =>
      obtain ⟨m, _, m1, m2⟩ := anyR_iff.1 ha
      have := g3 m (by omega)
      rw [Nat.zero_add] at this
      rw [this] at m2
      cases m2
  · rintro ⟨h1, h2⟩
    refine ⟨q.1.length, by rw [comp_len]; omega, (plain_run h l1 names 0 _ (by omega)).2 ⟨by omega, by omega, fun m hm => ?_⟩, ?_⟩
    · rw [Nat.zero_add]
      cases hb : hasB (itmAt q.1 m).2.1 (names.getD m ByteArray.empty) with
      | true => rfl
      | false =>
        have : anyR (fun i => !hasB (itmAt q.1 i).2.1 (names.getD i ByteArray.empty)) 0 q.1.length = true := anyR_iff.2 ⟨m, Nat.zero_le _, by omega, by rw [hb]; rfl⟩
        rw [h2] at this; cases this
    · obtain ⟨p, hp⟩ : ∃ p, q.1.length = p + 1 := ⟨q.1.length - 1, by omega⟩
      rw [hp, comp_succ q (by omega), (plain_behind h (by omega)).2]
      exact decide_eq_true (by omega)

/-- The law's own loop: it ends early at an item that is not plain. -/
theorem E5_0_spec {k : Nat} {q : Qry} (hq : QOk k q) {names : List ByteArray} (up : Bool) : ∀ (d i j : Nat) (fits : Bool), q.1.length - i = d → i ≤ q.1.length → d < j → (∃ m, i ≤ m ∧ m < q.1.length ∧ ¬ ((itmAt q.1 m).1 = false ∧ (itmAt q.1 m).2.2.2 = 1)) ∧ E5_0 k j (names, (q, ()), up, fits, (i : Int), ()) = some (Sum.inr (Sum.inl (up, ()))) ∨
    (∀ m, i ≤ m → m < q.1.length → (itmAt q.1 m).1 = false ∧ (itmAt q.1 m).2.2.2 = 1) ∧ E5_0 k j (names, (q, ()), up, fits, (i : Int), ()) = some (Sum.inl (names, (q, ()), up, fits && !anyR (fun i => !(decide (i < names.length) && hasB (itmAt q.1 i).2.1 (names.getD i ByteArray.empty))) i q.1.length, ())) := by
  intro d
  induction d with
  | zero =>
    intro i j fits h1 h2 h3
    have : i = q.1.length := by omega
    subst this
    right
    refine ⟨fun m m1 m2 => by omega, ?_⟩
    match j, h3 with
    | j + 1, _ => rw [E5_0_eq, nlt_nat, anyR_end]; simp
  | succ d ih =>
    intro i j fits h1 h2 h3
    match j, h3 with
    | j + 1, h3 =>
      have hi : i < q.1.length := by omega
      have hql := hq.2.1
      rw [E5_0_eq, lt_nat hi, inb_nat hi, rd_nat]
      rw [show List.getD q.1 i (Ty.dflt T38) = itmAt q.1 i from rfl]
      by_cases hp : (itmAt q.1 i).1 = false ∧ (itmAt q.1 i).2.2.2 = 1
      · rw [hp.1, hp.2, wrap_nat (by omega)]
        have e1 : decide ((i : Int) < (names.length : Int)) = decide (i < names.length) := decide_eq_decide.2 (by omega)
        have h18 : F18 k (itmAt q.1 i, rd T9 names (i : Int), ()) = _ := F18_spec (hq.2.2.2.2.1 _ (itmAt_mem hi)).2.1
        have key : E5_0 k (j + 1) (names, (q, ()), up, fits, (i : Int), ()) = E5_0 k j (names, (q, ()), up, fits && (decide (i < names.length) && hasB (itmAt q.1 i).2.1 (names.getD i ByteArray.empty)), ((i + 1 : Nat) : Int), ()) := by
          rw [E5_0_eq, lt_nat hi, inb_nat hi, rd_nat]
          rw [show List.getD q.1 i (Ty.dflt T38) = itmAt q.1 i from rfl, hp.1, hp.2, wrap_nat (by omega), e1, h18]
          rw [show (((i + 1 : Nat)) : Int) = (i : Int) + 1 by omega, rd_nat]
          by_cases hl : i < names.length
          · rw [decide_eq_true hl, inb_nat hl]
            cases fits <;> simp <;> rfl
          · rw [decide_eq_false hl]
            cases fits <;> simp <;> rfl
        rcases ih (i + 1) j (fits && (decide (i < names.length) && hasB (itmAt q.1 i).2.1 (names.getD i ByteArray.empty))) (by omega) (by omega) (by omega) with ⟨⟨m, m1, m2, m3⟩, r⟩ | ⟨r1, r2⟩
        · left
          refine ⟨⟨m, by omega, m2, m3⟩, ?_⟩
          have := key.trans r
          rw [E5_0_eq, lt_nat hi, inb_nat hi, rd_nat, show List.getD q.1 i (Ty.dflt T38) = itmAt q.1 i from rfl, hp.1, hp.2, wrap_nat (by omega)] at this
          exact this
        · right
          refine ⟨fun m m1 m2 => ?_, ?_⟩
          · by_cases he : m = i
            · subst he; exact hp
            · exact r1 m (by omega) m2
          · have := key.trans r2
            rw [E5_0_eq, lt_nat hi, inb_nat hi, rd_nat, show List.getD q.1 i (Ty.dflt T38) = itmAt q.1 i from rfl, hp.1, hp.2, wrap_nat (by omega)] at this
            rw [this, anyR_step _ hi]
            congr 4
            cases fits <;> cases decide (i < names.length) <;> cases hasB (itmAt q.1 i).2.1 (names.getD i ByteArray.empty) <;> simp
      · left
        refine ⟨⟨i, Nat.le_refl _, hi, hp⟩, ?_⟩
        cases hn : (itmAt q.1 i).1 with
        | true => rfl
        | false =>
          have : decide ((itmAt q.1 i).2.2.2 = 1) = false := decide_eq_false fun e => hp ⟨hn, e⟩
          rw [this]
          rfl

theorem PureNfaPlain (x : shsDen (argSh [T25, T26])) (hok : okAll [T25, T26] x) : ∃ k z, F5 k x = some ((true, ()), z) := by
  obtain ⟨q, names, u⟩ := x
  obtain ⟨ok1, ok2, _⟩ := hok
  have ok1 : T25.ok q := ok1
  have ok2 : T26.ok names := ok2
  obtain ⟨N, hT⟩ := qt_of ok1
  have hnl : names.length ≤ 140737488351232 := ok2.1
  refine ⟨140737488351232 + 3000 + N, (), ?_⟩
  generalize hkk : 140737488351232 + 3000 + N = k
  have hk : 140737488351232 < k := by omega
  have hq := hT.ok hk
  obtain ⟨b1, h10⟩ := F10_total hT hk (by omega)
  obtain ⟨b2, h11⟩ := F11_total hk hnl
  show F5 k (q, names, ()) = _
  rw [F5_eq, head_at hk]
  show (F10 k (q, ())).bind _ = _
  rw [h10]
  cases b1 with
  | true => rfl
  | false =>
    show (F11 k (names, ())).bind _ = _
    rw [h11]
    cases b2 with
    | true => rfl
    | false =>
      show (F17 k (q, ())).bind _ = _
      rw [F17_spec hq]
      cases hr : rightB q with
      | false => rfl
      | true =>
        show (E5_0 k k (names, (q, ()), true, decide ((names.length : Int) = (q.1.length : Int)), 0, ())).bind _ = _
        rcases E5_0_spec hq (names := names) true q.1.length 0 k (decide ((names.length : Int) = (q.1.length : Int))) (by omega) (by omega) (by have := hT.items; omega) with ⟨_, r⟩ | ⟨hp, r⟩
        · have r : E5_0 k k (names, (q, ()), true, decide ((names.length : Int) = (q.1.length : Int)), 0, ()) = _ := r
          rw [r]; rfl
        · have r : E5_0 k k (names, (q, ()), true, decide ((names.length : Int) = (q.1.length : Int)), 0, ()) = _ := r
          have e : fitsB q names = (decide ((names.length : Int) = (q.1.length : Int)) && !anyR (fun i => !(decide (i < names.length) && hasB (itmAt q.1 i).2.1 (names.getD i ByteArray.empty))) 0 q.1.length) := by
            unfold fitsB
            rw [show decide ((names.length : Int) = (q.1.length : Int)) = decide (names.length = q.1.length) from decide_eq_decide.2 (by omega)]
            by_cases hl : names.length = q.1.length
            · have e' : anyR (fun i => !hasB (itmAt q.1 i).2.1 (names.getD i ByteArray.empty)) 0 q.1.length = anyR (fun i => !(decide (i < names.length) && hasB (itmAt q.1 i).2.1 (names.getD i ByteArray.empty))) 0 q.1.length := anyR_congr fun m _ hm => by rw [decide_eq_true (by omega : m < names.length), Bool.true_and]
              rw [e']
            · rw [decide_eq_false hl, Bool.false_and, Bool.false_and]
          rw [← e] at r
          have h15 := F15_spec hq (by omega) (names := names) (by omega)
          rw [plain_accepts hr (fun i hi => hp i (Nat.zero_le _) hi)] at h15
          generalize fitsB q names = fits at r h15
          rw [r, Option.bind_some]
          dsimp only
          rw [cond_true, h15]
          cases fits <;> rfl
end Go.Pv.L12
