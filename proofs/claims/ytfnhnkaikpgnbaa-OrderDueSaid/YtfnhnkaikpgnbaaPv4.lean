/- The engine, part 4: operations do what their evaluation says. -/
import Derived.Laws.Cover3
import Derived.Laws.Pointers
import Derived.Test.YtfnhnkaikpgnbaaPv3
import Derived.Laws.StructEq
import Derived.MapKept
import Derived.Laws.Slices
import Derived.Laws.Append
import Derived.Laws.Concat
import Derived.Laws.Strings
import Derived.Laws.MakeOwn
import Derived.Laws.BytesString
namespace Go.Pv
open Go
set_option linter.all false
set_option linter.constructorNameAsVariable false
set_option linter.unusedSectionVars false
set_option linter.unusedVariables false
set_option linter.unusedSimpArgs false
variable {N : List Nat}

def RelE (G : Gh N) (w : World) (tmps : Array Value) (v : V) (val : Value) : Prop :=
  match v with
  | .g d want v => (tmps.getD d undef = .bool want → Rel G w v val) ∧ (tmps.getD d undef ≠ .bool want → val = undef)
  | v => Rel G w v val

def EnvR (G : Gh N) (w : World) (env : Env) (tmps : Array Value) : Prop := ∀ t, RelE G w tmps (look t env) (tmps.getD t undef)
def Met (tmps : Array Value) (gs : List (Nat × Bool)) : Prop := ∀ p, p ∈ gs → tmps.getD p.1 undef = .bool p.2

theorem RelE.of {G : Gh N} {w : World} {tmps : Array Value} {v : V} {val : Value} (h : Rel G w v val) : RelE G w tmps v val := by
  cases h <;> (unfold RelE; constructor) <;> assumption
theorem RelE.mono {G G' : Gh N} {w w' : World} {tmps : Array Value} (hs : Subs G w G' w') {v : V} {val : Value} (h : RelE G w tmps v val) : RelE G' w' tmps v val := by
  unfold RelE at *
  split at h
  · exact ⟨fun k => (h.1 k).mono hs, h.2⟩
  · exact Rel.mono hs h

theorem ung_rel {G : Gh N} {w : World} {tmps : Array Value} {gs : List (Nat × Bool)} (hm : Met tmps gs) {v : V} {val : Value} (h : RelE G w tmps v val) : Rel G w (ung gs v) val := by
  unfold RelE at h
  split at h
  · rename_i d want v
    unfold ung
    dsimp only
    split
    · rename_i hany
      obtain ⟨p, hp, hq⟩ := List.any_eq_true.1 hany
      rw [Bool.and_eq_true] at hq
      have h1 : p.1 = d := Nat.eq_of_beq_eq_true hq.1
      have h2 : p.2 = want := by simpa using hq.2
      refine h.1 ?_
      rw [← h1, ← h2]
      exact hm p hp
    · exact .u _
  · rename_i hne
    have : ung gs v = v := by
      unfold ung
      split
      · exact absurd rfl (hne _ _ _)
      · rfl
    rw [this]
    exact h

theorem ofv1_rel (G : Gh N) (w : World) (x : Value) : Rel G w (ofv1 x) x := by
  unfold ofv1
  split
  · exact .b _
  · split
    · rename_i n h
      simp only [Bool.and_eq_true, decide_eq_true_eq] at h
      exact .i _ _ fun _ => h
    · exact .u _
  · rename_i hne
    refine .i _ _ fun h => ?_
    subst h
    exact (hne rfl).elim
  · exact .s _
  · exact .nil
  · exact .np
  · exact .u _

theorem opnd_rel {G : Gh N} {w : World} {env : Env} {a : Act} (h : EnvR G w env a.tmps) (x : Operand) : RelE G w a.tmps (opnd env x) (a.eval x) := by
  cases x with
  | tmp t => exact h t
  | const v =>
    refine RelE.of ?_
    show Rel G w (ofv v) v
    unfold ofv
    split
    · rename_i cs
      refine .agg _ _ (by simp) (fun k c v hc hv => ?_)
      simp only [List.getElem?_map, Option.map_eq_some_iff] at hc
      obtain ⟨y, hy, rfl⟩ := hc
      rw [Array.getElem?_toList] at hy
      rw [hv] at hy
      injection hy with hy
      subst hy
      exact ofv1_rel G w _
    · exact ofv1_rel G w _
  | global g => exact RelE.of (.u _)
  | func f => exact RelE.of (.fn _ [] #[] rfl (fun k c v hc => by simp at hc))

/-- What came of an operation. -/
def Did (G : Gh N) (w : World) (r : Result Next) (v : V) (h : List Ob) : Prop :=
  ∃ val w' G', (r = .ok (.value val) w' ∨ (r = .ok .skip w' ∧ val = undef)) ∧ Rel G' w' v val ∧ Mem G' w' h ∧ Subs G w G' w' ∧ Ext G w G' w'
def OutOk (G : Gh N) (w : World) (r : Result Next) : Out → Prop
  | .val v h => Did G w r v h
  | .chk c v h => c = true → Did G w r v h
  | .no => True
  | .call .. => False

theorem Did.pure {G : Gh N} {w : World} {h : List Ob} (hm : Mem G w h) {v : V} {val : Value} (hr : Rel G w v val) {r : Result Next} (he : r = .ok (.value val) w) : Did G w r v h :=
  ⟨val, w, G, .inl he, hr, hm, .refl _ _, .refl _ _⟩

/-- .. where nothing changes. -/
def OutOkP (G : Gh N) (w : World) (r : Result Next) : Out → Prop
  | .val v _ => ∃ val, r = .ok (.value val) w ∧ Rel G w v val
  | .chk c v _ => c = true → ∃ val, r = .ok (.value val) w ∧ Rel G w v val
  | .no => True
  | .call .. => False
def Out.stays (h : List Ob) : Out → Prop
  | .val _ h' => h' = h
  | .chk _ _ h' => h' = h
  | _ => True
theorem OutOkP.ok {G : Gh N} {w : World} {h : List Ob} (hm : Mem G w h) {r : Result Next} {o : Out} (hs : o.stays h) (hp : OutOkP G w r o) : OutOk G w r o := by
  cases o with
  | no => trivial
  | val v h' =>
    obtain ⟨val, h1, h2⟩ := hp
    have : h' = h := hs
    subst this
    exact Did.pure hm h2 h1
  | chk c v h' =>
    intro hc
    obtain ⟨val, h1, h2⟩ := hp hc
    have : h' = h := hs
    subst this
    exact Did.pure hm h2 h1
  | call => exact hp.elim
theorem OutOkP.under {G : Gh N} {w : World} {r : Result Next} {o : Out} {c : Bool} (h : c = true → OutOkP G w r o) : OutOkP G w r (o.under c) := by
  cases o with
  | no => trivial
  | val v h' => exact h
  | chk d v h' =>
    intro hc
    rw [Bool.and_eq_true] at hc
    exact h hc.1 hc.2
  | call => trivial

theorem OutOk.under {G : Gh N} {w : World} {r : Result Next} {o : Out} {c : Bool} (h : c = true → OutOk G w r o) : OutOk G w r (o.under c) := by
  cases o with
  | no => trivial
  | val v h' => exact h
  | chk d v h' =>
    intro hc
    rw [Bool.and_eq_true] at hc
    exact h hc.1 hc.2
  | call => trivial

/-! ### numbers, truths, texts -/
section
variable {C : Cfg} {G : Gh N} {w : World} {h : List Ob}

theorem wrap_u8 (n : Int) : 0 ≤ IntKind.u8.wrap n ∧ IntKind.u8.wrap n < 256 := by
  have h1 : IntKind.u8.wrap n = n % 256 := by simp [IntKind.wrap, IntKind.bits, IntKind.signed]
  rw [h1]
  omega
theorem Rel.wrap (k : IntKind) (n : Int) : Rel G w (.i k (k.wrap n)) (.int k (k.wrap n)) := .i _ _ fun hk => by subst hk; exact wrap_u8 n

theorem toList_inj {x y : ByteArray} : (x.toList == y.toList) = decide (x = y) := by
  have h : x.toList = y.toList ↔ x = y := by
    constructor
    · intro h
      have e : ∀ z : ByteArray, z.toList = z.data.toList := fun z => by
        exact ByteArray.toList_eq z
      rw [e, e] at h
      cases x; cases y
      simp only [ByteArray.mk.injEq]
      exact Array.ext' h
    · rintro rfl; rfl
  by_cases c : x = y
  · simp [c]
  · have : ¬ x.toList = y.toList := fun k => c (h.1 k)
    simp [c, this]

theorem run_and (k : IntKind) (m n : Int) : (Op.intBits .and k m n).run C.P w = .ok (.int k (k.wrap (BitVec.ofInt k.bits m &&& BitVec.ofInt k.bits n).toNat)) w := rfl
theorem run_or (k : IntKind) (m n : Int) : (Op.intBits .or k m n).run C.P w = .ok (.int k (k.wrap (BitVec.ofInt k.bits m ||| BitVec.ofInt k.bits n).toNat)) w := rfl
theorem run_xor (k : IntKind) (m n : Int) : (Op.intBits .xor k m n).run C.P w = .ok (.int k (k.wrap (BitVec.ofInt k.bits m ^^^ BitVec.ofInt k.bits n).toNat)) w := rfl
theorem run_underlying {t : TypeId} {d : TypeDesc} (hu : C.P.underlying t = some d) : (underlying t).run C.P w = .ok d w := by
  unfold underlying
  simp only [Sem.run_bind, run_program, Result.andThen_ok, hu, Sem.run_pure]
theorem run_equal_bool {t : TypeId} (hu : C.P.underlying t = some .bool) (p q : Bool) : (Op.equal t (.bool p) (.bool q)).run C.P w = .ok (p == q) w := by
  show (Op.equalIn (9999 + 1) t (.bool p) (.bool q)).run C.P w = _
  rw [Op.equalIn]
  simp only [Sem.run_bind, run_underlying hu, Result.andThen_ok, Sem.run_pure]

theorem binI_ok (hm : Mem G w h) (op : BinOp) (k : IntKind) (m n : Int) (hx : k = .u8 → 0 ≤ m ∧ m < 256) (hs : op ≠ .shl) (hs' : op ≠ .shr) (t : TypeId) :
    OutOk G w ((do let r ← binOp op t (.int k m) (.int k n); pure (.value r) : Sem Next).run C.P w) (binI h op k m n) := by
  cases op with
  | add => exact Did.pure hm (Rel.wrap k _) (by simp [binOp, Op.intArith])
  | sub => exact Did.pure hm (Rel.wrap k _) (by simp [binOp, Op.intArith])
  | mul => exact Did.pure hm (Rel.wrap k _) (by simp [binOp, Op.intArith])
  | and => exact Did.pure hm (Rel.wrap k _) (by simp only [binOp, ne_eq, not_true_eq_false, if_false, Sem.run_bind, run_and, Result.andThen_ok, Sem.run_pure])
  | or => exact Did.pure hm (Rel.wrap k _) (by simp only [binOp, ne_eq, not_true_eq_false, if_false, Sem.run_bind, run_or, Result.andThen_ok, Sem.run_pure])
  | eql => exact Did.pure hm (.b _) (by simp [binOp, Op.intCmp]; try rfl)
  | neq => exact Did.pure hm (.b _) (by simp [binOp, Op.intCmp]; try rfl)
  | lss => exact Did.pure hm (.b _) (by simp [binOp, Op.intCmp]; try rfl)
  | leq => exact Did.pure hm (.b _) (by simp [binOp, Op.intCmp]; try rfl)
  | gtr => exact Did.pure hm (.b _) (by simp [binOp, Op.intCmp]; try rfl)
  | geq => exact Did.pure hm (.b _) (by simp [binOp, Op.intCmp]; try rfl)
  | shl => exact absurd rfl hs
  | shr => exact absurd rfl hs'
  | xor => exact Did.pure hm (Rel.wrap k _) (by simp only [binOp, ne_eq, not_true_eq_false, if_false, Sem.run_bind, run_xor, Result.andThen_ok, Sem.run_pure])
  | andNot => trivial
  | quo =>
    intro hc
    have hn : n ≠ 0 := by simpa using hc
    exact Did.pure hm (Rel.wrap k _) (by simp [binOp, Op.intDiv, hn])
  | rem =>
    simp only [binI]
    split
    · trivial
    · rename_i hk
      intro hc
      have hn : n ≠ 0 := by simpa using hc
      have hk : ¬ k = .u8 := by simpa using hk
      exact Did.pure hm (.i _ _ fun e => absurd e hk) (by simp [binOp, Op.intDiv, hn])

theorem shI_ok (hm : Mem G w h) (op : BinOp) (k k' : IntKind) (m n : Int) (hs : op = .shl ∨ op = .shr) (t : TypeId) :
    OutOk G w ((do let r ← binOp op t (.int k m) (.int k' n); pure (.value r) : Sem Next).run C.P w) (shI h op k m n) := by
  rcases hs with rfl | rfl
  · intro hc
    have hn : ¬ n < 0 := by simpa using hc
    exact Did.pure hm (Rel.wrap k _) (by simp [binOp, Op.shift, hn])
  · simp only [shI]
    split
    · trivial
    · rename_i hk
      intro hc
      have hn : ¬ n < 0 := by simpa using hc
      have hk : ¬ k = .u8 := by simpa using hk
      exact Did.pure hm (.i _ _ fun e => absurd e hk) (by simp [binOp, Op.shift, hn])

theorem binS_ok (hm : Mem G w h) (op : BinOp) (a b : ByteArray) (t : TypeId) :
    OutOk G w ((do let r ← binOp op t (.string a) (.string b); pure (.value r) : Sem Next).run C.P w) (binS h op a b) := by
  cases op <;> first
    | trivial
    | (simp only [binS]; exact Did.pure hm (.b _) (by simp [binOp, Op.stringOp, toList_inj, strLt]))
    | skip
  intro hc
  have hn : a.size + b.size ≤ 9223372036854775807 := by simpa using hc
  exact Did.pure hm (.s _) (by simp [binOp, run_string_add_sum w a b hn])

theorem agg_run {t : TypeId} {g : Bool} (hg : C.isAgg t = some g) : (isAgg t).run C.P w = .ok g w := by
  unfold Cfg.isAgg at hg
  obtain ⟨d, hd, rfl⟩ := Option.map_eq_some_iff.1 hg
  unfold isAgg
  rw [Sem.run_bind, run_underlying hd, Result.andThen_ok]
  cases d <;> rfl
theorem part_cell {t : TypeId} (hg : C.isAgg t = some false) {vals : Array Value} {off : Nat} {v : Value} (hv : vals[off]? = some v) : (part t vals off).run C.P w = .ok v w := by
  unfold part
  simp only [Sem.run_bind, agg_run hg, Result.andThen_ok, Bool.false_eq_true, if_false, hv, Sem.run_pure]
theorem eqFs_ok {xs ys : List V} {vx vy : Array Value} (hlx : vx.size = xs.length) (hly : vy.size = ys.length) (hx : ∀ (k : Nat) (c : V) (v : Value), xs[k]? = some c → vx[k]? = some v → Rel G w c v)
    (hy : ∀ (k : Nat) (c : V) (v : Value), ys[k]? = some c → vy[k]? = some v → Rel G w c v) : ∀ (fs : List Field) (b : Bool), (fs.all fun f => !decide (f.name = "_")) = true → eqFs C xs ys fs = some b → (Op.eqFields 9999 vx vy fs).run C.P w = .ok b w
  | [], b, _, h => by simp only [eqFs, Option.some.injEq] at h; subst h; rfl
  | f :: r, b, hnm, h => by
    simp only [List.all_cons, Bool.and_eq_true, Bool.not_eq_true', decide_eq_false_iff_not] at hnm
    obtain ⟨hn, hnr⟩ := hnm
    have hnr : (r.all fun f => !decide (f.name = "_")) = true := by simpa using hnr
    simp only [eqFs, nth_eq] at h
    have cell : ∀ {zs : List V} {vz : Array Value}, vz.size = zs.length → (∀ (k : Nat) (c : V) (v : Value), zs[k]? = some c → vz[k]? = some v → Rel G w c v) → ∀ {c : V}, zs[f.offset]? = some c → ∃ v, vz[f.offset]? = some v ∧ Rel G w c v := by
      intro zs vz hl hz c hc
      have hlt : f.offset < vz.size := by rw [hl]; exact (List.getElem?_eq_some_iff.1 hc).1
      exact ⟨_, Array.getElem?_eq_getElem hlt, hz _ _ _ hc (Array.getElem?_eq_getElem hlt)⟩
    have fin : ∀ {u v : Value} {x y : Bool}, C.isAgg f.type = some false → ¬ f.name = "_" → vx[f.offset]? = some u → vy[f.offset]? = some v → (Op.equalIn 9999 f.type u v).run C.P w = .ok x w → eqFs C xs ys r = some y → (Op.eqFields 9999 vx vy (f :: r)).run C.P w = .ok (x && y) w := by
      intro u v x y hg hn hu hv hxy hr
      have ih := eqFs_ok hlx hly hx hy r y hnr hr
      simp only [Op.eqFields, if_pos hn, Sem.run_bind, part_cell hg hu, part_cell hg hv, Result.andThen_ok, hxy]
      cases x with
      | true => simpa using ih
      | false => simp
    have e9 : (9999 : Nat) = 9998 + 1 := rfl
    split at h
    · rename_i kk k a k' b' hu hg hxc hyc
      split at h
      · rename_i y hk hr
        injection h with h
        subst h
        have hk : k = k' := by simpa using hk
        subst hk
        obtain ⟨u, hu1, hu2⟩ := cell hlx hx hxc
        obtain ⟨v, hv1, hv2⟩ := cell hly hy hyc
        cases hu2; cases hv2
        refine fin hg hn hu1 hv1 ?_ hr
        rw [e9, run_equalIn_int w _ _ _ _ _ _ hu, Bool.beq_eq_decide_eq]
      · cases h
    · rename_i a b' hu hg hxc hyc
      split at h
      · rename_i y hr
        injection h with h
        subst h
        obtain ⟨u, hu1, hu2⟩ := cell hlx hx hxc
        obtain ⟨v, hv1, hv2⟩ := cell hly hy hyc
        cases hu2; cases hv2
        refine fin hg hn hu1 hv1 ?_ hr
        rw [e9, run_equalIn_string w _ _ _ _ hu]
        congr 1
        rw [← beq_toListBytes]
        by_cases he : a = b'
        · simp [he, (MapKept.bytes_beq b' b').2 rfl]
        · rw [decide_eq_false he]
          cases hq : (a == b') with
          | false => rfl
          | true => exact absurd ((MapKept.bytes_beq a b').1 hq) he
      · cases h
    · rename_i a b' hu hg hxc hyc
      split at h
      · rename_i y hr
        injection h with h
        subst h
        obtain ⟨u, hu1, hu2⟩ := cell hlx hx hxc
        obtain ⟨v, hv1, hv2⟩ := cell hly hy hyc
        cases hu2; cases hv2
        refine fin hg hn hu1 hv1 ?_ hr
        rw [e9, run_equalIn_bool' w _ _ _ _ hu, Bool.beq_eq_decide_eq]
      · cases h
    · cases h
theorem eqAgg_ok {t : TypeId} {xs ys : List V} {vx vy : Array Value} (hlx : vx.size = xs.length) (hly : vy.size = ys.length) (hx : ∀ (k : Nat) (c : V) (v : Value), xs[k]? = some c → vx[k]? = some v → Rel G w c v)
    (hy : ∀ (k : Nat) (c : V) (v : Value), ys[k]? = some c → vy[k]? = some v → Rel G w c v) {b : Bool} (h : eqAgg C t xs ys = some b) : (Op.equalIn 10000 t (.agg vx) (.agg vy)).run C.P w = .ok b w ∧ C.P.eqGuardType C.P.depth t = false := by
  unfold eqAgg at h
  split at h
  · rename_i fs hu hc
    obtain ⟨u, hu1, hu2⟩ := List.any_eq_true.1 hc
    have hut : u = t := Nat.eq_of_beq_eq_true hu2
    subst hut
    have hok := List.all_eq_true.1 C.cmpOk _ hu1
    unfold okCmp at hok
    rw [hu] at hok
    simp only [Bool.and_eq_true, Bool.not_eq_true'] at hok
    obtain ⟨hs, hg, hnm⟩ := hok
    refine ⟨?_, hg⟩
    have hfo : C.P.fieldsOf u = fs := by simp only [Program.fieldsOf, hu]
    rw [show (10000 : Nat) = 9999 + 1 from rfl, run_equalIn_struct w 9999 u vx vy (by rw [hfo]; exact hu) hs, hfo]
    exact eqFs_ok hlx hly hx hy _ _ hnm h
  · cases h

theorem binOp_ok (hm : Mem G w h) (op : BinOp) (t : TypeId) (ox oy : Operand) {x y : V} {a b : Value} (hx : Rel G w x a) (hy : Rel G w y b) :
    OutOk G w ((do let r ← (do eqGuard op t ox oy a b; binOp op t a b : Sem Value); pure (.value r) : Sem Next).run C.P w) (binV C h op t x y) := by
  unfold binV
  split
  · rename_i k m k' n
    cases hx with | i _ _ hxb => ?_
    cases hy with | i _ _ hyb => ?_
    have hg : (eqGuard op t ox oy (.int k m) (.int k' n)).run C.P w = .ok () w := by
      unfold eqGuard
      split <;> rfl
    have he : (do let r ← (do eqGuard op t ox oy (.int k m) (.int k' n); binOp op t (.int k m) (.int k' n) : Sem Value); pure (.value r) : Sem Next).run C.P w
        = (do let r ← binOp op t (.int k m) (.int k' n); pure (.value r) : Sem Next).run C.P w := by
      simp only [Sem.run_bind, hg, Result.andThen_ok]
    rw [he]
    split
    · exact shI_ok hm _ _ _ _ _ (.inl rfl) t
    · exact shI_ok hm _ _ _ _ _ (.inr rfl) t
    · rename_i h1 h2
      split
      · rename_i hk
        have hk : k = k' := by simpa using hk
        subst hk
        exact binI_ok hm op k m n hxb h1 h2 t
      · trivial
  · rename_i p q
    cases hx; cases hy
    have hg : (eqGuard op t ox oy (.string p) (.string q)).run C.P w = .ok () w := by
      unfold eqGuard
      split <;> rfl
    have he : (do let r ← (do eqGuard op t ox oy (.string p) (.string q); binOp op t (.string p) (.string q) : Sem Value); pure (.value r) : Sem Next).run C.P w
        = (do let r ← binOp op t (.string p) (.string q); pure (.value r) : Sem Next).run C.P w := by
      simp only [Sem.run_bind, hg, Result.andThen_ok]
    rw [he]
    exact binS_ok hm op p q t
  · rename_i p q
    cases hx; cases hy
    have hg : (eqGuard op t ox oy (.bool p) (.bool q)).run C.P w = .ok () w := by
      unfold eqGuard
      split <;> rfl
    split
    · rename_i hu
      refine Did.pure hm (.b _) ?_
      simp only [Sem.run_bind, hg, Result.andThen_ok, binOp, run_equal_bool hu, Sem.run_pure, Bool.beq_eq_decide_eq]
    · rename_i hu
      refine Did.pure hm (.b _) ?_
      simp only [Sem.run_bind, hg, Result.andThen_ok, binOp, run_equal_bool hu, Sem.run_pure, Bool.beq_eq_decide_eq]
    · trivial
  · rename_i p q p' q'
    cases hx; cases hy
    have hg : (eqGuard op t ox oy (.complex .f64 p q) (.complex .f64 p' q')).run C.P w = .ok () w := by
      unfold eqGuard
      split <;> rfl
    split
    · refine Did.pure hm (.b _) ?_
      simp only [Sem.run_bind, hg, Result.andThen_ok, run_eql_complex, Sem.run_pure, cEq]
    · refine Did.pure hm (.b _) ?_
      simp only [Sem.run_bind, hg, Result.andThen_ok, run_neq_complex, Sem.run_pure, cEq]
    · trivial
  · rename_i id off
    cases hx with | ptr _ _ b o hρ => ?_
    cases hy
    have hg : (eqGuard op t ox oy (.pointer (some ⟨b, o + off, none⟩)) (.pointer none)).run C.P w = .ok () w := by
      unfold eqGuard
      split <;> rfl
    split
    · rename_i te hu
      have hu' : C.P.underlying t = some (.pointer (C.P.pointee t)) := by rw [hu]; simp [Program.pointee, hu]
      refine Did.pure hm (.b _) ?_
      simp only [Sem.run_bind, hg, Result.andThen_ok, binOp, run_equal_pointer_nil w t _ hu', Sem.run_pure]
      rfl
    · rename_i te hu
      have hu' : C.P.underlying t = some (.pointer (C.P.pointee t)) := by rw [hu]; simp [Program.pointee, hu]
      refine Did.pure hm (.b _) ?_
      simp only [Sem.run_bind, hg, Result.andThen_ok, binOp, run_equal_pointer_nil w t _ hu', Sem.run_pure]
      rfl
    · trivial
  · rename_i xs ys
    cases hx with | agg _ vx hlx hrx => ?_
    cases hy with | agg _ vy hly hry => ?_
    split
    · rename_i r hr
      obtain ⟨h1, h2⟩ := eqAgg_ok (w := w) hlx hly hrx hry hr
      refine Did.pure hm (.b _) ?_
      simp only [Sem.run_bind, run_eqGuard_agg w _ _ _ _ _ _ h2, Result.andThen_ok, run_eql_struct, h1, Sem.run_pure]
    · rename_i r hr
      obtain ⟨h1, h2⟩ := eqAgg_ok (w := w) hlx hly hrx hry hr
      refine Did.pure hm (.b _) ?_
      simp only [Sem.run_bind, run_eqGuard_agg w _ _ _ _ _ _ h2, Result.andThen_ok, run_neq_struct, h1, Sem.run_pure]
    · trivial
  · trivial

theorem unOp_ok (hm : Mem G w h) (op : UnOp) {x : V} {a : Value} (hx : Rel G w x a) :
    OutOk G w ((do let r ← Op.unary op a; pure (.value r) : Sem Next).run C.P w) (unV h op x) := by
  unfold unV
  split
  · cases hx
    exact Did.pure hm (.b _) (by simp [Op.unary])
  · cases hx
    exact Did.pure hm (Rel.wrap _ _) (by simp [Op.unary, Op.intArith])
  · trivial

/-! ### reading memory -/
theorem add_at (b o i : Nat) : (⟨b, o, none⟩ : Addr).add i = ⟨b, o + i, none⟩ := by
  unfold Addr.add
  split
  · rename_i hi; subst hi; rfl
  · rfl

theorem size_run {t : TypeId} {n : Nat} (hn : C.size t = some n) : (sizeOf t).run C.P w = .ok n w := by
  unfold Cfg.size at hn
  obtain ⟨i, hi, rfl⟩ := Option.map_eq_some_iff.1 hn
  simp [sizeOf, typeInfo, hi]

/-- Cells that hold plain values. -/
def CellsAt (G : Gh N) (w : World) (b o : Nat) (us : List V) : Prop := ∀ (k : Nat) (v : V), us[k]? = some v → ∃ val, cel w b (o + k) = some val ∧ Rel G w v val

theorem CellsAt.cut {b o : Nat} {us : List V} (hc : CellsAt G w b o us) (off n : Nat) : CellsAt G w b (o + off) ((us.drop off).take n) := by
  intro k v hv
  rw [List.getElem?_take] at hv
  split at hv
  · rw [List.getElem?_drop] at hv
    obtain ⟨val, h1, h2⟩ := hc _ _ hv
    exact ⟨val, by rw [Nat.add_assoc]; exact h1, h2⟩
  · cases hv

theorem loadCells_at {b o : Nat} {us : List V} (hc : CellsAt G w b o us) : ∃ cs : Array Value, (loadCells ⟨b, o, none⟩ us.length).run C.P w = .ok cs w ∧ cs.size = us.length ∧ ∀ (k : Nat) (c : V) (v : Value), us[k]? = some c → cs[k]? = some v → Rel G w c v := by
  have hf : ∀ j, j < us.length → w.cell? ((⟨b, o, none⟩ : Addr).add j) = some ((cel w b (o + j)).getD undef) := by
    intro j hj
    obtain ⟨val, h1, _⟩ := hc j _ (List.getElem?_eq_getElem hj)
    rw [add_at, h1]
    exact h1
  refine ⟨_, run_loadCells w _ _ _ hf, by simp, fun k c v h1 h2 => ?_⟩
  obtain ⟨val, h3, h4⟩ := hc k c h1
  have hk := (List.getElem?_eq_some_iff.1 h1).1
  simp only [List.getElem?_toArray, List.getElem?_map, List.getElem?_range hk, Option.map_some, Option.some.injEq] at h2
  rw [← h2, h3]
  exact h4

theorem loadVar_at {t : TypeId} {b o n : Nat} {g : Bool} {us : List V} (hn : C.size t = some n) (hg : C.isAgg t = some g) (hl : us.length = n) (hc : CellsAt G w b o us) (hm : Mem G w h) :
    OutOkP G w ((do let r ← loadVar t ⟨b, o, none⟩; pure (.value r) : Sem Next).run C.P w) (grp h g (some us)) := by
  unfold grp
  dsimp only
  unfold loadVar
  cases g with
  | true =>
    obtain ⟨cs, h1, h2, h3⟩ := loadCells_at (C := C) hc
    rw [hl] at h1
    refine ⟨_, ?_, .agg us cs h2 h3⟩
    simp only [Sem.run_bind, agg_run hg, Result.andThen_ok, if_true, size_run hn, h1, Sem.run_pure]
  | false =>
    dsimp only
    split
    · rename_i v
      obtain ⟨val, h1, h2⟩ := hc 0 v rfl
      refine ⟨val, ?_, h2⟩
      have h1' : w.cell? ⟨b, o, none⟩ = some val := h1
      simp only [Sem.run_bind, agg_run hg, Result.andThen_ok, Bool.false_eq_true, if_false, run_load, h1', Sem.run_pure]
    · trivial

theorem box_cells {id : Nat} {vs : List V} {b o : Nat} (hm : Mem G w h) (hi : h[id]? = some (.box vs)) (hρ : G.ρ[id]? = some (.pointer (some ⟨b, o, none⟩))) : CellsAt G w b o vs := by
  obtain ⟨b', o', h1, h2⟩ := hm.obj _ _ hi
  rw [hρ] at h1
  simp only [Option.some.injEq, Value.pointer.injEq, Addr.mk.injEq] at h1
  obtain ⟨rfl, rfl, _⟩ := h1
  intro k v hv
  obtain ⟨_, _, val, h3, h4⟩ := h2 k v hv
  exact ⟨val, h3, h4⟩

theorem pim_cells {vs : List V} {b o : Nat} (hx : Rel G w (.pim vs) (.pointer (some ⟨b, o, none⟩))) : CellsAt G w b o vs := by
  cases hx with
  | pim _ _ _ f hmm hr => exact fun k v hv => ⟨f k, (hmm k v hv).2, hr k v hv⟩

theorem castL_some {e e' : Ty} {ys : List e'.den} {xs : List e.den} (h : castL e e' ys = some xs) : ∃ he : e' = e, he ▸ ys = xs := by
  unfold castL at h
  split at h
  · rename_i he
    injection h with h
    exact ⟨Ty.same_eq _ _ he, h⟩
  · cases h
theorem asL_rel {e : Ty} {v : V} {xs : List e.den} (ha : asL e v = some xs) {val : Value} (hv : Rel G w v val) : Rel G w (.l e xs) val := by
  unfold asL at ha
  split at ha
  · obtain ⟨he, hx⟩ := castL_some ha
    subst he
    subst hx
    exact hv
  · injection ha with ha
    subst ha
    cases hv
    exact .lnil e none 0
  · cases ha

theorem row_elem {e : Ty} {xs : List e.den} {id b o cap : Nat} (hr : RowAt G w id e xs b o cap) {i : Nat} (hi : i < xs.length) (z : e.den) (hz : xs[i]? = some z) : CellsAt G w b (o + i * e.n) (e.leaves z) := by
  intro k v hkv
  obtain ⟨val, h1, h2⟩ := hr.2.2 i z k v hz hkv
  exact ⟨val, by rw [Nat.add_assoc]; exact h1, h2⟩

/-- A list's elements in memory, where they may be read: of what is only read, or of a row. -/
theorem list_elem {e : Ty} {xs : List e.den} {b o len cap : Nat} {x : V} (hx : Rel G w x (.slice (some ⟨b, o, none⟩) len cap)) (hm : Mem G w h) (ha : asL e (imm1 h x) = some xs) {i : Int} (hi : inb i xs.length = true) :
    CellsAt G w b (o + i.toNat * e.n) (e.leaves (rd e xs i)) := by
  unfold inb at hi
  simp only [Bool.and_eq_true, decide_eq_true_eq] at hi
  have hlt : i.toNat < xs.length := by omega
  have hget : xs[i.toNat]? = some (rd e xs i) := by
    unfold rd
    rw [List.getD_eq_getElem?_getD, List.getElem?_eq_getElem hlt]
    rfl
  have key : ∀ {v : V}, asL e v = some xs → Rel G w v (.slice (some ⟨b, o, none⟩) len cap) → CellsAt G w b (o + i.toNat * e.n) (e.leaves (rd e xs i)) := by
    intro v hv hr
    have := asL_rel hv hr
    cases this with
    | lnil => simp at hlt
    | l _ _ _ _ _ f hc hmm hrr =>
      intro k v hkv
      have h1 := hmm _ _ k v hget hkv
      exact ⟨_, by rw [Nat.add_assoc]; exact h1.2, hrr _ _ k v hget hkv⟩
  cases x with
  | row id =>
    cases hx with
    | row _ _ hρ =>
      simp only [imm1, nth_eq] at ha
      split at ha
      · rename_i e' ys hob
        have ho := hm.obj _ _ hob
        obtain ⟨he, hy⟩ := castL_some (show castL e e' ys = some xs from ha)
        subst he
        subst hy
        rcases ho with ⟨h1, h2⟩ | ⟨b', o', cap', h1, h2⟩
        · rw [hρ] at h1
          simp at h1
        · rw [hρ] at h1
          simp only [Option.some.injEq, Value.slice.injEq, Addr.mk.injEq] at h1
          obtain ⟨⟨rfl, rfl, _⟩, _, rfl⟩ := h1
          exact row_elem h2 hlt _ hget
      · rename_i e' ys hob
        obtain ⟨v, h1, h2⟩ := hm.obj _ _ hob
        rw [hρ] at h1
        injection h1 with h1
        rw [← h1] at h2
        exact key ha h2
      · cases ha
  | _ => exact key ha hx

theorem cell_of_cut {b o off n : Nat} {vs us : List V} (hc : CellsAt G w b o vs) (hu : cut off n vs = some us) : us.length = n ∧ CellsAt G w b (o + off) us := by
  obtain ⟨h1, rfl⟩ := cut_some hu
  exact ⟨by rw [List.length_take, List.length_drop]; omega, hc.cut off n⟩

theorem grp_cut {t : TypeId} {b o n off : Nat} {g : Bool} {vs : List V} (hn : C.size t = some n) (hg : C.isAgg t = some g) (hc : CellsAt G w b o vs) (hm : Mem G w h) :
    OutOkP G w ((do let r ← loadVar t ⟨b, o + off, none⟩; pure (.value r) : Sem Next).run C.P w) (grp h g (cut off n vs)) := by
  cases hu : cut off n vs with
  | none => trivial
  | some us =>
    obtain ⟨h1, h2⟩ := cell_of_cut hc hu
    exact loadVar_at hn hg h1 h2 hm

theorem load_okP (hm : Mem G w h) (t : TypeId) {a : V} {va : Value} (hx : Rel G w a va) :
    OutOkP G w ((do let r ← Instr.loadAt t va; pure (.value r) : Sem Next).run C.P w) (loadV C h t a) := by
  unfold loadV
  split
  · rename_i n g hn hg
    have hs : ∀ b o, (do let r ← Instr.loadAt t (.pointer (some ⟨b, o, none⟩)); pure (.value r) : Sem Next).run C.P w = (do let r ← loadVar t ⟨b, o, none⟩; pure (.value r) : Sem Next).run C.P w := fun b o => rfl
    split
    · rename_i id off
      rw [nth_eq]
      split
      · rename_i vs hi
        cases hx with
        | ptr _ _ b o hρ =>
          rw [hs]
          exact grp_cut hn hg (box_cells hm hi hρ) hm
      · trivial
    · rename_i vs
      cases hx with
      | pim _ b o f hmm hr =>
        rw [hs]
        exact grp_cut (off := 0) hn hg (pim_cells (.pim vs b o f hmm hr)) hm
    · rename_i e id i off
      split
      · rename_i xs ha
        cases hx with
        | pel _ _ _ _ b o len cap hρ =>
          refine OutOkP.under fun hi => ?_
          rw [hs, ← Nat.add_assoc]
          exact grp_cut hn hg (list_elem (.row id _ hρ) hm ha hi) hm
      · trivial
    · trivial
  · trivial

theorem grp_stays (g : Bool) (vs : Option (List V)) : (grp h g vs).stays h := by
  unfold grp
  split
  · split
    · rfl
    · split
      · rfl
      · trivial
  · trivial
theorem under_stays {o : Out} {c : Bool} (hs : o.stays h) : (o.under c).stays h := by
  cases o <;> first | exact hs | trivial
theorem load_stays (t : TypeId) (a : V) : (loadV C h t a).stays h := by
  unfold loadV
  split
  · split
    · split
      · exact grp_stays _ _
      · trivial
    · exact grp_stays _ _
    · split
      · exact under_stays (grp_stays _ _)
      · trivial
    · trivial
  · trivial
theorem load_ok (hm : Mem G w h) (t : TypeId) {a : V} {va : Value} (hx : Rel G w a va) :
    OutOk G w ((do let r ← Instr.loadAt t va; pure (.value r) : Sem Next).run C.P w) (loadV C h t a) :=
  OutOkP.ok hm (load_stays t a) (load_okP hm t hx)

theorem fld_run {t : TypeId} {f : Nat} {fd : Field} (hf : C.fld t f = some fd) : ∃ fs : Array Field, C.P.underlying t = some (.struct fs) ∧ fs[f]? = some fd := by
  unfold Cfg.fld at hf
  split at hf
  · rename_i fs hu
    rw [nth_eq, Array.getElem?_toList] at hf
    exact ⟨fs, hu, hf⟩
  · cases hf

theorem fieldAddr_ok (hm : Mem G w h) {t : TypeId} {f : Nat} {fd : Field} (hf : C.fld t f = some fd) {n : Nat} (hn : C.size fd.type = some (n + 1)) {a : V} {va : Value} (hx : Rel G w a va) :
    OutOk G w ((do let r ← Instr.fieldAt t va f; pure (.value r) : Sem Next).run C.P w) (offV h a fd.offset) := by
  obtain ⟨fs, hu, hfs⟩ := fld_run hf
  have hs : ∀ b o, (do let r ← Instr.fieldAt t (.pointer (some ⟨b, o, none⟩)) f; pure (.value r) : Sem Next).run C.P w = .ok (.value (.pointer (some ⟨b, o + fd.offset, none⟩))) w := by
    intro b o
    unfold Instr.fieldAt
    simp only [Sem.run_bind, run_underlying hu, Result.andThen_ok, hfs, Instr.sureAddr, Sem.run_pure, fieldPlace, size_run hn, Nat.add_one_ne_zero, if_false, add_at]
  unfold offV
  split
  · rename_i id off
    cases hx with
    | ptr _ _ b o hρ =>
      refine Did.pure hm (.ptr id _ b o hρ) ?_
      rw [hs, Nat.add_assoc]
  · rename_i vs
    cases hx with
    | pim _ b o g hmm hr =>
      refine Did.pure hm (.pim (vs.drop fd.offset) b (o + fd.offset) (fun k => g (fd.offset + k)) (fun k v hv => ?_) (fun k v hv => ?_)) (hs b o)
      · rw [List.getElem?_drop] at hv
        rw [Nat.add_assoc]
        exact hmm _ _ hv
      · rw [List.getElem?_drop] at hv
        exact hr _ _ hv
  · rename_i e id i off
    cases hx with
    | pel _ _ _ _ b o len cap hρ =>
      refine Did.pure hm (.pel e id i _ b o len cap hρ) ?_
      rw [hs, Nat.add_assoc, Nat.add_assoc]
  · trivial

theorem field_ok (hm : Mem G w h) {t : TypeId} {f : Nat} {fd : Field} (hf : C.fld t f = some fd) {n : Nat} {g : Bool} (hn : C.size fd.type = some n) (hg : C.isAgg fd.type = some g) {vs : List V} {va : Value} (hx : Rel G w (.agg vs) va) :
    OutOk G w ((do let r ← Instr.field t va f; pure (.value r) : Sem Next).run C.P w) (grp h g (cut fd.offset n vs)) := by
  obtain ⟨fs, hu, hfs⟩ := fld_run hf
  cases hx with
  | agg _ vals hl hr =>
    have hs : (do let r ← Instr.field t (.agg vals) f; pure (.value r) : Sem Next).run C.P w = (do let r ← part fd.type vals fd.offset; pure (.value r) : Sem Next).run C.P w := by
      unfold Instr.field
      simp only [Sem.run_bind, run_underlying hu, Result.andThen_ok, hfs, asAgg, Sem.run_pure]
    rw [hs]
    cases hc : cut fd.offset n vs with
    | none => trivial
    | some us =>
      obtain ⟨h1, h2⟩ := cut_some hc
      have hus : ∀ (k : Nat) (c : V) (v : Value), us[k]? = some c → vals[fd.offset + k]? = some v → Rel G w c v := by
        intro k c v hk hv
        rw [h2, List.getElem?_take] at hk
        split at hk
        · rw [List.getElem?_drop] at hk
          exact hr _ _ _ hk hv
        · cases hk
      have hul : us.length = n := by rw [h2, List.length_take, List.length_drop]; omega
      unfold grp
      dsimp only
      unfold part
      cases g with
      | true =>
        refine Did.pure hm (.agg us (vals.extract fd.offset (fd.offset + n)) (by rw [Array.size_extract, hul]; omega) (fun k c v hk hv => ?_)) (by simp only [Sem.run_bind, agg_run hg, Result.andThen_ok, if_true, size_run hn, Sem.run_pure])
        rw [Array.getElem?_extract] at hv
        split at hv
        · exact hus _ _ _ hk hv
        · cases hv
      | false =>
        match us, hul, hus with
        | [v], hul, hus =>
          have hlt : fd.offset < vals.size := by simp only [List.length_singleton] at hul; omega
          refine Did.pure hm (hus 0 v _ rfl (Array.getElem?_eq_getElem (by omega))) ?_
          simp only [Sem.run_bind, agg_run hg, Result.andThen_ok, Bool.false_eq_true, if_false, Nat.add_zero, Array.getElem?_eq_getElem hlt, Sem.run_pure]
        | [], _, _ => trivial
        | _ :: _ :: _, _, _ => trivial

theorem elem_run {t te : TypeId} (he : C.elem t = some te) : C.P.underlying t = some (.slice te) := by
  unfold Cfg.elem at he
  split at he
  · rename_i e hu
    injection he with he
    subst he
    exact hu
  · cases he
theorem tyOf_size {t : TypeId} {e : Ty} (he : C.tyOf t = some e) : C.size t = some e.n := by
  unfold Cfg.tyOf at he
  split at he
  · split at he
    · rename_i τ _ _ n hn
      cases hb : Nat.beq τ.n n with
      | true =>
        rw [hb, cond_true] at he
        injection he with he
        subst he
        rw [hn, Nat.eq_of_beq_eq_true hb]
      | false => rw [hb, cond_false] at he; cases he
    · cases he
  · cases he

theorem idxAddr_ok (hm : Mem G w h) (t : TypeId) {x i : V} {vx vi : Value} (hx : Rel G w x vx) (hi : Rel G w i vi) :
    OutOk G w ((do let r ← Instr.indexAt t vx vi; pure (.value r) : Sem Next).run C.P w) (idxAddr C h t x i) := by
  unfold idxAddr
  split
  · rename_i te k n he
    split
    · rename_i τ hτ
      split
      · rename_i xs ha
        intro hin
        cases hi
        have hb : 0 ≤ n ∧ n < xs.length := by
          unfold inb at hin
          simpa using hin
        -- the slice's own form
        have form : ∃ b o cap, vx = .slice (some ⟨b, o, none⟩) xs.length cap := by
          cases x with
          | row id =>
            cases hx with
            | row _ _ hρ =>
              simp only [imm1, nth_eq] at ha
              split at ha
              · rename_i e' ys hob
                have ho := hm.obj _ _ hob
                obtain ⟨he', hy⟩ := castL_some (show castL τ e' ys = some xs from ha)
                subst he'
                subst hy
                rcases ho with ⟨h1, h2⟩ | ⟨b', o', cap', h1, h2⟩
                · subst h2; simp at hb; omega
                · rw [hρ] at h1
                  injection h1 with h1
                  exact ⟨_, _, _, h1⟩
              · rename_i e' ys hob
                obtain ⟨v, h1, h2⟩ := hm.obj _ _ hob
                rw [hρ] at h1
                injection h1 with h1
                subst h1
                have h3 := asL_rel ha h2
                cases h3 with
                | lnil => simp at hb; omega
                | l _ _ b o cap _ _ _ _ => exact ⟨b, o, cap, rfl⟩
              · cases ha
          | _ =>
            have h3 := asL_rel ha hx
            cases h3 with
            | lnil => simp at hb; omega
            | l _ _ b o cap _ _ _ _ => exact ⟨b, o, cap, rfl⟩
        obtain ⟨b, o, cap, rfl⟩ := form
        have hc := list_elem hx hm ha hin
        have hrun : (do let r ← Instr.indexAt t (.slice (some ⟨b, o, none⟩) xs.length cap) (.int k n); pure (.value r) : Sem Next).run C.P w = .ok (.value (.pointer (some ⟨b, o + n.toNat * τ.n, none⟩))) w := by
          unfold Instr.indexAt
          simp only [asIntOf, Sem.run_bind, Sem.run_pure, Result.andThen_ok, run_underlying (elem_run he), hb, and_self, if_true, size_run (tyOf_size hτ), add_at]
        split
        · rename_i id
          cases hx with
          | row _ _ hρ => exact Did.pure hm (.pel τ id n 0 b o _ cap hρ) (by rw [hrun, Nat.add_zero])
        · rename_i hnr
          refine Did.pure hm (.pim _ b (o + n.toNat * τ.n) (fun k => (cel w b (o + n.toNat * τ.n + k)).getD undef) (fun k v hv => ?_) (fun k v hv => ?_)) hrun
          · obtain ⟨val, h1, h2⟩ := hc k v hv
            refine ⟨?_, by rw [h1]; rfl⟩
            have hx' : imm1 h x = x := by cases x <;> first | rfl | exact absurd rfl (hnr _)
            rw [hx'] at ha
            have h3 := asL_rel ha hx
            have hlt : n.toNat < xs.length := by omega
            have hget : xs[n.toNat]? = some (rd τ xs n) := by
              unfold rd
              rw [List.getD_eq_getElem?_getD, List.getElem?_eq_getElem hlt]
              rfl
            cases h3 with
            | lnil => simp at hlt
            | l _ _ _ _ _ f hcc hmm hrr =>
              rw [Nat.add_assoc]
              exact (hmm _ _ k v hget hv).1
          · obtain ⟨val, h1, h2⟩ := hc k v hv
            rw [h1]
            exact h2
      · trivial
    · trivial
  · trivial

theorem bt_get {a : ByteArray} {n : Int} (h0 : 0 ≤ n) (h1 : n < a.size) : a[n.toNat]? = some (bt a n) := by
  have hlt : n.toNat < a.size := by omega
  have hlt' : n.toNat < a.data.toList.length := by simpa using hlt
  rw [getElem?_pos a n.toNat hlt]
  unfold bt
  rw [List.getD_eq_getElem?_getD, List.getElem?_eq_getElem hlt']
  rfl

theorem index_ok (hm : Mem G w h) {t : TypeId} (hu : C.P.underlying t = some .string) {a : ByteArray} {k : IntKind} {n : Int} {vx vi : Value} (hx : Rel G w (.s a) vx) (hi : Rel G w (.i k n) vi) :
    OutOk G w ((do let r ← Instr.index t vx vi; pure (.value r) : Sem Next).run C.P w) (.chk (inb n a.size) (.i .u8 (bt a n).toNat) h) := by
  intro hin
  cases hx; cases hi
  have hb : 0 ≤ n ∧ n < a.size := by
    unfold inb at hin
    simpa using hin
  refine Did.pure hm (.i .u8 _ fun _ => ?_) ?_
  · have := (bt a n).toNat_lt
    omega
  · unfold Instr.index
    simp only [asIntOf, Sem.run_bind, Sem.run_pure, Result.andThen_ok, run_underlying hu, hb.1, if_true, bt_get hb.1 hb.2]

theorem extract_ok (hm : Mem G w h) {vs : List V} {n : Nat} {v : V} (hv : vs[n]? = some v) {vx : Value} (hx : Rel G w (.tup vs) vx) :
    OutOk G w ((do let r ← Instr.extract vx n; pure (.value r) : Sem Next).run C.P w) (.val v h) := by
  cases hx with
  | tup _ vals hl hr =>
    have hlt : n < vals.size := by have := (List.getElem?_eq_some_iff.1 hv).1; omega
    exact Did.pure hm (hr n v _ hv (Array.getElem?_eq_getElem hlt)) (by simp [Instr.extract, hlt])

theorem len_ok (hm : Mem G w h) (t : TypeId) {x : V} {vx : Value} (hx : Rel G w x vx) (ty : TypeId) :
    OutOk G w ((do let r ← Builtin.len_ #[t] ty #[vx]; pure (.value r) : Sem Next).run C.P w) (lenV C h t x) := by
  have key : ∀ {e : Ty} {xs : List e.den} {te : TypeId}, C.P.underlying t = some (.slice te) → (∃ base cap, vx = .slice base xs.length cap) → Did G w ((do let r ← Builtin.len_ #[t] ty #[vx]; pure (.value r) : Sem Next).run C.P w) (.i .i64 xs.length) h := by
    rintro e xs te hu ⟨base, cap, rfl⟩
    refine Did.pure hm (.i .i64 _ (by simp)) ?_
    unfold Builtin.len_
    simp only [List.getElem?_toArray, List.getElem?_cons_zero, Sem.run_bind, run_underlying hu, Result.andThen_ok, Sem.run_pure, goInt]
  have lform : ∀ {e : Ty} {xs : List e.den} {v : Value}, Rel G w (.l e xs) v → ∃ base cap, v = .slice base xs.length cap := by
    intro e xs v hr
    cases hr with
    | lnil => exact ⟨_, _, rfl⟩
    | l _ _ b o cap _ _ _ _ => exact ⟨_, cap, rfl⟩
  unfold lenV
  split
  · rename_i a hu hx'
    have : x = .s a := by
      cases x <;> first | exact hx' | (simp only [imm1] at hx'; first | (cases hx'; done) | (split at hx' <;> cases hx'))
    subst this
    cases hx
    refine Did.pure hm (.i .i64 _ (by simp)) ?_
    unfold Builtin.len_
    simp only [List.getElem?_toArray, List.getElem?_cons_zero, Sem.run_bind, run_underlying hu, Result.andThen_ok, Sem.run_pure, goInt]
  · rename_i te e xs hu hx'
    refine key hu ?_
    cases x with
    | row id =>
      cases hx with
      | row _ _ hρ =>
        simp only [imm1, nth_eq] at hx'
        split at hx'
        · rename_i e' ys hob
          injection hx' with h1 h2
          subst h1
          have h2 := eq_of_heq h2
          subst h2
          rcases hm.obj _ _ hob with ⟨h1, h2⟩ | ⟨b', o', cap', h1, h2⟩
          · rw [hρ] at h1
            injection h1 with h1
            subst h1; subst h2
            exact ⟨none, 0, rfl⟩
          · rw [hρ] at h1
            injection h1 with h1
            exact ⟨_, _, h1⟩
        · rename_i e' ys hob
          injection hx' with h1 h2
          subst h1
          have h2 := eq_of_heq h2
          subst h2
          obtain ⟨v, h1, h2⟩ := hm.obj _ _ hob
          rw [hρ] at h1
          injection h1 with h1
          subst h1
          exact lform h2
        · cases hx'
    | l e' ys =>
      simp only [imm1] at hx'
      injection hx' with h1 h2
      subst h1
      have h2 := eq_of_heq h2
      subst h2
      exact lform hx
    | _ => simp only [imm1] at hx' <;> cases hx'
  · rename_i te hu hx'
    have : x = .nil := by
      cases x <;> first | rfl | (simp only [imm1] at hx'; first | (cases hx'; done) | (split at hx' <;> cases hx'))
    subst this
    cases hx
    exact key (e := .b) (xs := []) hu ⟨none, 0, rfl⟩
  · trivial
end
end Go.Pv
