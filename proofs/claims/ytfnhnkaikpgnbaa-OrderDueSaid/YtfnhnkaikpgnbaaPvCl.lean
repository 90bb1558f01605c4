/- The engine: slices.Clone, by hand: a slice that is compared with nil. -/
import Derived.Test.YtfnhnkaikpgnbaaPvHd
import Derived.Test.YtfnhnkaikpgnbaaPvK
namespace Go.Pv
open Go
set_option linter.all false
set_option linter.constructorNameAsVariable false
set_option linter.unusedSectionVars false
set_option linter.unusedVariables false
set_option linter.unusedSimpArgs false

def sqL : Code → Code | .seq a _ => a | c => c
def sqR : Code → Code | .seq _ b => b | c => c
def cdX : Code → Code | .cond _ x _ => x | c => c
def cdY : Code → Code | .cond _ _ y => y | c => c
def bkI : Code → Code | .block _ y => y | c => c
def rgO : Code → List Oper | .region _ ops _ => ops.toList | _ => []
def rgI : Code → Nat | .region i _ _ => i | _ => 0

variable {C : Cfg}
theorem Abs.putU {D : List Deferred} {n : Nat} {G : Gh C.gl} {s : St} {a : Act} {w : World} (h : Abs D n G s a w) {d : Nat} (hd : look d s.env = .u) (v : Value) : Abs D n G s (a.put (some d) v) w := by
  refine ⟨h.defers, by show (a.tmps.setIfInBounds d v).size = n; rw [Array.size_setIfInBounds]; exact h.size, fun t => ?_, h.mem⟩
  by_cases ht : t = d
  · subst ht; rw [hd]; exact .u _
  · show Rel G w (look t s.env) ((a.tmps.setIfInBounds d v).getD t undef)
    rw [Array.getD_eq_getD_getElem?, Array.getElem?_setIfInBounds_ne (Ne.symm ht), ← Array.getD_eq_getD_getElem?]
    exact h.env t
theorem wpList_val {P : Program} {ops : Array Oper} {Q : Exit → Act → World → Prop} {rest : List Oper} {o : Oper} {a : Act} {w w' : World} {v : Value} (hg : o.guard = none) (hr : (execOp a.eval o).run P w = .ok (.value v) w') (h : wpList P ops Q rest (a.put o.dst v) w') : wpList P ops Q (o :: rest) a w :=
  wpList_plain hg fun K hK => by
    unfold Oper.wp
    rw [hr, Oper.upon_value]
    exact hK _ _ h
theorem getD_put {a : Act} {d t : Nat} {v : Value} (hd : d < a.tmps.size) : (a.put (some d) v).tmps.getD t undef = if t = d then v else a.tmps.getD t undef := by
  show (a.tmps.setIfInBounds d v).getD t undef = _
  rw [Array.getD_eq_getD_getElem?]
  by_cases h : t = d
  · subst h; simp [hd]
  · rw [if_neg h, Array.getElem?_setIfInBounds_ne (Ne.symm h), ← Array.getD_eq_getD_getElem?]

abbrev KFin (C : Cfg) (fn : Func) (ins outs : List Sh) (m : Nat) : PX → St → Option (shsDen outs × shsDen (shsUpd ins)) := fun e s => match e with
  | .nx | .rt => finish C fn ins outs ((List.range m).map fun t => look t s.env) s
  | _ => none

theorem hpost_of {D : List Deferred} {fn : Func} {ins outs : List Sh} {G G1 : Gh C.gl} {a a1 : Act} {w w1 : World} {x : shsDen ins} {y : shsDen outs × shsDen (shsUpd ins)} (hD : Marked w D w1) (hE : Ext G w G1 w1) (hK : Keep (kpOf 0 ins) a a1) {e : Exit} {a' : Act} {w' : World}
    (hM : ∀ K, D = [{ target := .collected K, args := #[] }] → ∀ o, G1.ow K o = none)
    (h : Post D fn.ntmps (kpOf 0 ins) G1 a1 w1 (KFin C fn ins outs (shsMk 0 ins x).1.length) y e a' w') : ∃ D, Marked w D w' ∧ HPost C fn ins outs G a w x y D e a' w' := by
  obtain ⟨p, s', Gs, he, q1, q2, q3, q4⟩ := h
  have hee : (e = .normal ∨ e = .ret) ∧ finish C fn ins outs ((List.range (shsMk 0 ins x).1.length).map fun t => look t s'.env) s' = some y := by
    cases e with
    | normal => simp only [PX.of, Option.some.injEq] at he; subst he; exact ⟨.inl rfl, q3⟩
    | ret => simp only [PX.of, Option.some.injEq] at he; subst he; exact ⟨.inr rfl, q3⟩
    | exit id => simp only [PX.of, Option.some.injEq] at he; subst he; cases q3
    | goto l => simp only [PX.of, Option.some.injEq] at he; subst he; cases q3
    | panic ch => simp [PX.of] at he
    | outgrown => simp [PX.of] at he
  refine ⟨D, ?_, s', Gs, hee.1, q1, hE.trans q2, hK.trans q4, hee.2⟩
  rcases hD with hD | ⟨K, hD, hK1, hK2⟩
  · exact .inl hD
  · exact .inr ⟨K, hD, by rw [q2.block K (Array.getElem?_eq_some_iff.1 hK1).1 (hM K hD)]; exact hK1, hK2⟩

theorem eql_nil {t e : TypeId} (hu : C.P.underlying t = some (.slice e)) (A : Option Addr) (m cap : Nat) (w : World) : (Op.equal t (.slice A m cap) (.slice none 0 0)).run C.P w = .ok A.isNone w := by
  show (Op.equalIn (9999 + 1) t (.slice A m cap) (.slice none 0 0)).run C.P w = _
  unfold Op.equalIn
  have h := run_underlying (w := w) hu
  simp only [Sem.run_bind, h, Result.andThen_ok]
  cases A <;> rfl
theorem exec_eql_nil {t e : TypeId} (hu : C.P.underlying t = some (.slice e)) {o : Oper} {tt : TypeId} {d : Nat} (h2 : o.op = .binOp .eql t (.tmp d) (.const (.slice none 0 0)) tt) {a : Act} {A : Option Addr} {m cap : Nat} (hv : a.tmps.getD d undef = .slice A m cap) (w : World) :
    (execOp a.eval o).run C.P w = .ok (.value (.bool A.isNone)) w := by
  have h1 : (binOp .eql t (.slice A m cap) (.slice none 0 0)).run C.P w = .ok (.bool A.isNone) w := by
    show (do let r ← Op.equal t (.slice A m cap) (.slice none 0 0); pure (Value.bool r) : Sem Value).run C.P w = _
    rw [Sem.run_bind, eql_nil hu]
    rfl
  unfold execOp
  rw [h2]
  have he : a.eval (.tmp d) = .slice A m cap := hv
  simp only [he, Sem.run_bind]
  show ((eqGuard .eql t (.tmp d) (.const (.slice none 0 0)) (.slice A m cap) (.slice none 0 0)).run C.P w |>.andThen _).andThen _ = _
  have hg : (eqGuard .eql t (.tmp d) (.const (.slice none 0 0)) (.slice A m cap) (.slice none 0 0)).run C.P w = .ok () w := rfl
  rw [hg, Result.andThen_ok, show (a.eval (.const (.slice none 0 0))) = .slice none 0 0 from rfl, h1, Result.andThen_ok]
  rfl
theorem put_size {a : Act} {d : Nat} {v : Value} : (a.put (some d) v).tmps.size = a.tmps.size := by simp [Act.put]

/-- .. where the function is left by 'return' alone. -/
abbrev KRet (C : Cfg) (fn : Func) (ins outs : List Sh) (m : Nat) : PX → St → Option (shsDen outs × shsDen (shsUpd ins)) := fun e s => match e with
  | .rt => finish C fn ins outs ((List.range m).map fun t => look t s.env) s
  | _ => none
theorem post_ret {D : List Deferred} {fn : Func} {ins outs : List Sh} {m n : Nat} {kp : List Nat} {G : Gh C.gl} {a : Act} {w : World} {y : shsDen outs × shsDen (shsUpd ins)} {e : Exit} {a' : Act} {w' : World} (h : Post D n kp G a w (KRet C fn ins outs m) y e a' w') :
    e = .ret ∧ Post D n kp G a w (KFin C fn ins outs m) y e a' w' := by
  obtain ⟨p, s', Gs, he, k1, k2, k3, k4⟩ := h
  cases e with
  | ret =>
    refine ⟨rfl, p, s', Gs, he, k1, k2, ?_, k4⟩
    simp only [PX.of, Option.some.injEq] at he
    subst he
    exact k3
  | normal => simp only [PX.of, Option.some.injEq] at he; subst he; cases k3
  | exit id => simp only [PX.of, Option.some.injEq] at he; subst he; cases k3
  | goto l => simp only [PX.of, Option.some.injEq] at he; subst he; cases k3
  | panic ch => simp [PX.of] at he
  | outgrown => simp [PX.of] at he

theorem clone_wp {c r0 r2 r3 : Code} {i1 : Nat} {o1 o2 : Oper} {t te tt : TypeId} (hc : c = .seq r0 (.seq (.seq (.region i1 #[o1, o2] false) (.cond (.tmp 4) (.seq r2 .ret) .skip)) (.seq r3 .ret)))
    (h1 : o1.op = .move (.tmp 0)) (h1d : o1.dst = some 3) (h1g : o1.guard = none) (h2 : o2.op = .binOp .eql t (.tmp 3) (.const (.slice none 0 0)) tt) (h2d : o2.dst = some 4) (h2g : o2.guard = none) (hu : C.P.underlying t = some (.slice te))
    {fn : Func} {ins outs : List Sh} {x : shsDen ins} {y : shsDen outs × shsDen (shsUpd ins)} {G : Gh C.gl} {a : Act} {w : World} {s s1 : St} (hn : 5 ≤ fn.ntmps) (hA : Abs [] fn.ntmps G s a w)
    (hk : ∀ d, d ∈ kpOf 0 ins → d = 0)
    (h0 : pexec C fn.ntmps (kpOf 0 ins) [] [] 9 r0 s (fun p s => some (p, s)) = some (.nx, s1)) (hs3 : look 3 s1.env = .u) (hs4 : look 4 s1.env = .u) {FA : Prop}
    (hv : ∀ (G : Gh C.gl) a w, Abs [] fn.ntmps G s1 a w → ∃ A m cap, a.tmps.getD 0 undef = .slice A m cap ∧ (A = none → FA))
    (hnil : FA → pexec C fn.ntmps (kpOf 0 ins) [] [] 9 (.seq r2 .ret) s1 (KRet C fn ins outs (shsMk 0 ins x).1.length) = some y)
    (hall : pexec C fn.ntmps (kpOf 0 ins) [] [] 9 (.seq r3 .ret) s1 (KRet C fn ins outs (shsMk 0 ins x).1.length) = some y)
    (l0 : loopsIn r0 = [] ∧ scopesIn r0 = []) (l2 : loopsIn r2 = [] ∧ scopesIn r2 = []) (l3 : loopsIn r3 = [] ∧ scopesIn r3 = []) :
    c.wp C.P (fun e a' w' => ∃ D, Marked w D w' ∧ HPost C fn ins outs G a w x y D e a' w') a w := by
  rw [hc]
  have hL : ∀ {c : Code}, loopsIn c = [] → ∀ body, body ∈ loopsIn c → ∀ k sp, lkey body = some k → find k ([] : List (Nat × LSpec)) = some sp → LSnd C fn.ntmps (kpOf 0 ins) body sp := fun h b hb => by rw [h] at hb; cases hb
  have hS : ∀ {c : Code}, scopesIn c = [] → SOk C fn.ntmps (kpOf 0 ins) [] c := fun h B hB => by rw [h] at hB; cases hB
  refine wp_seq (wp_mono ((pexec_ok (D := []) (T := []) (L := []) hT_nil 9).1 r0 s _ _ (hL l0.1) (hS l0.2) h0 G a w hA) ?_)
  rintro e a1 w1 ⟨p, s', G1, he, q1, q2, q3, q4⟩
  injection q3 with q3
  injection q3 with q3 q3'
  subst p
  subst s'
  cases e with
  | normal =>
    obtain ⟨A, m, cap, hval, hFA⟩ := hv G1 a1 w1 q1
    have hsz := q1.size
    obtain ⟨a2, ha2⟩ : ∃ a2, a2 = (a1.put (some 3) (.slice A m cap)).put (some 4) (.bool A.isNone) := ⟨_, rfl⟩
    have g3 : (a1.put (some 3) (.slice A m cap)).tmps.getD 3 undef = .slice A m cap := by rw [getD_put (by omega), if_pos rfl]
    have g4 : a2.tmps.getD 4 undef = .bool A.isNone := by rw [ha2, getD_put (by rw [put_size]; omega), if_pos rfl]
    have g0 : a2.tmps.getD 0 undef = a1.tmps.getD 0 undef := by rw [ha2, getD_put (by rw [put_size]; omega), if_neg (by decide), getD_put (by omega), if_neg (by decide)]
    have hA2 : Abs [] fn.ntmps G1 s1 a2 w1 := by rw [ha2]; exact (q1.putU hs3 _).putU hs4 _
    have hK2 : Keep (kpOf 0 ins) a a2 := fun d hd => by
      rw [hk d hd, g0]
      have := q4 d hd
      rw [hk d hd] at this
      exact this
    refine wp_seq (wp_seq (wp_region_list ?_))
    refine wpList_val h1g (v := .slice A m cap) (w' := w1) (by rw [execOp, h1]; simp only [Act.eval, hval, Sem.run_pure]) ?_
    rw [h1d]
    refine wpList_val h2g (exec_eql_nil hu h2 g3 w1) ?_
    rw [h2d, ← ha2]
    refine wpList_nil ?_
    refine wp_cond (t := A.isNone) g4 ?_
    cases A with
    | none =>
      refine wp_mono ((pexec_ok (D := []) (T := []) (L := []) hT_nil 9).1 (.seq r2 .ret) s1 _ _ (hL (by simp [loopsIn, l2.1])) (hS (by simp [scopesIn, l2.2])) (hnil (hFA rfl)) G1 _ w1 hA2) ?_
      intro e a' w' hp
      obtain ⟨rfl, hp⟩ := post_ret hp
      exact hpost_of (D := []) (x := x) (.inl rfl) q2 hK2 (by intro K h; cases h) hp
    | some b =>
      refine wp_skip ?_
      refine wp_mono ((pexec_ok (D := []) (T := []) (L := []) hT_nil 9).1 (.seq r3 .ret) s1 _ _ (hL (by simp [loopsIn, l3.1])) (hS (by simp [scopesIn, l3.2])) hall G1 _ w1 hA2) ?_
      intro e a' w' hp
      exact hpost_of (D := []) (x := x) (.inl rfl) q2 hK2 (by intro K h; cases h) (post_ret hp).2
  | _ => simp only [PX.of, Option.some.injEq] at he <;> cases he
def stOf (r : Option (PX × St)) : St := match r with | some (_, s) => s | none => ⟨[], []⟩
theorem list_slice {G : Gh C.gl} {w : World} {e : Ty} {xs : List e.den} {v : Value} (h : Rel G w (.l e xs) v) : ∃ A m cap, v = .slice A m cap ∧ (A = none → xs = []) := by
  cases h with
  | lnil => exact ⟨_, _, _, rfl, fun _ => rfl⟩
  | l => exact ⟨_, _, _, rfl, fun h => by cases h⟩
theorem row_slice {G : Gh C.gl} {w : World} {h : List Ob} (hm : Mem G w h) {id : Nat} {e : Ty} {xs : List e.den} (hi : h[id]? = some (.row e xs)) {v : Value} (hv : Rel G w (.row id) v) : ∃ A m cap, v = .slice A m cap ∧ (A = none → xs = []) := by
  cases hv with
  | row _ _ hρ =>
    rcases hm.obj _ _ hi with ⟨h1, h2⟩ | ⟨b, o, cap, h1, h2⟩
    · rw [hρ] at h1; injection h1 with h1; exact ⟨_, _, _, h1, fun _ => h2⟩
    · rw [hρ] at h1; injection h1 with h1; exact ⟨_, _, _, h1, fun h => by cases h⟩
def ithO (c : Code) (i : Nat) : Oper := (rgO c).getD i { dst := none, op := .move (.tmp 0), type := 0, pos := "", after := #[], guard := none }
end Go.Pv
