/- The engine: functions that are walked by hand. -/
import Derived.Test.YtfnhnkaikpgnbaaPv15
import Derived.RangeFuncLeaves
import Derived.RangeFuncRecord
namespace Go.Pv
open Go
set_option linter.all false
set_option linter.constructorNameAsVariable false
set_option linter.unusedSectionVars false
set_option linter.unusedVariables false
set_option linter.unusedSimpArgs false
section
variable {N : List Nat}

theorem Mem.of_cel {G : Gh N} {w w' : World} {h : List Ob} (hc : ∀ b o, cel w' b o = cel w b o) (hf : ∀ b o, frz w' b o = frz w b o) (hs : w'.heap.size = w.heap.size) (hm : Mem G w h) : Mem G w' h := by
  have hsub : Subs G w G w' := ⟨fun b o k => ⟨k, hc b o⟩, fun _ _ k => k⟩
  exact ⟨hm.len, hm.one, fun id ob hi => (hm.obj id ob hi).keep hsub fun b o k => ⟨k, hc b o, hf b o⟩, fun b o k => by rw [hs]; exact hm.I b o k, fun b o id k => by rw [hs]; exact hm.ow b o id k, gl_sub hsub hm.gl⟩
theorem Abs.of_cel {D : List Deferred} {n : Nat} {G : Gh N} {s : St} {a : Act} {w w' : World} (hc : ∀ b o, cel w' b o = cel w b o) (hf : ∀ b o, frz w' b o = frz w b o) (hs : w'.heap.size = w.heap.size) (h : Abs D n G s a w) : Abs D n G s a w' :=
  ⟨h.defers, h.size, fun t => (h.env t).mono ⟨fun b o k => ⟨k, hc b o⟩, fun _ _ k => k⟩, h.mem.of_cel hc hf hs⟩
end

/-- What a walk by hand must come to. -/
def HPost (C : Cfg) (fn : Func) (ins outs : List Sh) (G : Gh C.gl) (a : Act) (w : World) (x : shsDen ins) (y : shsDen outs × shsDen (shsUpd ins)) (D : List Deferred) (e : Exit) (a' : Act) (w' : World) : Prop :=
  ∃ s' Gs, (e = .normal ∨ e = .ret) ∧ Abs D fn.ntmps Gs s' a' w' ∧ Ext G w Gs w' ∧ Keep (kpOf 0 ins) a a' ∧ finish C fn ins outs ((List.range (shsMk 0 ins x).1.length).map fun t => look t s'.env) s' = some y

variable {C : Cfg}
/-- A mark for calls that are deferred: there are none. -/
def Marked (w : World) (D : List Deferred) (w' : World) : Prop := D = [] ∨ ∃ K, D = [{ target := .collected K, args := #[] }] ∧ w'.heap[K]? = some (.deferred (some [])) ∧ w.heap.size ≤ K

theorem put_def {w : World} {K : Nat} {x y : Option (List Deferred)} (h : w.heap[K]? = some (.deferred x)) : (∀ b o, cel (w.putObj K (.deferred y)) b o = cel w b o) ∧ (∀ b o, frz (w.putObj K (.deferred y)) b o = frz w b o) ∧ (w.putObj K (.deferred y)).heap.size = w.heap.size ∧ ∀ b, b ≠ K → (w.putObj K (.deferred y)).heap[b]? = w.heap[b]? := by
  have hlt : K < w.heap.size := (Array.getElem?_eq_some_iff.1 h).1
  have h1 : (w.putObj K (.deferred y)).heap[K]? = some (.deferred y) := World.putObj_heap_same hlt
  have h2 : ∀ b, b ≠ K → (w.putObj K (.deferred y)).heap[b]? = w.heap[b]? := fun b hb => World.putObj_heap_other hb
  refine ⟨fun b o => ?_, fun b o => ?_, by simp [World.putObj], h2⟩
  · by_cases hb : b = K
    · subst hb
      simp only [cel, World.cell?, h1, h]
    · simp only [cel, World.cell?, h2 b hb]
  · by_cases hb : b = K
    · subst hb
      simp only [frz, mpo, World.frozen?, h1, h]
    · simp only [frz, mpo, World.frozen?, h2 b hb]

/-- A function by hand. -/
theorem snd_wp {fid : Nat} {fn : Func} {c : Code} (hfn : C.P.funcs[fid]? = some fn) (hbody : fn.body = some c) (henter : ∀ (args : Array Value) (w : World), (callFunc fid args).run C.P w = .ok (.enter fid args) w)
    (ins outs : List Sh) (FF : shsDen ins → Option (shsDen outs × shsDen (shsUpd ins))) (hle : ∀ x, (shsMk 0 ins x).1.length ≤ fn.ntmps)
    (H : ∀ x y, FF x = some y → ∀ (G : Gh C.gl) (a : Act) (w : World), Abs [] fn.ntmps G { env := (List.range (shsMk 0 ins x).1.length).zip (shsMk 0 ins x).1, h := (shsMk 0 ins x).2 } a w → c.wp C.P (fun e a' w' => ∃ D, Marked w D w' ∧ HPost C fn ins outs G a w x y D e a' w') a w) : Snd C fid ⟨ins, outs, FF⟩ := by
  refine ⟨henter, ?_⟩
  intro x y hF G w h vs o b vals hm hv hrd hcond
  dsimp only at hF hrd y
  have hap0 : apartB o b = true := by
    rcases hcond with k | k
    · unfold Spec.plain at k
      rw [Bool.and_eq_true] at k
      rw [bare_o ins k.2 hrd]
      rfl
    · exact k.1
  obtain ⟨c1, c2, c3⟩ := canon hm hrd hap0 hv
  have hlen : (shsMk 0 ins x).1.length = vals.length := c2.1
  have hle := hle x
  have htmp : ∀ (t : Nat) (val : Value), vals[t]? = some val → (vals.toArray ++ Array.replicate (fn.ntmps - vals.toArray.size) undef).getD t undef = val := by
    intro t val ht
    have htl := (List.getElem?_eq_some_iff.1 ht).1
    rw [Array.getD_eq_getD_getElem?, Array.getElem?_append_left (by simpa using htl)]
    simp [ht]
  have hA : Abs [] fn.ntmps (G.of o b) { env := (List.range (shsMk 0 ins x).1.length).zip (shsMk 0 ins x).1, h := (shsMk 0 ins x).2 } { tmps := vals.toArray ++ Array.replicate (fn.ntmps - vals.toArray.size) undef, defers := [] } w := by
    refine ⟨rfl, by simp; omega, fun t => ?_, c1⟩
    rw [look_args]
    cases ht : (shsMk 0 ins x).1[t]? with
    | none => exact .u _
    | some u =>
      have htl : t < vals.length := by have := (List.getElem?_eq_some_iff.1 ht).1; omega
      have hval : vals[t]? = some vals[t] := List.getElem?_eq_getElem htl
      rw [htmp t _ hval]
      exact c2.2 t u _ ht hval
  refine (callsIn_wide (n := 0)).1 (callsIn_of_wp_marks hfn hbody trivial (wpIn_wide.2 (wp_mono (H x y hF (G.of o b) _ w hA) ?_)) rfl)
  rintro e a' w' ⟨D, hD, s', Gs, hee, q1, q2, q4, hfi⟩
  have hpost : LeavesInM Fence.wide 0 C.P fn a'.tmps (fun e w' => ∃ v G', e = .returned v ∧ Mem G' w' (aftM h o ⟨ins, outs, FF⟩ y) ∧ Rel G' w' (aftV h ⟨ins, outs, FF⟩ y) v ∧ Rels G' w' (shsMk h.length (shsUpd ins) y.2).1 (updVals ins vals) ∧ Subs G w G' w' ∧ Ext G w G' w') a'.defers .returning w' := by
    rcases hD with rfl | ⟨K, rfl, hK, hKw⟩
    · obtain ⟨v, G', hres, m1, m2, m3, m4, m5⟩ := fin_ok (FF := FF) hm hv hrd hcond hlen htmp q1 q2 q4 hfi
      rw [q1.defers]
      exact ⟨v, hres, v, G', rfl, m1, m2, m3, m4, m5⟩
    · obtain ⟨p1, p2, p3, p4⟩ := put_def (y := none) hK
      have q2' : Ext (G.of o b) w Gs (w'.putObj K (.deferred none)) :=
        ⟨q2.I, by rw [p3]; exact q2.size, fun b o hb k => (by rw [p1, p2]; exact q2.cell b o hb k), fun b hb k => (by rw [p4 b (by omega)]; exact q2.block b hb k), q2.inew, q2.rest.trans ⟨rfl, rfl, rfl⟩⟩
      obtain ⟨v, G', hres, m1, m2, m3, m4, m5⟩ := fin_ok (FF := FF) hm hv hrd hcond hlen htmp (q1.of_cel p1 p2 p3) q2' q4 hfi
      rw [q1.defers]
      exact ⟨by simp, .inl ⟨_, _, rfl, run_takeDeferred hK, v, hres, v, G', rfl, m1, m2, m3, m4, m5⟩⟩
  rcases hee with rfl | rfl
  · exact hpost
  · exact hpost
end Go.Pv
