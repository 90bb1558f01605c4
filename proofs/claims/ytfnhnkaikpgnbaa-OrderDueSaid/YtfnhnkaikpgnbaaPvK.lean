/- The engine: what the texts of functions lean on. -/
import Derived.Test.YtfnhnkaikpgnbaaPv15
import Derived.KernelRfl
namespace Go.Pv
open Go
set_option linter.all false
set_option linter.constructorNameAsVariable false
set_option linter.unusedSectionVars false
set_option linter.unusedVariables false
set_option linter.unusedSimpArgs false

def bodyOf (f : Func) : Code := match f.body with | some c => c | none => .skip
def loopN (c : Code) (i : Nat) : Code := match nth (loopsIn c) i with | some b => b | none => .skip

section
variable {C : Cfg} {n : Nat} {kp : List Nat} {T : List (Nat × Spec)} {L : List (Nat × LSpec)}

theorem hT_nil : ∀ p, p ∈ ([] : List (Nat × Spec)) → Snd C p.1 p.2 := fun p hp => by simp at hp
theorem hT_cons {k : Nat} {sp : Spec} (h : Snd C k sp) (ht : ∀ p, p ∈ T → Snd C p.1 p.2) : ∀ p, p ∈ (k, sp) :: T → Snd C p.1 p.2 := fun p hp => by
  rcases List.mem_cons.1 hp with rfl | hp
  · exact h
  · exact ht p hp

inductive LOk (C : Cfg) (n : Nat) (kp : List Nat) (L : List (Nat × LSpec)) : List Code → Prop
  | nil : LOk C n kp L []
  | cons (c : Code) (cs : List Code) (k : Nat) (sp : LSpec) (h1 : lkey c = some k) (h2 : find k L = some sp) (h3 : LSnd C n kp c sp) (h4 : LOk C n kp L cs) : LOk C n kp L (c :: cs)
theorem LOk.mem {cs : List Code} (h : LOk C n kp L cs) : ∀ c, c ∈ cs → ∀ k sp, lkey c = some k → find k L = some sp → LSnd C n kp c sp := by
  induction h with
  | nil => intro c hc; simp at hc
  | cons c cs k sp h1 h2 h3 h4 ih =>
    intro c' hc' k' sp' hk hsp
    rcases List.mem_cons.1 hc' with rfl | hc'
    · rw [h1] at hk
      injection hk with hk
      subst hk
      rw [h2] at hsp
      injection hsp with hsp
      subst hsp
      exact h3
    · exact ih c' hc' k' sp' hk hsp
theorem hL_of {c : Code} {cs : List Code} (h : LOk C n kp L cs) (h1 : loopsIn c = cs) : ∀ body, body ∈ loopsIn c → ∀ k sp, lkey body = some k → find k L = some sp → LSnd C n kp body sp := by
  rw [h1]; exact h.mem

theorem enter_of {P : Program} {f : FuncId} {fn : Func} {c : Code} (hf : P.funcs[f]? = some fn) (hname : (fn.name == "runtime.NumGoroutine") = false) (hb : fn.body = some c) (args : Array Value) (w : World) :
    (callFunc f args).run P w = .ok (.enter f args) w := by
  have h1 : fn.name ≠ "runtime.NumGoroutine" := by simpa using hname
  simp [callFunc, hf, h1, hb]

theorem snd_def {fid : Nat} {fn : Func} {c : Code} (hfn : C.P.funcs[fid]? = some fn) (hbody : fn.body = some c) (hname : (fn.name == "runtime.NumGoroutine") = false)
    (hT : ∀ p, p ∈ T → Snd C p.1 p.2) (f : Nat) (ins outs : List Sh) {cs : List Code} (h : LOk C fn.ntmps (kpOf 0 ins) L cs) (h1 : loopsIn c = cs) (hs : smallL L = true := by rfl) : Snd C fid ⟨ins, outs, funF C T L f fn ins outs⟩ :=
  snd_fun hfn hbody (enter_of hfn hname hbody) hT f ins outs (hL_of h h1) (sok_small hs _)
theorem lsnd_def (hT : ∀ p, p ∈ T → Snd C p.1 p.2) (f : Nat) (head : Slots) (exits : List (PX × Slots)) (body : Code) {cs : List Code} (h : LOk C n kp L cs) (h1 : loopsIn body = cs) (k : Nat) (hs : smallL L = true := by rfl) :
    LSnd C n kp body ⟨head, exits, loopF C n kp T L f head exits body k⟩ := lsnd_of hT f head exits body (hL_of h h1) (sok_small hs _) k
def scopeN (c : Code) (i : Nat) : Code := match nth (scopesIn c) i with | some b => b | none => .skip
def restOf (B : Code) (l : Nat) : Code := match findLabel B l with | some r => r | none => .skip
theorem snd_defS {fid : Nat} {fn : Func} {c : Code} (hfn : C.P.funcs[fid]? = some fn) (hbody : fn.body = some c) (hname : (fn.name == "runtime.NumGoroutine") = false)
    (hT : ∀ p, p ∈ T → Snd C p.1 p.2) (f : Nat) (ins outs : List Sh) {cs : List Code} (h : LOk C fn.ntmps (kpOf 0 ins) L cs) (h1 : loopsIn c = cs) (hs : SOk C fn.ntmps (kpOf 0 ins) L c) : Snd C fid ⟨ins, outs, funF C T L f fn ins outs⟩ :=
  snd_fun hfn hbody (enter_of hfn hname hbody) hT f ins outs (hL_of h h1) hs
theorem ssnd_def (hT : ∀ p, p ∈ T → Snd C p.1 p.2) (f : Nat) (head : Slots) (exits : List (PX × Slots)) {B r : Code} {l : Nat} (hf : findLabel B l = some r) {cs : List Code} (h : LOk C n kp L cs) (h1 : loopsIn r = cs) (k : Nat) (hs : smallL L = true := by rfl) :
    SSnd C n kp B r ⟨head, exits, scopeF C n kp T L f head exits B r l k⟩ := ssnd_of hT f head exits hf (hL_of h h1) (sok_small hs _) k
/-- The labels of a text, and what is behind each. -/
def labsIn : Code → List Nat
  | .seq a b => labsIn a ++ labsIn b
  | .label l => [l]
  | _ => []
theorem findLabel_labs : ∀ {B : Code} {l : Nat} {r : Code}, findLabel B l = some r → l ∈ labsIn B := by
  intro B
  induction B with
  | seq x y ihx ihy =>
    intro l rest h
    simp only [findLabel] at h
    split at h
    · rename_i r hr
      exact List.mem_append.2 (.inl (ihx hr))
    · exact List.mem_append.2 (.inr (ihy h))
  | label l' =>
    intro l rest h
    simp only [findLabel] at h
    split at h
    · rename_i he
      have := eq_of_beq he
      simp [labsIn, this]
    · cases h
  | _ => intro l rest h; simp [findLabel] at h
/-- One scope, one label. -/
theorem sok_one {c B r : Code} {l k : Nat} {sp : LSpec} (h1 : scopesIn c = [B]) (h2 : labsIn B = [l]) (h3 : findLabel B l = some r) (h4 : (lkey r).bind (fun k => find (k + 1000000) L) = some sp) (h5 : SSnd C n kp B r sp) : SOk C n kp L c := by
  intro B' hB l' r' hf k' sp' hk hsp
  rw [h1, List.mem_singleton] at hB
  subst hB
  have hl := findLabel_labs hf
  rw [h2, List.mem_singleton] at hl
  subst hl
  rw [h3] at hf
  injection hf with hf
  subst hf
  rw [hk, Option.bind_some, hsp] at h4
  injection h4 with h4
  subst h4
  exact h5
/-- Nothing is said of one that has not come. -/
theorem snd_none {fid : Nat} {ins outs : List Sh} (h : ∀ (args : Array Value) (w : World), (callFunc fid args).run C.P w = .ok (.enter fid args) w) : Snd C fid ⟨ins, outs, fun _ => none⟩ :=
  ⟨h, fun x y hxy => by cases hxy⟩

/-- One that takes two texts and tells a bool, by its contract. -/
theorem snd_ssb {fid : Nat} {F : shsDen [.t .s, .t .s] → Option (shsDen [.t .b] × shsDen (shsUpd [.t .s, .t .s]))} (henter : ∀ (args : Array Value) (w : World), (callFunc fid args).run C.P w = .ok (.enter fid args) w)
    (hc : ∀ (a b : ByteArray) y, F (a, b, ()) = some y → ∀ (w : World), (∀ g, g ∈ C.gl → ∃ n, cel w g 0 = some (.int .i64 n)) → Calls C.P fid #[.string a, .string b] w fun e w' => e = .returned (.bool y.1.1) ∧ w' = w) : Snd C fid ⟨[.t .s, .t .s], [.t .b], F⟩ := by
  refine ⟨henter, fun x y hF G w h vs o b vals hm hv hr hp => ?_⟩
  obtain ⟨a1, a2, u⟩ := x
  obtain ⟨⟨c, u'⟩, u2⟩ := y
  have ho : o = [] := bare_o _ rfl hr
  subst ho
  obtain ⟨h1, h2, h3⟩ := canon hm hr rfl hv
  have e : ∃ v1 v2, vals = [v1, v2] := by
    have := h2.1
    simp only [shsMk, List.length_cons, List.length_nil] at this
    match vals, this with
    | [v1, v2], _ => exact ⟨v1, v2, rfl⟩
  obtain ⟨v1, v2, rfl⟩ := e
  have r1 : Rel (G.of [] b) w (.s a1) v1 := h2.2 0 _ _ rfl rfl
  have r2 : Rel (G.of [] b) w (.s a2) v2 := h2.2 1 _ _ rfl rfl
  cases r1
  cases r2
  refine Calls.mono (hc a1 a2 _ hF w fun g hg => (hm.gl g hg).2) ?_
  rintro e w' ⟨rfl, rfl⟩
  refine ⟨_, G, rfl, ?_, .b c, ⟨rfl, fun k v x hk => by simp [shsMk, shsUpd] at hk⟩, .refl _ _, .refl _ _⟩
  have : aftM h [] ⟨[.t .s, .t .s], [.t .b], F⟩ ((c, u'), u2) = h := by simp [aftM, shsMk, shsUpd, kill, somes]
  rw [this]
  exact hm
end
end Go.Pv
namespace Go.Pv
open Go
section
variable (C : Cfg) (n : Nat) (kp : List Nat) (T : List (Nat × Spec)) (L : List (Nat × LSpec))
/-- One round of a loop, and what is behind it. -/
def roundF (f : Nat) (head : Slots) (exits : List (PX × Slots)) (body : Code) (self : shsDen (head.map (·.2)) → Option (XD exits)) (x : shsDen (head.map (·.2))) : Option (XD exits) :=
  pexec (R := XD exits) C n kp T L f body (slotsMk head x) fun e s =>
    match e with
    | .nx => (match slotsGet s head with | some y => self y | none => none)
    | e => xInj exits e s
/-- One round of a jump back. -/
def roundS (f : Nat) (head : Slots) (exits : List (PX × Slots)) (B rest : Code) (l : Nat) (self : shsDen (head.map (·.2)) → Option (XD exits)) (x : shsDen (head.map (·.2))) : Option (XD exits) :=
  pexec (R := XD exits) C n kp T L f rest (slotsMk head x) fun e s =>
    match e with
    | .gt l' => (match decide (l' = l) with
      | true => (match slotsGet s head with | some y => self y | none => none)
      | false => (match findLabel B l' with | some _ => none | none => xInj exits (.gt l') s))
    | e => xInj exits e s
theorem loopF_succ (f : Nat) (head : Slots) (exits : List (PX × Slots)) (body : Code) (k : Nat) (x : shsDen (head.map (·.2))) :
    loopF C n kp T L f head exits body (k + 1) x = roundF C n kp T L f head exits body (loopF C n kp T L f head exits body k) x := rfl
end
end Go.Pv
