/- The engine: functions that are told by a contract, that make blocks of their own. -/
import Derived.Test.YtfnhnkaikpgnbaaPvK
import Derived.Below
namespace Go.Pv
open Go Go.RowKit
set_option linter.all false
set_option linter.constructorNameAsVariable false
set_option linter.unusedSectionVars false
set_option linter.unusedVariables false
set_option linter.unusedSimpArgs false

section
variable {N : List Nat} {G : Gh N} {w w' : World} {h : List Ob}
theorem cel_block {w w' : World} {b : Nat} (hb : w'.heap[b]? = w.heap[b]?) (o : Nat) : cel w' b o = cel w b o ∧ frz w' b o = frz w b o := by
  simp [cel, frz, mpo, World.cell?, World.frozen?, hb]
theorem mem_below (hm : Mem G w h) (hb : Below w.heap.size w w') : Mem G w' h ∧ Subs G w G w' ∧ Ext G w G w' := by
  have hs : Subs G w G w' := ⟨fun b o k => ⟨k, (cel_block (hb.block b (hm.I b o k).2) o).1⟩, fun _ _ k => k⟩
  refine ⟨⟨hm.len, hm.one, fun id ob hi => (hm.obj id ob hi).keep hs fun b o k => ⟨k, cel_block (hb.block b (hm.ow b o id k).2) o⟩, fun b o k => ⟨(hm.I b o k).1, Nat.lt_of_lt_of_le (hm.I b o k).2 hb.size⟩, fun b o id k => ⟨(hm.ow b o id k).1, Nat.lt_of_lt_of_le (hm.ow b o id k).2 hb.size⟩, gl_sub hs hm.gl⟩, hs, ⟨fun _ _ k => k, hb.size, fun b o k1 k2 => ⟨k2, cel_block (hb.block b k1) o⟩, fun b k _ => hb.block b k, fun _ _ _ k => .inl k, ⟨hb.os, hb.tape, hb.output⟩⟩⟩
end
section
variable {C : Cfg}
/-- One that takes two texts and tells a text. -/
theorem snd_sss {fid : Nat} {F : shsDen [.t .s, .t .s] → Option (shsDen [.t .s] × shsDen (shsUpd [.t .s, .t .s]))} (henter : ∀ (args : Array Value) (w : World), (callFunc fid args).run C.P w = .ok (.enter fid args) w)
    (hc : ∀ (a b : ByteArray) y, F (a, b, ()) = some y → ∀ (w : World), (∀ g, g ∈ C.gl → ∃ n, cel w g 0 = some (.int .i64 n)) → Calls C.P fid #[.string a, .string b] w fun e w' => e = .returned (.string y.1.1) ∧ Below w.heap.size w w') : Snd C fid ⟨[.t .s, .t .s], [.t .s], F⟩ := by
  refine ⟨henter, fun x y hF G w h vs o b vals hm hv hr hp => ?_⟩
  obtain ⟨a1, a2, u⟩ := x
  obtain ⟨⟨c, u'⟩, u2⟩ := y
  have ho : o = [] := bare_o _ rfl hr
  subst ho
  obtain ⟨h1, h2, h3⟩ := canon hm hr rfl hv
  have e : ∃ v1 v2, vals = [v1, v2] := by
    have := h2.1
    simp only [shsMk, List.length_cons, List.length_nil] at this
    match vals, this with
    | [v1, v2], _ => exact ⟨v1, v2, rfl⟩
  obtain ⟨v1, v2, rfl⟩ := e
  have r1 : Rel (G.of [] b) w (.s a1) v1 := h2.2 0 _ _ rfl rfl
  have r2 : Rel (G.of [] b) w (.s a2) v2 := h2.2 1 _ _ rfl rfl
  cases r1
  cases r2
  refine Calls.mono (hc a1 a2 _ hF w fun g hg => (hm.gl g hg).2) ?_
  rintro e w' ⟨rfl, hbl⟩
  obtain ⟨m1, m2, m3⟩ := mem_below hm hbl
  refine ⟨_, G, rfl, ?_, .s c, ⟨rfl, fun k v x hk => by simp [shsMk, shsUpd] at hk⟩, m2, m3⟩
  have : aftM h [] ⟨[.t .s, .t .s], [.t .s], F⟩ ((c, u'), u2) = h := by simp [aftM, shsMk, shsUpd, kill, somes]
  rw [this]
  exact m1
/-- One that takes a text and a byte and tells a number. -/
theorem snd_syi {fid : Nat} {F : shsDen [.t .s, .t .y8] → Option (shsDen [.t (.i .i64)] × shsDen (shsUpd [.t .s, .t .y8]))} (henter : ∀ (args : Array Value) (w : World), (callFunc fid args).run C.P w = .ok (.enter fid args) w)
    (hc : ∀ (a : ByteArray) (b : UInt8) y, F (a, b, ()) = some y → ∀ (w : World), (∀ g, g ∈ C.gl → ∃ n, cel w g 0 = some (.int .i64 n)) → Calls C.P fid #[.string a, .int .u8 b.toNat] w fun e w' => e = .returned (.int .i64 y.1.1) ∧ Below w.heap.size w w') : Snd C fid ⟨[.t .s, .t .y8], [.t (.i .i64)], F⟩ := by
  refine ⟨henter, fun x y hF G w h vs o b vals hm hv hr hp => ?_⟩
  obtain ⟨a1, a2, u⟩ := x
  obtain ⟨⟨c, u'⟩, u2⟩ := y
  have ho : o = [] := bare_o _ rfl hr
  subst ho
  obtain ⟨h1, h2, h3⟩ := canon hm hr rfl hv
  have e : ∃ v1 v2, vals = [v1, v2] := by
    have := h2.1
    simp only [shsMk, List.length_cons, List.length_nil] at this
    match vals, this with
    | [v1, v2], _ => exact ⟨v1, v2, rfl⟩
  obtain ⟨v1, v2, rfl⟩ := e
  have r1 : Rel (G.of [] b) w (.s a1) v1 := h2.2 0 _ _ rfl rfl
  have r2 : Rel (G.of [] b) w (.i .u8 (a2.toNat : Int)) v2 := h2.2 1 _ _ rfl rfl
  cases r1
  cases r2
  refine Calls.mono (hc a1 a2 _ hF w fun g hg => (hm.gl g hg).2) ?_
  rintro e w' ⟨rfl, hbl⟩
  obtain ⟨m1, m2, m3⟩ := mem_below hm hbl
  refine ⟨_, G, rfl, ?_, .i .i64 c (fun e => by cases e), ⟨rfl, fun k v x hk => by simp [shsMk, shsUpd] at hk⟩, m2, m3⟩
  have : aftM h [] ⟨[.t .s, .t .y8], [.t (.i .i64)], F⟩ ((c, u'), u2) = h := by simp [aftM, shsMk, shsUpd, kill, somes]
  rw [this]
  exact m1
end
end Go.Pv
