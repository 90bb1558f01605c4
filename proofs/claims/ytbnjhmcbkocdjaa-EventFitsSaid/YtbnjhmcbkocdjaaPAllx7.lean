/- Written by this session's own program (wip/xprint): functions of the Go program as Lean functions, and proofs that the Go code computes them. -/
import Derived.Test.YtbnjhmcbkocdjaaPAllx0
import Derived.Test.YtbnjhmcbkocdjaaPAllx6
namespace Go.Proofs.Ytbnjhmcbkocdjaa.PAll
open Go.RowKit Go.Proofs.YtbnjhmcbkocdjaaW.PrintWords Go.Proofs.YtbnjhmcbkocdjaaW.PrintLast Go.Proofs.YtbnjhmcbkocdjaaW.PrintMore
attribute [local go_sem] max2_int min2_int max_two min_two max_three min_three max_four min_four   -- for this text's walks alone
set_option linter.unusedVariables false
set_option linter.unusedSimpArgs false

/-! ### event_Schema: function 16, by a text of our own -/
/-- How often a name is among names. -/
def cntN (s : ByteArray) (ns : List ByteArray) : Nat := (ns.filter fun x => decide (x.data.toList = s.data.toList)).length
def cntIs (D : DataW Unit) (ns : List ByteArray) : Prop := Maps.IsMap D ∧ ∀ s : ByteArray, D.atKey (.string s.data.toList) (.lit (.int .i64 0)) = .lit (.int .i64 ((cntN s ns : Nat) : Int))
theorem cntIs_nil : cntIs (.map []) [] := ⟨⟨[], rfl⟩, fun s => rfl⟩
theorem cntN_snoc (s x : ByteArray) (ns : List ByteArray) : cntN s (ns ++ [x]) = cntN s ns + (if x.data.toList = s.data.toList then 1 else 0) := by
  unfold cntN
  rw [List.filter_append, List.length_append, List.filter_cons]
  by_cases h : x.data.toList = s.data.toList <;> simp [h]
theorem cntIs_snoc {D : DataW Unit} {ns : List ByteArray} (h : cntIs D ns) (x : ByteArray) : cntIs (D.put (.string x.data.toList) (.lit (.int .i64 ((cntN x (ns ++ [x]) : Nat) : Int)))) (ns ++ [x]) := by
  refine ⟨?_, fun s => ?_⟩
  · obtain ⟨es, rfl⟩ := h.1
    exact ⟨_, rfl⟩
  · by_cases e : s.data.toList = x.data.toList
    · rw [e, Maps.atKey_put_same h.1 (by exact trivial)]
      have : cntN s (ns ++ [x]) = cntN x (ns ++ [x]) := by unfold cntN; rw [e]
      rw [this]
    · rw [Maps.atKey_put_other (by intro hh; injection hh with hh; exact e hh), h.2 s, cntN_snoc, if_neg (fun hh => e hh.symm)]
      rfl
def event_Schema.l0 : Nat → ByteArray → List (S55) → Int → Int → Option (Bool)
  | 0, _, _, _, _ => none
  | k + 1, x0, x1, x9, x10 => if x10 < x9 then (if 0 ≤ x10 then (if x10 < (x1.length : Int) then (if (rd_T55 x1 x10).f0.size ≤ maxLen then ((event_Word.f k ((rd_T55 x1 x10).f0)).bind fun t1 => (if t1 = true then (if 1 < cntN (rd_T55 x1 x10).f0 ((x1.take (x10.toNat + 1)).map fun z => z.f0) then (some false) else (if (rd_T55 x1 x10).f1 < 1 then (some false) else (if (rd_T55 x1 x10).f1 > 3 then (some false) else (event_Schema.l0 k x0 x1 x9 (wrap64 (x10 + 1)))))) else (some false))) else (none)) else (none)) else (none)) else ((event_Word.f k x0).bind fun t2 => (if t2 = true then (some (decide ((x1.length : Int) ≤ 8))) else (some false)))
def event_Schema.f (k : Nat) (a0_0 : ByteArray) (l0_1 : List (S55)) : Option (Bool) := if l0_1.length < maxLen then event_Schema.l0 k a0_0 l0_1 (l0_1.length : Int) 0 else none
theorem event_Schema.mono_l : ∀ k, (∀ y0 y1 y2 y3, LeO (event_Schema.l0 k y0 y1 y2 y3) (event_Schema.l0 (k + 1) y0 y1 y2 y3))
  | 0 => fun _ _ _ _ r h => by simp [event_Schema.l0] at h
  | k + 1 => by
    have ih0 := event_Schema.mono_l k
    · intro y0 y1 y2 y3
      unfold event_Schema.l0
      repeat' first
      | (with_reducible exact ih0 _ _ _ _)
      | (with_reducible exact event_Word.mono _ _)
      | (with_reducible exact LeO.refl _)
      | (with_reducible exact LeO.none _)
      | (with_reducible refine LeO.ite ?_ ?_)
      | (with_reducible refine LeO.bind ?_ (fun _ => ?_))
theorem event_Schema.mono : ∀ a0 a1 k, LeO (event_Schema.f k a0 a1) (event_Schema.f (k + 1) a0 a1) := by
  intro a0 a1 k
  unfold event_Schema.f
  exact LeO.ite (event_Schema.mono_l k _ _ _ _) (LeO.none _)
theorem schemaLaw : Maps.Keyed Try.prog 9 := Maps.string_keyed Try.underlying9
theorem schemaZero (w : World) : (zeroValue 3).run Try.prog w = .ok (.int .i64 0) w := by kernel_rfl
set_option maxHeartbeats 8000000 in
set_option maxRecDepth 100000 in
theorem event_Schema.calls (k : Nat) (a0_0 : ByteArray) (A0_1 : Option Addr) (c0_1 : Nat) (l0_1 : List (S55)) (r : Bool) (w : World) (hr0_1 : Kd.C k55 w A0_1 l0_1.length l0_1) (hc0_1 : l0_1.length ≤ c0_1) (h : event_Schema.f k a0_0 l0_1 = some r) :
    Calls Try.prog 16 #[.agg #[.string a0_0, .slice A0_1 l0_1.length c0_1]] w fun e w' => e = .returned (.bool r) ∧ Below w.heap.size w w' := by
  have hu31 := Try.underlying31
  have hu55 := Try.underlying55
  have HR0_1 := Aside0.mk hr0_1
  have HC0_1 := Aside0.mk hc0_1
  clear hr0_1 hc0_1
  have HB := Aside0.mk (Below.refl w.heap.size w)
  have hmm := @run_makeMap Try.prog
  unfold event_Schema.f at h
  by_cases hm : l0_1.length < maxLen
  case neg => rw [if_neg hm] at h; cases h
  rw [if_pos hm] at h
  have HM := Aside0.mk hm
  have H' := Aside0.mk h
  clear h hm
  go_enter Try.func16, Try.ntmps16
  go_wp2_with (first | ((with_reducible refine gate_dst (N := 1) rfl ?_); refine box_event ?hg (N := 1) ?hd (cs := #[.string a0_0, .slice A0_1 l0_1.length c0_1]) (t := 31) ?hr ?_; (case hd => rfl); (case hg => rfl); (case hr => first | (go_simp; done) | (go_simp; rfl)); intro gb1 hg w2 hbox hb; have n0_ := Aside0.mk (below_step HB.out hb); have BK1 := Aside0.mk hbox; have GE1 := Aside0.mk (by rw [hg]; exact Nat.le_refl _ : w.heap.size ≤ gb1); clear HB; have HB := n0_; clear n0_; clear hb hbox hg) | ((with_reducible refine gate_dst (N := 6) rfl ?_); refine Kd.event_run rfl (v := .map (some w2.heap.size)) (w1 := w2.alloc (.map #[] 0)) ?hr ?_; (case hr => first | (go_simp; done) | (go_simp; rfl)); have HO := Aside0.mk (World.ownsMap_made w2 Try.prog 9 (plainElem (H := Unit) Try.prog 3)); have n0_ := Aside0.mk (below_alloc HB.out (.map #[] 0)); have n1_ := Aside0.mk (blk_alloc BK1.out (.map #[] 0)); have NE1 := Aside0.mk (Nat.ne_of_lt (blk_lt BK1.out)); have GEB := Aside0.mk HB.out.size; clear HB BK1; generalize w2.alloc (.map #[] 0) = w3 at HO n0_ n1_ ⊢; generalize w2.heap.size = B at HO NE1 GEB ⊢; have HB := n0_; have BK1 := n1_; clear n0_ n1_; have hcq0 := (blk_cell BK1.out 0).trans rfl; have hcq1 := (blk_cell BK1.out 1).trans rfl))
  go_loopg [10] k (fun kq v10 w' => ∃ (x10_1 : Int) (D : DataW Unit), v10 = .int .i64 x10_1 ∧ Aside0 (event_Schema.l0 kq a0_0 l0_1 (l0_1.length : Int) x10_1 = some r) ∧ Aside0 (kq ≤ k) ∧ Aside0 (0 ≤ x10_1 ∧ x10_1 ≤ (l0_1.length : Int)) ∧ Aside0 (w'.heap[gb1]? = some (.cells #[.string a0_0, .slice A0_1 l0_1.length c0_1] 31 (0, 0))) ∧ Aside0 (w'.ownsMap Try.prog 9 (plainElem (H := Unit) Try.prog 3) B x10_1.toNat D) ∧ Aside0 (cntIs D ((l0_1.take x10_1.toNat).map fun z => z.f0)) ∧ Aside0 (Below w.heap.size w w'))
  case atStart => exact ⟨0, .map [], rfl, H', ⟨Nat.le_refl _⟩, ⟨by omega⟩, BK1, HO, ⟨cntIs_nil⟩, HB⟩
  case round =>
    clear H' HO BK1 HB hcq0 hcq1
    obtain ⟨x10_1, D, rfl, HA, HK1, HX, BK1, HO, HN, HB⟩ := hrel
    cases gk with
    | zero => exact absurd HA.out (by simp [event_Schema.l0])
    | succ k1 =>
      have H := HA.out
      clear HA
      simp only [event_Schema.l0] at H
      have hcq0 := (blk_cell BK1.out 0).trans rfl
      have hcq1 := (blk_cell BK1.out 1).trans rfl
      by_cases c3 : x10_1 < (l0_1.length : Int)
      · rw [if_pos c3] at H
        have c3b0 : decide (x10_1 < (l0_1.length : Int)) = true := decide_eq_true c3
        by_cases c4 : 0 ≤ x10_1
        case neg => rw [if_neg c4] at H; exact absurd H (by simp)
        rw [if_pos c4, if_pos c3] at H
        by_cases c6 : (rd_T55 l0_1 x10_1).f0.size ≤ maxLen
        case neg => rw [if_neg c6] at H; exact absurd H (by simp)
        rw [if_pos c6] at H
        replace H := Option.bind_eq_some_iff.mp H
        obtain ⟨t1, A6, H⟩ := H
        have htk : (l0_1.take (x10_1.toNat + 1)).map (fun z => z.f0) = ((l0_1.take x10_1.toNat).map fun z => z.f0) ++ [(rd_T55 l0_1 x10_1).f0] := by
          have hlt : x10_1.toNat < l0_1.length := by omega
          rw [← List.take_append_getElem hlt, List.map_append]
          unfold rd_T55
          rw [List.getD_eq_getElem?_getD, List.getElem?_eq_getElem hlt]
          rfl
        rw [htk] at H
        have hcl : cntN (rd_T55 l0_1 x10_1).f0 ((l0_1.take x10_1.toNat).map fun z => z.f0) ≤ l0_1.length := by
          unfold cntN
          refine Nat.le_trans (List.length_filter_le _ _) ?_
          rw [List.length_map, List.length_take]
          omega
        obtain ⟨ad1, e1, hx0, hx1⟩ := at_T55 HR0_1.out x10_1 c4 c3
        cases e1
        replace hx0 := (HB.out.cell (World.block_lt_of_cell? w _ hx0)).trans hx0
        replace hx1 := (HB.out.cell (World.block_lt_of_cell? w _ hx1)).trans hx1
        generalize (rd_T55 l0_1 x10_1).f0 = nm at c6 A6 H hx0 hcl htk
        generalize (rd_T55 l0_1 x10_1).f1 = kd at H hx1
        have hkey : keyOf Try.prog 9 (.string nm) = some (.string nm.data.toList) := Go.WideMaps.keyOf_string_mk Try.underlying9 c6
        have A6 := Aside0.mk A6
        have hcs := Aside0.mk (cntN_snoc nm nm ((l0_1.take x10_1.toNat).map fun z => z.f0))
        generalize hcn : cntN nm (((l0_1.take x10_1.toNat).map fun z => z.f0) ++ [nm]) = cn at H
        have hcn := Aside0.mk hcn
        have hcl := Aside0.mk hcl
        have hc3 := Aside0.mk c3
        have hc4 := Aside0.mk c4
        have p4 := eq_true c4
        have q4 := eq_true c3
        have htk := Aside0.mk htk
        clear c4
        obtain ⟨c0n, hc0n⟩ : ∃ n : Nat, cntN nm ((l0_1.take x10_1.toNat).map fun z => z.f0) = n := ⟨_, rfl⟩
        replace hc0n := Aside0.mk hc0n
        have hadd : wrap64 ((c0n : Int) + 1) = (cn : Int) := by
          have h0 := hc0n.out
          have h1 := hcs.out
          rw [if_pos rfl, hcn.out] at h1
          have h2 := hcl.out
          have h3 := HM.out
          unfold maxLen at h3
          unfold wrap64
          omega
        have haddw : IntKind.i64.wrap ((c0n : Int) + 1) = (cn : Int) := (i64_w _).trans hadd
        have hwf : (Lit.int .i64 (cn : Int)).wf = true := by rw [← hadd]; exact wrap64_wf _
        have HN5 := Aside0.mk (cntIs_snoc HN.out nm)
        rw [show ((cntN nm (((l0_1.take x10_1.toNat).map fun z => z.f0) ++ [nm]) : Nat) : Int) = (cn : Int) by rw [hcn.out]] at HN5
        have tok1 : True := trivial
        by_cases c1 : t1 = true
        · subst c1
          rw [if_pos rfl] at H
          by_cases c7 : 1 < cn
          · rw [if_pos c7] at H
            have c7b0 : decide (1 < cn) = true := decide_eq_true c7
            have c7b1 : decide (1 < (cn : Int)) = true := decide_eq_true (by omega)
            injection H with H
            subst H
            go_wp2_with (first | ((with_reducible refine gate_dst (N := 5) rfl ?_); refine box_event ?hg (N := 5) ?hd (cs := #[.string (⟨#[]⟩ : ByteArray), .int .i64 0]) (t := 55) ?hr ?_; (case hd => rfl); (case hg => rfl); (case hr => first | (go_simp; done) | (go_simp; rfl)); intro gb2 hg w3 hbox hb; have HO3 := HO.out.kept (grown_of_below hb none) (by simp); have n0_ := blk_below BK1.out hb; have n1_ := below_step HB.out hb; have NE2 : B ≠ gb2 := (by rw [hg]; exact Nat.ne_of_lt HO.out.lt); have NE3 : gb1 ≠ gb2 := (by rw [hg]; exact Nat.ne_of_lt (blk_lt BK1.out)); have GE2 : w.heap.size ≤ gb2 := (by rw [hg]; exact HB.out.size); have hcz0 := (blk_cell hbox 0).trans rfl; have hcz1 := (blk_cell hbox 1).trans rfl; have hfz0 := blk_frozen hbox 0; have hfz1 := blk_frozen hbox 1; have BK4 := Aside0.mk (blk_put (cs' := #[.string nm, .int .i64 kd]) (blk_put (cs' := #[.string nm, .int .i64 0]) hbox 0 (.string nm) rfl) 1 (.int .i64 kd) rfl); have HO4 := Aside0.mk ((HO3.setCell (a := ⟨gb2, 0, none⟩) NE2 (.string nm)).setCell (a := ⟨gb2, 1, none⟩) NE2 (.int .i64 kd)); have BK14 := Aside0.mk (blk_far (p := ⟨gb2, 1, none⟩) (blk_far (p := ⟨gb2, 0, none⟩) n0_ NE3 (.string nm)) NE3 (.int .i64 kd)); have HB4 : Aside0 (Below w.heap.size w ((w3.setCell ⟨gb2, 0, none⟩ (.string nm)).setCell ⟨gb2, 1, none⟩ (.int .i64 kd))) := ⟨(by refine below_set ?_ GE2; refine below_set ?_ GE2; exact n1_)⟩; have hcw0 : ((w3.setCell ⟨gb2, 0, none⟩ (.string nm)).setCell ⟨gb2, 1, none⟩ (.int .i64 kd)).cell? ⟨gb2, 0, none⟩ = some (.string nm) := (blk_cell BK4.out 0).trans rfl; have hcw1 : ((w3.setCell ⟨gb2, 0, none⟩ (.string nm)).setCell ⟨gb2, 1, none⟩ (.int .i64 kd)).cell? ⟨gb2, 1, none⟩ = some (.int .i64 kd) := (blk_cell BK4.out 1).trans rfl; have NE2 := Aside0.mk NE2; clear hb hbox hg HO3 n0_ n1_) | (at_lookup; have _t := tok1; refine wpList_lookup_own_int _ rfl _ _ 61 rfl 9 3 .i64 schemaLaw Try.underlying61 Try.underlying3 (schemaZero _) B _ D rfl HO4.out _ _ rfl hkey ?_; intro c hat hwc; have hce := hat.symm.trans (HN.out.2 nm); injection hce with hce; injection hce with _ hce; rw [hc0n.out] at hce; subst hce; clear hat hwc _t tok1) | (at_mapUpdate; refine wpList_mapUpdate_own _ rfl _ _ _ 61 rfl 9 3 schemaLaw Try.underlying61 _ B _ D rfl HO4.out (by have := HM.out; have := hc3.out; have := hc4.out; omega) _ _ _ rfl rfl hkey _ [] (plainElem_int Try.underlying3 hwf) ?_; intro w5 hown5 hgrow5; have HO5 := Aside0.mk hown5; have BK5 := Aside0.mk (blk_grown BK14.out hgrow5 (fun e => NE1.out (by injection e))); have BKf5 := Aside0.mk (blk_grown BK4.out hgrow5 (fun e => NE2.out (by injection e with e; exact e.symm))); have HB5 := Aside0.mk (HB4.out.grown hgrow5 HB4.out.size (fun j hj => by cases hj; exact GEB.out)); have hcv0 := (blk_cell BKf5.out 0).trans rfl; have hcv1 := (blk_cell BKf5.out 1).trans rfl; clear hown5 hgrow5) | ((with_reducible refine gate_callee (f := 23) rfl ?_); refine goesL_ (some 21) rfl rfl Try.func23 (by kernel_rfl) rfl #[.string nm] rfl (by (try simp only [List.map_toArray, List.map_cons, List.map_nil]); first | done | rfl) ?_; (with_reducible refine (event_Word.calls k1 nm true _ A6.out).mono ?_); rintro e w6 ⟨rfl, hd_⟩; refine ⟨_, rfl, ?_⟩; have hb := Drawn0.below hd_; have HO6 := Aside0.mk (HO5.out.kept (grown_of_below hb none) (by simp)); have BK6 := Aside0.mk (blk_below BK5.out hb); have BKf6 := Aside0.mk (blk_below BKf5.out hb); have HB6 := Aside0.mk (below_step HB5.out hb); have hcu0 := (blk_cell BKf6.out 0).trans rfl; have hcu1 := (blk_cell BKf6.out 1).trans rfl; obtain ⟨c2, hrun2, hat2, _⟩ := HO6.out.lookup_int schemaLaw Try.underlying61 Try.underlying3 (schemaZero _) hkey; have hce := hat2.symm.trans (HN5.out.2 nm); injection hce with hce; injection hce with _ hce; rw [hcn.out] at hce; subst hce; clear hb hd_ hat2))
            go_ret
            exact ⟨rfl, HB6.out⟩
          · rw [if_neg c7] at H
            have c7b0 : decide (1 < cn) = false := decide_eq_false c7
            have c7b1 : decide (1 < (cn : Int)) = false := decide_eq_false (by omega)
            by_cases c8 : kd < 1
            · rw [if_pos c8] at H
              have c8b0 : decide (kd < 1) = true := decide_eq_true c8
              injection H with H
              subst H
              go_wp2_with (first | ((with_reducible refine gate_dst (N := 5) rfl ?_); refine box_event ?hg (N := 5) ?hd (cs := #[.string (⟨#[]⟩ : ByteArray), .int .i64 0]) (t := 55) ?hr ?_; (case hd => rfl); (case hg => rfl); (case hr => first | (go_simp; done) | (go_simp; rfl)); intro gb2 hg w3 hbox hb; have HO3 := HO.out.kept (grown_of_below hb none) (by simp); have n0_ := blk_below BK1.out hb; have n1_ := below_step HB.out hb; have NE2 : B ≠ gb2 := (by rw [hg]; exact Nat.ne_of_lt HO.out.lt); have NE3 : gb1 ≠ gb2 := (by rw [hg]; exact Nat.ne_of_lt (blk_lt BK1.out)); have GE2 : w.heap.size ≤ gb2 := (by rw [hg]; exact HB.out.size); have hcz0 := (blk_cell hbox 0).trans rfl; have hcz1 := (blk_cell hbox 1).trans rfl; have hfz0 := blk_frozen hbox 0; have hfz1 := blk_frozen hbox 1; have BK4 := Aside0.mk (blk_put (cs' := #[.string nm, .int .i64 kd]) (blk_put (cs' := #[.string nm, .int .i64 0]) hbox 0 (.string nm) rfl) 1 (.int .i64 kd) rfl); have HO4 := Aside0.mk ((HO3.setCell (a := ⟨gb2, 0, none⟩) NE2 (.string nm)).setCell (a := ⟨gb2, 1, none⟩) NE2 (.int .i64 kd)); have BK14 := Aside0.mk (blk_far (p := ⟨gb2, 1, none⟩) (blk_far (p := ⟨gb2, 0, none⟩) n0_ NE3 (.string nm)) NE3 (.int .i64 kd)); have HB4 : Aside0 (Below w.heap.size w ((w3.setCell ⟨gb2, 0, none⟩ (.string nm)).setCell ⟨gb2, 1, none⟩ (.int .i64 kd))) := ⟨(by refine below_set ?_ GE2; refine below_set ?_ GE2; exact n1_)⟩; have hcw0 : ((w3.setCell ⟨gb2, 0, none⟩ (.string nm)).setCell ⟨gb2, 1, none⟩ (.int .i64 kd)).cell? ⟨gb2, 0, none⟩ = some (.string nm) := (blk_cell BK4.out 0).trans rfl; have hcw1 : ((w3.setCell ⟨gb2, 0, none⟩ (.string nm)).setCell ⟨gb2, 1, none⟩ (.int .i64 kd)).cell? ⟨gb2, 1, none⟩ = some (.int .i64 kd) := (blk_cell BK4.out 1).trans rfl; have NE2 := Aside0.mk NE2; clear hb hbox hg HO3 n0_ n1_) | (at_lookup; have _t := tok1; refine wpList_lookup_own_int _ rfl _ _ 61 rfl 9 3 .i64 schemaLaw Try.underlying61 Try.underlying3 (schemaZero _) B _ D rfl HO4.out _ _ rfl hkey ?_; intro c hat hwc; have hce := hat.symm.trans (HN.out.2 nm); injection hce with hce; injection hce with _ hce; rw [hc0n.out] at hce; subst hce; clear hat hwc _t tok1) | (at_mapUpdate; refine wpList_mapUpdate_own _ rfl _ _ _ 61 rfl 9 3 schemaLaw Try.underlying61 _ B _ D rfl HO4.out (by have := HM.out; have := hc3.out; have := hc4.out; omega) _ _ _ rfl rfl hkey _ [] (plainElem_int Try.underlying3 hwf) ?_; intro w5 hown5 hgrow5; have HO5 := Aside0.mk hown5; have BK5 := Aside0.mk (blk_grown BK14.out hgrow5 (fun e => NE1.out (by injection e))); have BKf5 := Aside0.mk (blk_grown BK4.out hgrow5 (fun e => NE2.out (by injection e with e; exact e.symm))); have HB5 := Aside0.mk (HB4.out.grown hgrow5 HB4.out.size (fun j hj => by cases hj; exact GEB.out)); have hcv0 := (blk_cell BKf5.out 0).trans rfl; have hcv1 := (blk_cell BKf5.out 1).trans rfl; clear hown5 hgrow5) | ((with_reducible refine gate_callee (f := 23) rfl ?_); refine goesL_ (some 21) rfl rfl Try.func23 (by kernel_rfl) rfl #[.string nm] rfl (by (try simp only [List.map_toArray, List.map_cons, List.map_nil]); first | done | rfl) ?_; (with_reducible refine (event_Word.calls k1 nm true _ A6.out).mono ?_); rintro e w6 ⟨rfl, hd_⟩; refine ⟨_, rfl, ?_⟩; have hb := Drawn0.below hd_; have HO6 := Aside0.mk (HO5.out.kept (grown_of_below hb none) (by simp)); have BK6 := Aside0.mk (blk_below BK5.out hb); have BKf6 := Aside0.mk (blk_below BKf5.out hb); have HB6 := Aside0.mk (below_step HB5.out hb); have hcu0 := (blk_cell BKf6.out 0).trans rfl; have hcu1 := (blk_cell BKf6.out 1).trans rfl; obtain ⟨c2, hrun2, hat2, _⟩ := HO6.out.lookup_int schemaLaw Try.underlying61 Try.underlying3 (schemaZero _) hkey; have hce := hat2.symm.trans (HN5.out.2 nm); injection hce with hce; injection hce with _ hce; rw [hcn.out] at hce; subst hce; clear hb hd_ hat2))
              go_ret
              exact ⟨rfl, HB6.out⟩
            · rw [if_neg c8] at H
              have c8b0 : decide (kd < 1) = false := decide_eq_false c8
              by_cases c9 : kd > 3
              · rw [if_pos c9] at H
                have c9b0 : decide (3 < kd) = true := decide_eq_true c9
                injection H with H
                subst H
                go_wp2_with (first | ((with_reducible refine gate_dst (N := 5) rfl ?_); refine box_event ?hg (N := 5) ?hd (cs := #[.string (⟨#[]⟩ : ByteArray), .int .i64 0]) (t := 55) ?hr ?_; (case hd => rfl); (case hg => rfl); (case hr => first | (go_simp; done) | (go_simp; rfl)); intro gb2 hg w3 hbox hb; have HO3 := HO.out.kept (grown_of_below hb none) (by simp); have n0_ := blk_below BK1.out hb; have n1_ := below_step HB.out hb; have NE2 : B ≠ gb2 := (by rw [hg]; exact Nat.ne_of_lt HO.out.lt); have NE3 : gb1 ≠ gb2 := (by rw [hg]; exact Nat.ne_of_lt (blk_lt BK1.out)); have GE2 : w.heap.size ≤ gb2 := (by rw [hg]; exact HB.out.size); have hcz0 := (blk_cell hbox 0).trans rfl; have hcz1 := (blk_cell hbox 1).trans rfl; have hfz0 := blk_frozen hbox 0; have hfz1 := blk_frozen hbox 1; have BK4 := Aside0.mk (blk_put (cs' := #[.string nm, .int .i64 kd]) (blk_put (cs' := #[.string nm, .int .i64 0]) hbox 0 (.string nm) rfl) 1 (.int .i64 kd) rfl); have HO4 := Aside0.mk ((HO3.setCell (a := ⟨gb2, 0, none⟩) NE2 (.string nm)).setCell (a := ⟨gb2, 1, none⟩) NE2 (.int .i64 kd)); have BK14 := Aside0.mk (blk_far (p := ⟨gb2, 1, none⟩) (blk_far (p := ⟨gb2, 0, none⟩) n0_ NE3 (.string nm)) NE3 (.int .i64 kd)); have HB4 : Aside0 (Below w.heap.size w ((w3.setCell ⟨gb2, 0, none⟩ (.string nm)).setCell ⟨gb2, 1, none⟩ (.int .i64 kd))) := ⟨(by refine below_set ?_ GE2; refine below_set ?_ GE2; exact n1_)⟩; have hcw0 : ((w3.setCell ⟨gb2, 0, none⟩ (.string nm)).setCell ⟨gb2, 1, none⟩ (.int .i64 kd)).cell? ⟨gb2, 0, none⟩ = some (.string nm) := (blk_cell BK4.out 0).trans rfl; have hcw1 : ((w3.setCell ⟨gb2, 0, none⟩ (.string nm)).setCell ⟨gb2, 1, none⟩ (.int .i64 kd)).cell? ⟨gb2, 1, none⟩ = some (.int .i64 kd) := (blk_cell BK4.out 1).trans rfl; have NE2 := Aside0.mk NE2; clear hb hbox hg HO3 n0_ n1_) | (at_lookup; have _t := tok1; refine wpList_lookup_own_int _ rfl _ _ 61 rfl 9 3 .i64 schemaLaw Try.underlying61 Try.underlying3 (schemaZero _) B _ D rfl HO4.out _ _ rfl hkey ?_; intro c hat hwc; have hce := hat.symm.trans (HN.out.2 nm); injection hce with hce; injection hce with _ hce; rw [hc0n.out] at hce; subst hce; clear hat hwc _t tok1) | (at_mapUpdate; refine wpList_mapUpdate_own _ rfl _ _ _ 61 rfl 9 3 schemaLaw Try.underlying61 _ B _ D rfl HO4.out (by have := HM.out; have := hc3.out; have := hc4.out; omega) _ _ _ rfl rfl hkey _ [] (plainElem_int Try.underlying3 hwf) ?_; intro w5 hown5 hgrow5; have HO5 := Aside0.mk hown5; have BK5 := Aside0.mk (blk_grown BK14.out hgrow5 (fun e => NE1.out (by injection e))); have BKf5 := Aside0.mk (blk_grown BK4.out hgrow5 (fun e => NE2.out (by injection e with e; exact e.symm))); have HB5 := Aside0.mk (HB4.out.grown hgrow5 HB4.out.size (fun j hj => by cases hj; exact GEB.out)); have hcv0 := (blk_cell BKf5.out 0).trans rfl; have hcv1 := (blk_cell BKf5.out 1).trans rfl; clear hown5 hgrow5) | ((with_reducible refine gate_callee (f := 23) rfl ?_); refine goesL_ (some 21) rfl rfl Try.func23 (by kernel_rfl) rfl #[.string nm] rfl (by (try simp only [List.map_toArray, List.map_cons, List.map_nil]); first | done | rfl) ?_; (with_reducible refine (event_Word.calls k1 nm true _ A6.out).mono ?_); rintro e w6 ⟨rfl, hd_⟩; refine ⟨_, rfl, ?_⟩; have hb := Drawn0.below hd_; have HO6 := Aside0.mk (HO5.out.kept (grown_of_below hb none) (by simp)); have BK6 := Aside0.mk (blk_below BK5.out hb); have BKf6 := Aside0.mk (blk_below BKf5.out hb); have HB6 := Aside0.mk (below_step HB5.out hb); have hcu0 := (blk_cell BKf6.out 0).trans rfl; have hcu1 := (blk_cell BKf6.out 1).trans rfl; obtain ⟨c2, hrun2, hat2, _⟩ := HO6.out.lookup_int schemaLaw Try.underlying61 Try.underlying3 (schemaZero _) hkey; have hce := hat2.symm.trans (HN5.out.2 nm); injection hce with hce; injection hce with _ hce; rw [hcn.out] at hce; subst hce; clear hb hd_ hat2))
                go_ret
                exact ⟨rfl, HB6.out⟩
              · rw [if_neg c9] at H
                have c9b0 : decide (3 < kd) = false := decide_eq_false c9
                have H' := Aside0.mk H
                clear H
                go_wp2_with (first | ((with_reducible refine gate_dst (N := 5) rfl ?_); refine box_event ?hg (N := 5) ?hd (cs := #[.string (⟨#[]⟩ : ByteArray), .int .i64 0]) (t := 55) ?hr ?_; (case hd => rfl); (case hg => rfl); (case hr => first | (go_simp; done) | (go_simp; rfl)); intro gb2 hg w3 hbox hb; have HO3 := HO.out.kept (grown_of_below hb none) (by simp); have n0_ := blk_below BK1.out hb; have n1_ := below_step HB.out hb; have NE2 : B ≠ gb2 := (by rw [hg]; exact Nat.ne_of_lt HO.out.lt); have NE3 : gb1 ≠ gb2 := (by rw [hg]; exact Nat.ne_of_lt (blk_lt BK1.out)); have GE2 : w.heap.size ≤ gb2 := (by rw [hg]; exact HB.out.size); have hcz0 := (blk_cell hbox 0).trans rfl; have hcz1 := (blk_cell hbox 1).trans rfl; have hfz0 := blk_frozen hbox 0; have hfz1 := blk_frozen hbox 1; have BK4 := Aside0.mk (blk_put (cs' := #[.string nm, .int .i64 kd]) (blk_put (cs' := #[.string nm, .int .i64 0]) hbox 0 (.string nm) rfl) 1 (.int .i64 kd) rfl); have HO4 := Aside0.mk ((HO3.setCell (a := ⟨gb2, 0, none⟩) NE2 (.string nm)).setCell (a := ⟨gb2, 1, none⟩) NE2 (.int .i64 kd)); have BK14 := Aside0.mk (blk_far (p := ⟨gb2, 1, none⟩) (blk_far (p := ⟨gb2, 0, none⟩) n0_ NE3 (.string nm)) NE3 (.int .i64 kd)); have HB4 : Aside0 (Below w.heap.size w ((w3.setCell ⟨gb2, 0, none⟩ (.string nm)).setCell ⟨gb2, 1, none⟩ (.int .i64 kd))) := ⟨(by refine below_set ?_ GE2; refine below_set ?_ GE2; exact n1_)⟩; have hcw0 : ((w3.setCell ⟨gb2, 0, none⟩ (.string nm)).setCell ⟨gb2, 1, none⟩ (.int .i64 kd)).cell? ⟨gb2, 0, none⟩ = some (.string nm) := (blk_cell BK4.out 0).trans rfl; have hcw1 : ((w3.setCell ⟨gb2, 0, none⟩ (.string nm)).setCell ⟨gb2, 1, none⟩ (.int .i64 kd)).cell? ⟨gb2, 1, none⟩ = some (.int .i64 kd) := (blk_cell BK4.out 1).trans rfl; have NE2 := Aside0.mk NE2; clear hb hbox hg HO3 n0_ n1_) | (at_lookup; have _t := tok1; refine wpList_lookup_own_int _ rfl _ _ 61 rfl 9 3 .i64 schemaLaw Try.underlying61 Try.underlying3 (schemaZero _) B _ D rfl HO4.out _ _ rfl hkey ?_; intro c hat hwc; have hce := hat.symm.trans (HN.out.2 nm); injection hce with hce; injection hce with _ hce; rw [hc0n.out] at hce; subst hce; clear hat hwc _t tok1) | (at_mapUpdate; refine wpList_mapUpdate_own _ rfl _ _ _ 61 rfl 9 3 schemaLaw Try.underlying61 _ B _ D rfl HO4.out (by have := HM.out; have := hc3.out; have := hc4.out; omega) _ _ _ rfl rfl hkey _ [] (plainElem_int Try.underlying3 hwf) ?_; intro w5 hown5 hgrow5; have HO5 := Aside0.mk hown5; have BK5 := Aside0.mk (blk_grown BK14.out hgrow5 (fun e => NE1.out (by injection e))); have BKf5 := Aside0.mk (blk_grown BK4.out hgrow5 (fun e => NE2.out (by injection e with e; exact e.symm))); have HB5 := Aside0.mk (HB4.out.grown hgrow5 HB4.out.size (fun j hj => by cases hj; exact GEB.out)); have hcv0 := (blk_cell BKf5.out 0).trans rfl; have hcv1 := (blk_cell BKf5.out 1).trans rfl; clear hown5 hgrow5) | ((with_reducible refine gate_callee (f := 23) rfl ?_); refine goesL_ (some 21) rfl rfl Try.func23 (by kernel_rfl) rfl #[.string nm] rfl (by (try simp only [List.map_toArray, List.map_cons, List.map_nil]); first | done | rfl) ?_; (with_reducible refine (event_Word.calls k1 nm true _ A6.out).mono ?_); rintro e w6 ⟨rfl, hd_⟩; refine ⟨_, rfl, ?_⟩; have hb := Drawn0.below hd_; have HO6 := Aside0.mk (HO5.out.kept (grown_of_below hb none) (by simp)); have BK6 := Aside0.mk (blk_below BK5.out hb); have BKf6 := Aside0.mk (blk_below BKf5.out hb); have HB6 := Aside0.mk (below_step HB5.out hb); have hcu0 := (blk_cell BKf6.out 0).trans rfl; have hcu1 := (blk_cell BKf6.out 1).trans rfl; obtain ⟨c2, hrun2, hat2, _⟩ := HO6.out.lookup_int schemaLaw Try.underlying61 Try.underlying3 (schemaZero _) hkey; have hce := hat2.symm.trans (HN5.out.2 nm); injection hce with hce; injection hce with _ hce; rw [hcn.out] at hce; subst hce; clear hb hd_ hat2))
                have hj : wrap64 (x10_1 + 1) = x10_1 + 1 := by have := hc3.out; have := hc4.out; have := HM.out; unfold maxLen at this; unfold wrap64; omega
                have hj2 : (wrap64 (x10_1 + 1)).toNat = x10_1.toNat + 1 := by have := hc4.out; rw [hj]; omega
                have hj := Aside0.mk hj
                have hj2 := Aside0.mk hj2
                go_roundg k1
                case measure => have := HK1.out; omega
                case rel => exact ⟨wrap64 (x10_1 + 1), _, rfl, H', ⟨by have := HK1.out; omega⟩, ⟨by have := hj.out; have := hc3.out; have := hc4.out; omega⟩, BK6, ⟨by rw [hj2.out]; exact HO6.out⟩, ⟨by rw [hj2.out, htk.out]; exact HN5.out⟩, HB6⟩
        · replace c1 := Bool.eq_false_iff.mpr c1
          subst c1
          rw [if_neg (by simp)] at H
          injection H with H
          subst H
          go_wp2_with (first | ((with_reducible refine gate_dst (N := 5) rfl ?_); refine box_event ?hg (N := 5) ?hd (cs := #[.string (⟨#[]⟩ : ByteArray), .int .i64 0]) (t := 55) ?hr ?_; (case hd => rfl); (case hg => rfl); (case hr => first | (go_simp; done) | (go_simp; rfl)); intro gb2 hg w3 hbox hb; have HO3 := HO.out.kept (grown_of_below hb none) (by simp); have n0_ := blk_below BK1.out hb; have n1_ := below_step HB.out hb; have NE2 : B ≠ gb2 := (by rw [hg]; exact Nat.ne_of_lt HO.out.lt); have NE3 : gb1 ≠ gb2 := (by rw [hg]; exact Nat.ne_of_lt (blk_lt BK1.out)); have GE2 : w.heap.size ≤ gb2 := (by rw [hg]; exact HB.out.size); have hcz0 := (blk_cell hbox 0).trans rfl; have hcz1 := (blk_cell hbox 1).trans rfl; have hfz0 := blk_frozen hbox 0; have hfz1 := blk_frozen hbox 1; have BK4 := Aside0.mk (blk_put (cs' := #[.string nm, .int .i64 kd]) (blk_put (cs' := #[.string nm, .int .i64 0]) hbox 0 (.string nm) rfl) 1 (.int .i64 kd) rfl); have HO4 := Aside0.mk ((HO3.setCell (a := ⟨gb2, 0, none⟩) NE2 (.string nm)).setCell (a := ⟨gb2, 1, none⟩) NE2 (.int .i64 kd)); have BK14 := Aside0.mk (blk_far (p := ⟨gb2, 1, none⟩) (blk_far (p := ⟨gb2, 0, none⟩) n0_ NE3 (.string nm)) NE3 (.int .i64 kd)); have HB4 : Aside0 (Below w.heap.size w ((w3.setCell ⟨gb2, 0, none⟩ (.string nm)).setCell ⟨gb2, 1, none⟩ (.int .i64 kd))) := ⟨(by refine below_set ?_ GE2; refine below_set ?_ GE2; exact n1_)⟩; have hcw0 : ((w3.setCell ⟨gb2, 0, none⟩ (.string nm)).setCell ⟨gb2, 1, none⟩ (.int .i64 kd)).cell? ⟨gb2, 0, none⟩ = some (.string nm) := (blk_cell BK4.out 0).trans rfl; have hcw1 : ((w3.setCell ⟨gb2, 0, none⟩ (.string nm)).setCell ⟨gb2, 1, none⟩ (.int .i64 kd)).cell? ⟨gb2, 1, none⟩ = some (.int .i64 kd) := (blk_cell BK4.out 1).trans rfl; have NE2 := Aside0.mk NE2; clear hb hbox hg HO3 n0_ n1_) | (at_lookup; have _t := tok1; refine wpList_lookup_own_int _ rfl _ _ 61 rfl 9 3 .i64 schemaLaw Try.underlying61 Try.underlying3 (schemaZero _) B _ D rfl HO4.out _ _ rfl hkey ?_; intro c hat hwc; have hce := hat.symm.trans (HN.out.2 nm); injection hce with hce; injection hce with _ hce; rw [hc0n.out] at hce; subst hce; clear hat hwc _t tok1) | (at_mapUpdate; refine wpList_mapUpdate_own _ rfl _ _ _ 61 rfl 9 3 schemaLaw Try.underlying61 _ B _ D rfl HO4.out (by have := HM.out; have := hc3.out; have := hc4.out; omega) _ _ _ rfl rfl hkey _ [] (plainElem_int Try.underlying3 hwf) ?_; intro w5 hown5 hgrow5; have HO5 := Aside0.mk hown5; have BK5 := Aside0.mk (blk_grown BK14.out hgrow5 (fun e => NE1.out (by injection e))); have BKf5 := Aside0.mk (blk_grown BK4.out hgrow5 (fun e => NE2.out (by injection e with e; exact e.symm))); have HB5 := Aside0.mk (HB4.out.grown hgrow5 HB4.out.size (fun j hj => by cases hj; exact GEB.out)); have hcv0 := (blk_cell BKf5.out 0).trans rfl; have hcv1 := (blk_cell BKf5.out 1).trans rfl; clear hown5 hgrow5) | ((with_reducible refine gate_callee (f := 23) rfl ?_); refine goesL_ (some 21) rfl rfl Try.func23 (by kernel_rfl) rfl #[.string nm] rfl (by (try simp only [List.map_toArray, List.map_cons, List.map_nil]); first | done | rfl) ?_; (with_reducible refine (event_Word.calls k1 nm false _ A6.out).mono ?_); rintro e w6 ⟨rfl, hd_⟩; refine ⟨_, rfl, ?_⟩; have hb := Drawn0.below hd_; have HO6 := Aside0.mk (HO5.out.kept (grown_of_below hb none) (by simp)); have BK6 := Aside0.mk (blk_below BK5.out hb); have BKf6 := Aside0.mk (blk_below BKf5.out hb); have HB6 := Aside0.mk (below_step HB5.out hb); have hcu0 := (blk_cell BKf6.out 0).trans rfl; have hcu1 := (blk_cell BKf6.out 1).trans rfl; obtain ⟨c2, hrun2, hat2, _⟩ := HO6.out.lookup_int schemaLaw Try.underlying61 Try.underlying3 (schemaZero _) hkey; have hce := hat2.symm.trans (HN5.out.2 nm); injection hce with hce; injection hce with _ hce; rw [hcn.out] at hce; subst hce; clear hb hd_ hat2))
          go_ret
          exact ⟨rfl, HB6.out⟩
      · rw [if_neg c3] at H
        have c3b0 : decide (x10_1 < (l0_1.length : Int)) = false := decide_eq_false c3
        replace H := Option.bind_eq_some_iff.mp H
        obtain ⟨t2, A6, H⟩ := H
        have A6 := Aside0.mk A6
        by_cases c1 : t2 = true
        · subst c1
          rw [if_pos rfl] at H
          injection H with H
          subst H
          go_wp2_with (first | ((with_reducible refine gate_callee (f := 23) rfl ?_); refine goesL_ (some 43) rfl rfl Try.func23 (by kernel_rfl) rfl #[.string a0_0] rfl (by (try simp only [List.map_toArray, List.map_cons, List.map_nil]); first | done | rfl) ?_; (with_reducible refine (event_Word.calls k1 a0_0 true _ A6.out).mono ?_); rintro e w6 ⟨rfl, hd_⟩; refine ⟨_, rfl, ?_⟩; have hb := Drawn0.below hd_; have BK6 := Aside0.mk (blk_below BK1.out hb); have HB6 := Aside0.mk (below_step HB.out hb); have hcu0 := (blk_cell BK6.out 0).trans rfl; have hcu1 := (blk_cell BK6.out 1).trans rfl; clear hb hd_))
          go_ret
          exact ⟨by first | rfl | simp, HB6.out⟩
        · replace c1 := Bool.eq_false_iff.mpr c1
          subst c1
          rw [if_neg (by simp)] at H
          injection H with H
          subst H
          go_wp2_with (first | ((with_reducible refine gate_callee (f := 23) rfl ?_); refine goesL_ (some 43) rfl rfl Try.func23 (by kernel_rfl) rfl #[.string a0_0] rfl (by (try simp only [List.map_toArray, List.map_cons, List.map_nil]); first | done | rfl) ?_; (with_reducible refine (event_Word.calls k1 a0_0 false _ A6.out).mono ?_); rintro e w6 ⟨rfl, hd_⟩; refine ⟨_, rfl, ?_⟩; have hb := Drawn0.below hd_; have BK6 := Aside0.mk (blk_below BK1.out hb); have HB6 := Aside0.mk (below_step HB.out hb); have hcu0 := (blk_cell BK6.out 0).trans rfl; have hcu1 := (blk_cell BK6.out 1).trans rfl; clear hb hd_))
          go_ret
          exact ⟨rfl, HB6.out⟩

end Go.Proofs.Ytbnjhmcbkocdjaa.PAll
