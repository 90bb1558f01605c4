/-
  No cell of these rows narrows 'for every input' (looked for: loops, veiled, ifaces, maps, wideKeys, modest, calm, conditions, laid).
  DERIVED. THE GIVEN ROWS OF THIS SEAT. 5 by the template 'for every input the law returns true; each argument reads behind the call as it read before'; 0 by the template 'total and deterministic' (their statements: YtfnhnkaikpgnbaaTotals.lean).
  GIVEN WITH THE SEED: the statements are not yours to turn. If you find one false, say at which input.
  Laid BY PROGRAM, IN A SANDBOX (cutbox-rows.mjs): the forced cells as the released guide's own fill.sh prints them over the translation 0da6e026f32f86f6… (all of the seat's roots in one cut). By AI agents, Wed Nov 11 2026. No macro, syntax, notation, axiom, sorry.
-/
import Derived.Test.YtfnhnkaikpgnbaaChecked
import GoSem.Claim
import GoSem.ClaimJoined
import GoSem.ClaimMapViews
import Derived.JoinedTies
import Derived.KernelRfl
namespace Go.Proofs.Ytfnhnkaikpgnbaa
/- THE CELL 'sum', in the pinned program and in every row, IS THE sha256 OF THE DUMP (.gsa) THAT YtfnhnkaikpgnbaaProg.lean LOADS. Nothing in Lean hashes anything: it is a label: what it is worth is what the hold of that sum in a sandbox is worth. -/
noncomputable def Try.pinned : Pinned := { name := "ytfnhnkaikpgnbaa", sum := "0da6e026f32f86f6caeb86bc3613111b5201ad0e49da5baf826a25f8fb550d53", checked := Try.checked }
namespace Rows
def none {H : Type} : Left H := { results := [], args := [] }

/-- 'augurylaw06.OrderPlays': WHATEVER THE INPUT: true; the input reads as it did. -/
def orderPlaysSpec : ChangeSpec := { name := "orderPlays", fn := fun _ => fun
  | [d] => { results := [.lit (.bool true)], args := [d] }
  | _ => none }
def orderPlaysRow : OpenClaim := { program := "ytfnhnkaikpgnbaa", sum := "0da6e026f32f86f6caeb86bc3613111b5201ad0e49da5baf826a25f8fb550d53", func := "augury/augurylaw06.OrderPlays", spec := "orderPlays", inPlace := ["slices.overlaps[augury/api.Event]"], unfollowed := true, recurses := true, apart := false }
def OrderPlaysSaid : Prop := orderPlaysRow.holds Try.pinned (OpenSpec.ofChange orderPlaysSpec)

/-- ITS FALSE NEIGHBOUR: 'it returns false'. Refute it at one input. -/
def orderPlaysWrong : ChangeSpec := { name := "orderPlays", fn := fun _ => fun
  | [d] => { results := [.lit (.bool false)], args := [d] }
  | _ => none }
def OrderPlaysWrongFalsely : Prop := orderPlaysRow.holds Try.pinned (OpenSpec.ofChange orderPlaysWrong)

/-- 'augurylaw06.OrderOne': WHATEVER THE INPUT: true; the input reads as it did. -/
def orderOneSpec : ChangeSpec := { name := "orderOne", fn := fun _ => fun
  | [d] => { results := [.lit (.bool true)], args := [d] }
  | _ => none }
def orderOneRow : OpenClaim := { program := "ytfnhnkaikpgnbaa", sum := "0da6e026f32f86f6caeb86bc3613111b5201ad0e49da5baf826a25f8fb550d53", func := "augury/augurylaw06.OrderOne", spec := "orderOne", inPlace := ["slices.overlaps[augury/api.Event]"], unfollowed := true, recurses := true, apart := false }
def OrderOneSaid : Prop := orderOneRow.holds Try.pinned (OpenSpec.ofChange orderOneSpec)

/-- ITS FALSE NEIGHBOUR: 'it returns false'. Refute it at one input. -/
def orderOneWrong : ChangeSpec := { name := "orderOne", fn := fun _ => fun
  | [d] => { results := [.lit (.bool false)], args := [d] }
  | _ => none }
def OrderOneWrongFalsely : Prop := orderOneRow.holds Try.pinned (OpenSpec.ofChange orderOneWrong)

/-- 'augurylaw06.OrderAny': WHATEVER THE INPUT: true; the input reads as it did. -/
def orderAnySpec : ChangeSpec := { name := "orderAny", fn := fun _ => fun
  | [d1, d2] => { results := [.lit (.bool true)], args := [d1, d2] }
  | _ => none }
def orderAnyRow : OpenClaim := { program := "ytfnhnkaikpgnbaa", sum := "0da6e026f32f86f6caeb86bc3613111b5201ad0e49da5baf826a25f8fb550d53", func := "augury/augurylaw06.OrderAny", spec := "orderAny", inPlace := ["slices.overlaps[augury/api.Event]"], unfollowed := true, recurses := true, apart := false }
def OrderAnySaid : Prop := orderAnyRow.holds Try.pinned (OpenSpec.ofChange orderAnySpec)

/-- ITS FALSE NEIGHBOUR: 'it returns false'. Refute it at one input. -/
def orderAnyWrong : ChangeSpec := { name := "orderAny", fn := fun _ => fun
  | [d1, d2] => { results := [.lit (.bool false)], args := [d1, d2] }
  | _ => none }
def OrderAnyWrongFalsely : Prop := orderAnyRow.holds Try.pinned (OpenSpec.ofChange orderAnyWrong)

/-- 'augurylaw06.OrderRefused': WHATEVER THE INPUT: true; the input reads as it did. -/
def orderRefusedSpec : ChangeSpec := { name := "orderRefused", fn := fun _ => fun
  | [d] => { results := [.lit (.bool true)], args := [d] }
  | _ => none }
def orderRefusedRow : OpenClaim := { program := "ytfnhnkaikpgnbaa", sum := "0da6e026f32f86f6caeb86bc3613111b5201ad0e49da5baf826a25f8fb550d53", func := "augury/augurylaw06.OrderRefused", spec := "orderRefused", inPlace := ["slices.overlaps[augury/api.Event]"], unfollowed := true, recurses := true, apart := false }
def OrderRefusedSaid : Prop := orderRefusedRow.holds Try.pinned (OpenSpec.ofChange orderRefusedSpec)

/-- ITS FALSE NEIGHBOUR: 'it returns false'. Refute it at one input. -/
def orderRefusedWrong : ChangeSpec := { name := "orderRefused", fn := fun _ => fun
  | [d] => { results := [.lit (.bool false)], args := [d] }
  | _ => none }
def OrderRefusedWrongFalsely : Prop := orderRefusedRow.holds Try.pinned (OpenSpec.ofChange orderRefusedWrong)

/-- 'augurylaw06.OrderDue': WHATEVER THE INPUT: true; the input reads as it did. -/
def orderDueSpec : ChangeSpec := { name := "orderDue", fn := fun _ => fun
  | [d1, d2] => { results := [.lit (.bool true)], args := [d1, d2] }
  | _ => none }
def orderDueRow : OpenClaim := { program := "ytfnhnkaikpgnbaa", sum := "0da6e026f32f86f6caeb86bc3613111b5201ad0e49da5baf826a25f8fb550d53", func := "augury/augurylaw06.OrderDue", spec := "orderDue", inPlace := ["slices.overlaps[augury/api.Event]"], unfollowed := true, recurses := true, apart := false }
def OrderDueSaid : Prop := orderDueRow.holds Try.pinned (OpenSpec.ofChange orderDueSpec)

/-- ITS FALSE NEIGHBOUR: 'it returns false'. Refute it at one input. -/
def orderDueWrong : ChangeSpec := { name := "orderDue", fn := fun _ => fun
  | [d1, d2] => { results := [.lit (.bool false)], args := [d1, d2] }
  | _ => none }
def OrderDueWrongFalsely : Prop := orderDueRow.holds Try.pinned (OpenSpec.ofChange orderDueWrong)

/- THE SECOND FORM. 'bulk': how many values and letters a reading holds, each counted each time it is reached (what is shared counts as often as it is met; a slice's spare places count too). A statement '..UptoSaid' is the law's where the arguments, and the package variables that the reading takes, are together of bulk at most 1048576: NARROWER than '..Said'. Prove '..Said' where nothing that the law and all that it calls make is longer than what came in: it says more and counts as full. Else prove '..UptoSaid'. A law counts once. -/
mutual
def uptoBulk {H : Type} : DataW H → Nat
  | .lit (.string bytes) => bytes.length + 1
  | .lit _ => 1
  | .nil => 1
  | .ptr d => uptoBulk d + 1
  | .slice elems spare => uptoBulkAll elems + uptoBulkAll spare + 1
  | .agg parts => uptoBulkAll parts + 1
  | .iface _ d => uptoBulk d + 1
  | .map entries => uptoBulkEntries entries + 1
  | .held _ => 1
def uptoBulkAll {H : Type} : List (DataW H) → Nat
  | [] => 0
  | d :: r => uptoBulk d + uptoBulkAll r
def uptoBulkEntries {H : Type} : List (Lit × DataW H) → Nat
  | [] => 0
  | x :: r => uptoBulkEntry x + uptoBulkEntries r
def uptoBulkEntry {H : Type} : Lit × DataW H → Nat
  | (.string bytes, d) => bytes.length + uptoBulk d + 1
  | (_, d) => uptoBulk d + 1
 end
def uptoSmall : (H : Type) → List (DataW H) → Bool := fun _ ds => decide (uptoBulkAll ds ≤ 1048576)
def OpenSpec.upto (s : _root_.Go.ChangeSpec) : _root_.Go.OpenSpec := { _root_.Go.OpenSpec.ofChange s with cond := some uptoSmall }

/-- 'augurylaw06.OrderPlays', WHERE WHAT IT READS IS OF BULK AT MOST 1048576: true; the input reads as it did. -/
def orderPlaysUptoRow : OpenClaim := { program := "ytfnhnkaikpgnbaa", sum := "0da6e026f32f86f6caeb86bc3613111b5201ad0e49da5baf826a25f8fb550d53", func := "augury/augurylaw06.OrderPlays", spec := "orderPlays", inPlace := ["slices.overlaps[augury/api.Event]"], unfollowed := true, recurses := true, apart := false, narrowed := true }
def OrderPlaysUptoSaid : Prop := orderPlaysUptoRow.holds Try.pinned (OpenSpec.upto orderPlaysSpec)

/-- 'augurylaw06.OrderOne', WHERE WHAT IT READS IS OF BULK AT MOST 1048576: true; the input reads as it did. -/
def orderOneUptoRow : OpenClaim := { program := "ytfnhnkaikpgnbaa", sum := "0da6e026f32f86f6caeb86bc3613111b5201ad0e49da5baf826a25f8fb550d53", func := "augury/augurylaw06.OrderOne", spec := "orderOne", inPlace := ["slices.overlaps[augury/api.Event]"], unfollowed := true, recurses := true, apart := false, narrowed := true }
def OrderOneUptoSaid : Prop := orderOneUptoRow.holds Try.pinned (OpenSpec.upto orderOneSpec)

/-- 'augurylaw06.OrderAny', WHERE WHAT IT READS IS OF BULK AT MOST 1048576: true; the input reads as it did. -/
def orderAnyUptoRow : OpenClaim := { program := "ytfnhnkaikpgnbaa", sum := "0da6e026f32f86f6caeb86bc3613111b5201ad0e49da5baf826a25f8fb550d53", func := "augury/augurylaw06.OrderAny", spec := "orderAny", inPlace := ["slices.overlaps[augury/api.Event]"], unfollowed := true, recurses := true, apart := false, narrowed := true }
def OrderAnyUptoSaid : Prop := orderAnyUptoRow.holds Try.pinned (OpenSpec.upto orderAnySpec)

/-- 'augurylaw06.OrderRefused', WHERE WHAT IT READS IS OF BULK AT MOST 1048576: true; the input reads as it did. -/
def orderRefusedUptoRow : OpenClaim := { program := "ytfnhnkaikpgnbaa", sum := "0da6e026f32f86f6caeb86bc3613111b5201ad0e49da5baf826a25f8fb550d53", func := "augury/augurylaw06.OrderRefused", spec := "orderRefused", inPlace := ["slices.overlaps[augury/api.Event]"], unfollowed := true, recurses := true, apart := false, narrowed := true }
def OrderRefusedUptoSaid : Prop := orderRefusedUptoRow.holds Try.pinned (OpenSpec.upto orderRefusedSpec)

/-- 'augurylaw06.OrderDue', WHERE WHAT IT READS IS OF BULK AT MOST 1048576: true; the input reads as it did. -/
def orderDueUptoRow : OpenClaim := { program := "ytfnhnkaikpgnbaa", sum := "0da6e026f32f86f6caeb86bc3613111b5201ad0e49da5baf826a25f8fb550d53", func := "augury/augurylaw06.OrderDue", spec := "orderDue", inPlace := ["slices.overlaps[augury/api.Event]"], unfollowed := true, recurses := true, apart := false, narrowed := true }
def OrderDueUptoSaid : Prop := orderDueUptoRow.holds Try.pinned (OpenSpec.upto orderDueSpec)

end Rows
end Go.Proofs.Ytfnhnkaikpgnbaa
