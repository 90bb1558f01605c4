/-
  No cell of these rows narrows 'for every input' (looked for: loops, veiled, ifaces, maps, wideKeys, modest, calm, conditions, laid).
  DERIVED. THE GIVEN ROWS OF THIS SEAT. 6 by the template 'for every input the law returns true; each argument reads behind the call as it read before'; 0 by the template 'total and deterministic' (their statements: YtkljljjmphneiaaTotals.lean).
  GIVEN WITH THE SEED: the statements are not yours to turn. If you find one false, say at which input.
  Laid BY PROGRAM, IN A SANDBOX (cutbox-rows.mjs): the forced cells as the released guide's own fill.sh prints them over the translation 0dc0ae2c0018eea5… (all of the seat's roots in one cut). By AI agents, Wed Nov 11 2026. No macro, syntax, notation, axiom, sorry.
-/
import Derived.Test.YtkljljjmphneiaaChecked
import GoSem.Claim
import GoSem.ClaimJoined
import GoSem.ClaimMapViews
import Derived.JoinedTies
import Derived.KernelRfl
namespace Go.Proofs.Ytkljljjmphneiaa
/- THE CELL 'sum', in the pinned program and in every row, IS THE sha256 OF THE DUMP (.gsa) THAT YtkljljjmphneiaaProg.lean LOADS. Nothing in Lean hashes anything: it is a label: what it is worth is what the hold of that sum in a sandbox is worth. -/
noncomputable def Try.pinned : Pinned := { name := "ytkljljjmphneiaa", sum := "0dc0ae2c0018eea5a64b783f1b08a8d9ce73d159034f1bc11b2a8b830f2d470d", checked := Try.checked }
namespace Rows
def none {H : Type} : Left H := { results := [], args := [] }

/-- 'augurylaw02.FrameTells': WHATEVER THE INPUT: true; the input reads as it did. -/
def frameTellsSpec : ChangeSpec := { name := "frameTells", fn := fun _ => fun
  | [d1, d2] => { results := [.lit (.bool true)], args := [d1, d2] }
  | _ => none }
def frameTellsRow : OpenClaim := { program := "ytkljljjmphneiaa", sum := "0dc0ae2c0018eea5a64b783f1b08a8d9ce73d159034f1bc11b2a8b830f2d470d", func := "augury/augurylaw02.FrameTells", spec := "frameTells", inPlace := ["math.Float64bits", "math.Float64frombits"], apart := false }
def FrameTellsSaid : Prop := frameTellsRow.holds Try.pinned (OpenSpec.ofChange frameTellsSpec)

/-- ITS FALSE NEIGHBOUR: 'it returns false'. Refute it at one input. -/
def frameTellsWrong : ChangeSpec := { name := "frameTells", fn := fun _ => fun
  | [d1, d2] => { results := [.lit (.bool false)], args := [d1, d2] }
  | _ => none }
def FrameTellsWrongFalsely : Prop := frameTellsRow.holds Try.pinned (OpenSpec.ofChange frameTellsWrong)

/-- 'augurylaw02.FrameBack': WHATEVER THE INPUT: true; the input reads as it did. -/
def frameBackSpec : ChangeSpec := { name := "frameBack", fn := fun _ => fun
  | [d] => { results := [.lit (.bool true)], args := [d] }
  | _ => none }
def frameBackRow : OpenClaim := { program := "ytkljljjmphneiaa", sum := "0dc0ae2c0018eea5a64b783f1b08a8d9ce73d159034f1bc11b2a8b830f2d470d", func := "augury/augurylaw02.FrameBack", spec := "frameBack", inPlace := ["math.Float64bits", "math.Float64frombits"], apart := false }
def FrameBackSaid : Prop := frameBackRow.holds Try.pinned (OpenSpec.ofChange frameBackSpec)

/-- ITS FALSE NEIGHBOUR: 'it returns false'. Refute it at one input. -/
def frameBackWrong : ChangeSpec := { name := "frameBack", fn := fun _ => fun
  | [d] => { results := [.lit (.bool false)], args := [d] }
  | _ => none }
def FrameBackWrongFalsely : Prop := frameBackRow.holds Try.pinned (OpenSpec.ofChange frameBackWrong)

/-- 'augurylaw02.FrameTorn': WHATEVER THE INPUT: true; the input reads as it did. -/
def frameTornSpec : ChangeSpec := { name := "frameTorn", fn := fun _ => fun
  | [d1, d2] => { results := [.lit (.bool true)], args := [d1, d2] }
  | _ => none }
def frameTornRow : OpenClaim := { program := "ytkljljjmphneiaa", sum := "0dc0ae2c0018eea5a64b783f1b08a8d9ce73d159034f1bc11b2a8b830f2d470d", func := "augury/augurylaw02.FrameTorn", spec := "frameTorn", inPlace := ["math.Float64bits", "math.Float64frombits"], apart := false }
def FrameTornSaid : Prop := frameTornRow.holds Try.pinned (OpenSpec.ofChange frameTornSpec)

/-- ITS FALSE NEIGHBOUR: 'it returns false'. Refute it at one input. -/
def frameTornWrong : ChangeSpec := { name := "frameTorn", fn := fun _ => fun
  | [d1, d2] => { results := [.lit (.bool false)], args := [d1, d2] }
  | _ => none }
def FrameTornWrongFalsely : Prop := frameTornRow.holds Try.pinned (OpenSpec.ofChange frameTornWrong)

/-- 'augurylaw02.FramePrefix': WHATEVER THE INPUT: true; the input reads as it did. -/
def framePrefixSpec : ChangeSpec := { name := "framePrefix", fn := fun _ => fun
  | [d] => { results := [.lit (.bool true)], args := [d] }
  | _ => none }
def framePrefixRow : OpenClaim := { program := "ytkljljjmphneiaa", sum := "0dc0ae2c0018eea5a64b783f1b08a8d9ce73d159034f1bc11b2a8b830f2d470d", func := "augury/augurylaw02.FramePrefix", spec := "framePrefix", inPlace := ["math.Float64bits", "math.Float64frombits"], apart := false }
def FramePrefixSaid : Prop := framePrefixRow.holds Try.pinned (OpenSpec.ofChange framePrefixSpec)

/-- ITS FALSE NEIGHBOUR: 'it returns false'. Refute it at one input. -/
def framePrefixWrong : ChangeSpec := { name := "framePrefix", fn := fun _ => fun
  | [d] => { results := [.lit (.bool false)], args := [d] }
  | _ => none }
def FramePrefixWrongFalsely : Prop := framePrefixRow.holds Try.pinned (OpenSpec.ofChange framePrefixWrong)

/-- 'augurylaw02.FrameWrong': WHATEVER THE INPUT: true; the input reads as it did. -/
def frameWrongSpec : ChangeSpec := { name := "frameWrong", fn := fun _ => fun
  | [d1, d2, d3] => { results := [.lit (.bool true)], args := [d1, d2, d3] }
  | _ => none }
def frameWrongRow : OpenClaim := { program := "ytkljljjmphneiaa", sum := "0dc0ae2c0018eea5a64b783f1b08a8d9ce73d159034f1bc11b2a8b830f2d470d", func := "augury/augurylaw02.FrameWrong", spec := "frameWrong", inPlace := ["math.Float64bits", "math.Float64frombits"], apart := false }
def FrameWrongSaid : Prop := frameWrongRow.holds Try.pinned (OpenSpec.ofChange frameWrongSpec)

/-- ITS FALSE NEIGHBOUR: 'it returns false'. Refute it at one input. -/
def frameWrongWrong : ChangeSpec := { name := "frameWrong", fn := fun _ => fun
  | [d1, d2, d3] => { results := [.lit (.bool false)], args := [d1, d2, d3] }
  | _ => none }
def FrameWrongWrongFalsely : Prop := frameWrongRow.holds Try.pinned (OpenSpec.ofChange frameWrongWrong)

/-- 'augurylaw02.FrameJoin': WHATEVER THE INPUT: true; the input reads as it did. -/
def frameJoinSpec : ChangeSpec := { name := "frameJoin", fn := fun _ => fun
  | [d1, d2, d3] => { results := [.lit (.bool true)], args := [d1, d2, d3] }
  | _ => none }
def frameJoinRow : OpenClaim := { program := "ytkljljjmphneiaa", sum := "0dc0ae2c0018eea5a64b783f1b08a8d9ce73d159034f1bc11b2a8b830f2d470d", func := "augury/augurylaw02.FrameJoin", spec := "frameJoin", inPlace := ["math.Float64bits", "math.Float64frombits"], apart := false }
def FrameJoinSaid : Prop := frameJoinRow.holds Try.pinned (OpenSpec.ofChange frameJoinSpec)

/-- ITS FALSE NEIGHBOUR: 'it returns false'. Refute it at one input. -/
def frameJoinWrong : ChangeSpec := { name := "frameJoin", fn := fun _ => fun
  | [d1, d2, d3] => { results := [.lit (.bool false)], args := [d1, d2, d3] }
  | _ => none }
def FrameJoinWrongFalsely : Prop := frameJoinRow.holds Try.pinned (OpenSpec.ofChange frameJoinWrong)

/- THE SECOND FORM. 'bulk': how many values and letters a reading holds, each counted each time it is reached (what is shared counts as often as it is met; a slice's spare places count too). A statement '..UptoSaid' is the law's where the arguments, and the package variables that the reading takes, are together of bulk at most 1048576: NARROWER than '..Said'. Prove '..Said' where nothing that the law and all that it calls make is longer than what came in: it says more and counts as full. Else prove '..UptoSaid'. A law counts once. -/
mutual
def uptoBulk {H : Type} : DataW H → Nat
  | .lit (.string bytes) => bytes.length + 1
  | .lit _ => 1
  | .nil => 1
  | .ptr d => uptoBulk d + 1
  | .slice elems spare => uptoBulkAll elems + uptoBulkAll spare + 1
  | .agg parts => uptoBulkAll parts + 1
  | .iface _ d => uptoBulk d + 1
  | .map entries => uptoBulkEntries entries + 1
  | .held _ => 1
def uptoBulkAll {H : Type} : List (DataW H) → Nat
  | [] => 0
  | d :: r => uptoBulk d + uptoBulkAll r
def uptoBulkEntries {H : Type} : List (Lit × DataW H) → Nat
  | [] => 0
  | x :: r => uptoBulkEntry x + uptoBulkEntries r
def uptoBulkEntry {H : Type} : Lit × DataW H → Nat
  | (.string bytes, d) => bytes.length + uptoBulk d + 1
  | (_, d) => uptoBulk d + 1
 end
def uptoSmall : (H : Type) → List (DataW H) → Bool := fun _ ds => decide (uptoBulkAll ds ≤ 1048576)
def OpenSpec.upto (s : _root_.Go.ChangeSpec) : _root_.Go.OpenSpec := { _root_.Go.OpenSpec.ofChange s with cond := some uptoSmall }

/-- 'augurylaw02.FrameTells', WHERE WHAT IT READS IS OF BULK AT MOST 1048576: true; the input reads as it did. -/
def frameTellsUptoRow : OpenClaim := { program := "ytkljljjmphneiaa", sum := "0dc0ae2c0018eea5a64b783f1b08a8d9ce73d159034f1bc11b2a8b830f2d470d", func := "augury/augurylaw02.FrameTells", spec := "frameTells", inPlace := ["math.Float64bits", "math.Float64frombits"], apart := false, narrowed := true }
def FrameTellsUptoSaid : Prop := frameTellsUptoRow.holds Try.pinned (OpenSpec.upto frameTellsSpec)

/-- 'augurylaw02.FrameBack', WHERE WHAT IT READS IS OF BULK AT MOST 1048576: true; the input reads as it did. -/
def frameBackUptoRow : OpenClaim := { program := "ytkljljjmphneiaa", sum := "0dc0ae2c0018eea5a64b783f1b08a8d9ce73d159034f1bc11b2a8b830f2d470d", func := "augury/augurylaw02.FrameBack", spec := "frameBack", inPlace := ["math.Float64bits", "math.Float64frombits"], apart := false, narrowed := true }
def FrameBackUptoSaid : Prop := frameBackUptoRow.holds Try.pinned (OpenSpec.upto frameBackSpec)

/-- 'augurylaw02.FrameTorn', WHERE WHAT IT READS IS OF BULK AT MOST 1048576: true; the input reads as it did. -/
def frameTornUptoRow : OpenClaim := { program := "ytkljljjmphneiaa", sum := "0dc0ae2c0018eea5a64b783f1b08a8d9ce73d159034f1bc11b2a8b830f2d470d", func := "augury/augurylaw02.FrameTorn", spec := "frameTorn", inPlace := ["math.Float64bits", "math.Float64frombits"], apart := false, narrowed := true }
def FrameTornUptoSaid : Prop := frameTornUptoRow.holds Try.pinned (OpenSpec.upto frameTornSpec)

/-- 'augurylaw02.FramePrefix', WHERE WHAT IT READS IS OF BULK AT MOST 1048576: true; the input reads as it did. -/
def framePrefixUptoRow : OpenClaim := { program := "ytkljljjmphneiaa", sum := "0dc0ae2c0018eea5a64b783f1b08a8d9ce73d159034f1bc11b2a8b830f2d470d", func := "augury/augurylaw02.FramePrefix", spec := "framePrefix", inPlace := ["math.Float64bits", "math.Float64frombits"], apart := false, narrowed := true }
def FramePrefixUptoSaid : Prop := framePrefixUptoRow.holds Try.pinned (OpenSpec.upto framePrefixSpec)

/-- 'augurylaw02.FrameWrong', WHERE WHAT IT READS IS OF BULK AT MOST 1048576: true; the input reads as it did. -/
def frameWrongUptoRow : OpenClaim := { program := "ytkljljjmphneiaa", sum := "0dc0ae2c0018eea5a64b783f1b08a8d9ce73d159034f1bc11b2a8b830f2d470d", func := "augury/augurylaw02.FrameWrong", spec := "frameWrong", inPlace := ["math.Float64bits", "math.Float64frombits"], apart := false, narrowed := true }
def FrameWrongUptoSaid : Prop := frameWrongUptoRow.holds Try.pinned (OpenSpec.upto frameWrongSpec)

/-- 'augurylaw02.FrameJoin', WHERE WHAT IT READS IS OF BULK AT MOST 1048576: true; the input reads as it did. -/
def frameJoinUptoRow : OpenClaim := { program := "ytkljljjmphneiaa", sum := "0dc0ae2c0018eea5a64b783f1b08a8d9ce73d159034f1bc11b2a8b830f2d470d", func := "augury/augurylaw02.FrameJoin", spec := "frameJoin", inPlace := ["math.Float64bits", "math.Float64frombits"], apart := false, narrowed := true }
def FrameJoinUptoSaid : Prop := frameJoinUptoRow.holds Try.pinned (OpenSpec.upto frameJoinSpec)

end Rows
end Go.Proofs.Ytkljljjmphneiaa
