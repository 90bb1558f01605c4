/-
  No cell of these rows narrows 'for every input' (looked for: loops, veiled, ifaces, maps, wideKeys, modest, calm, conditions, laid).
  DERIVED. THE GIVEN ROWS OF THIS SEAT. 6 by the template 'for every input the law returns true; each argument reads behind the call as it read before'; 0 by the template 'total and deterministic' (their statements: YtbnjhmcbkocdjaaTotals.lean).
  GIVEN WITH THE SEED: the statements are not yours to turn. If you find one false, say at which input.
  Laid BY PROGRAM, IN A SANDBOX (cutbox-rows.mjs): the forced cells as the released guide's own fill.sh prints them over the translation b3d82df85cf255f0… (all of the seat's roots in one cut). By AI agents, Wed Nov 11 2026. No macro, syntax, notation, axiom, sorry.
-/
import Derived.Test.YtbnjhmcbkocdjaaChecked
import GoSem.Claim
import GoSem.ClaimJoined
import GoSem.ClaimMapViews
import Derived.JoinedTies
import Derived.KernelRfl
namespace Go.Proofs.Ytbnjhmcbkocdjaa
/- THE CELL 'sum', in the pinned program and in every row, IS THE sha256 OF THE DUMP (.gsa) THAT YtbnjhmcbkocdjaaProg.lean LOADS. Nothing in Lean hashes anything: it is a label: what it is worth is what the hold of that sum in a sandbox is worth. -/
noncomputable def Try.pinned : Pinned := { name := "ytbnjhmcbkocdjaa", sum := "b3d82df85cf255f059e4861da4fd3c9bbfeba9282608152bbc8dbc90c5bc5a2e", checked := Try.checked }
namespace Rows
def none {H : Type} : Left H := { results := [], args := [] }

/-- 'augurylaw05.EventTells': WHATEVER THE INPUT: true; the input reads as it did. -/
def eventTellsSpec : ChangeSpec := { name := "eventTells", fn := fun _ => fun
  | [d1, d2, d3] => { results := [.lit (.bool true)], args := [d1, d2, d3] }
  | _ => none }
def eventTellsRow : OpenClaim := { program := "ytbnjhmcbkocdjaa", sum := "b3d82df85cf255f059e4861da4fd3c9bbfeba9282608152bbc8dbc90c5bc5a2e", func := "augury/augurylaw05.EventTells", spec := "eventTells", unfollowed := true, recurses := true, apart := false }
def EventTellsSaid : Prop := eventTellsRow.holds Try.pinned (OpenSpec.ofChange eventTellsSpec)

/-- ITS FALSE NEIGHBOUR: 'it returns false'. Refute it at one input. -/
def eventTellsWrong : ChangeSpec := { name := "eventTells", fn := fun _ => fun
  | [d1, d2, d3] => { results := [.lit (.bool false)], args := [d1, d2, d3] }
  | _ => none }
def EventTellsWrongFalsely : Prop := eventTellsRow.holds Try.pinned (OpenSpec.ofChange eventTellsWrong)

/-- 'augurylaw05.EventReads': WHATEVER THE INPUT: true; the input reads as it did. -/
def eventReadsSpec : ChangeSpec := { name := "eventReads", fn := fun _ => fun
  | [d1, d2, d3] => { results := [.lit (.bool true)], args := [d1, d2, d3] }
  | _ => none }
def eventReadsRow : OpenClaim := { program := "ytbnjhmcbkocdjaa", sum := "b3d82df85cf255f059e4861da4fd3c9bbfeba9282608152bbc8dbc90c5bc5a2e", func := "augury/augurylaw05.EventReads", spec := "eventReads", unfollowed := true, recurses := true, apart := false }
def EventReadsSaid : Prop := eventReadsRow.holds Try.pinned (OpenSpec.ofChange eventReadsSpec)

/-- ITS FALSE NEIGHBOUR: 'it returns false'. Refute it at one input. -/
def eventReadsWrong : ChangeSpec := { name := "eventReads", fn := fun _ => fun
  | [d1, d2, d3] => { results := [.lit (.bool false)], args := [d1, d2, d3] }
  | _ => none }
def EventReadsWrongFalsely : Prop := eventReadsRow.holds Try.pinned (OpenSpec.ofChange eventReadsWrong)

/-- 'augurylaw05.EventBack': WHATEVER THE INPUT: true; the input reads as it did. -/
def eventBackSpec : ChangeSpec := { name := "eventBack", fn := fun _ => fun
  | [d1, d2, d3, d4] => { results := [.lit (.bool true)], args := [d1, d2, d3, d4] }
  | _ => none }
def eventBackRow : OpenClaim := { program := "ytbnjhmcbkocdjaa", sum := "b3d82df85cf255f059e4861da4fd3c9bbfeba9282608152bbc8dbc90c5bc5a2e", func := "augury/augurylaw05.EventBack", spec := "eventBack", unfollowed := true, recurses := true, apart := false }
def EventBackSaid : Prop := eventBackRow.holds Try.pinned (OpenSpec.ofChange eventBackSpec)

/-- ITS FALSE NEIGHBOUR: 'it returns false'. Refute it at one input. -/
def eventBackWrong : ChangeSpec := { name := "eventBack", fn := fun _ => fun
  | [d1, d2, d3, d4] => { results := [.lit (.bool false)], args := [d1, d2, d3, d4] }
  | _ => none }
def EventBackWrongFalsely : Prop := eventBackRow.holds Try.pinned (OpenSpec.ofChange eventBackWrong)

/-- 'augurylaw05.EventOrder': WHATEVER THE INPUT: true; the input reads as it did. -/
def eventOrderSpec : ChangeSpec := { name := "eventOrder", fn := fun _ => fun
  | [d1, d2, d3] => { results := [.lit (.bool true)], args := [d1, d2, d3] }
  | _ => none }
def eventOrderRow : OpenClaim := { program := "ytbnjhmcbkocdjaa", sum := "b3d82df85cf255f059e4861da4fd3c9bbfeba9282608152bbc8dbc90c5bc5a2e", func := "augury/augurylaw05.EventOrder", spec := "eventOrder", unfollowed := true, recurses := true, apart := false }
def EventOrderSaid : Prop := eventOrderRow.holds Try.pinned (OpenSpec.ofChange eventOrderSpec)

/-- ITS FALSE NEIGHBOUR: 'it returns false'. Refute it at one input. -/
def eventOrderWrong : ChangeSpec := { name := "eventOrder", fn := fun _ => fun
  | [d1, d2, d3] => { results := [.lit (.bool false)], args := [d1, d2, d3] }
  | _ => none }
def EventOrderWrongFalsely : Prop := eventOrderRow.holds Try.pinned (OpenSpec.ofChange eventOrderWrong)

/-- 'augurylaw05.EventFits': WHATEVER THE INPUT: true; the input reads as it did. -/
def eventFitsSpec : ChangeSpec := { name := "eventFits", fn := fun _ => fun
  | [d1, d2, d3, d4] => { results := [.lit (.bool true)], args := [d1, d2, d3, d4] }
  | _ => none }
def eventFitsRow : OpenClaim := { program := "ytbnjhmcbkocdjaa", sum := "b3d82df85cf255f059e4861da4fd3c9bbfeba9282608152bbc8dbc90c5bc5a2e", func := "augury/augurylaw05.EventFits", spec := "eventFits", unfollowed := true, recurses := true, apart := false }
def EventFitsSaid : Prop := eventFitsRow.holds Try.pinned (OpenSpec.ofChange eventFitsSpec)

/-- ITS FALSE NEIGHBOUR: 'it returns false'. Refute it at one input. -/
def eventFitsWrong : ChangeSpec := { name := "eventFits", fn := fun _ => fun
  | [d1, d2, d3, d4] => { results := [.lit (.bool false)], args := [d1, d2, d3, d4] }
  | _ => none }
def EventFitsWrongFalsely : Prop := eventFitsRow.holds Try.pinned (OpenSpec.ofChange eventFitsWrong)

/-- 'augurylaw05.EventWords': WHATEVER THE INPUT: true; the input reads as it did. -/
def eventWordsSpec : ChangeSpec := { name := "eventWords", fn := fun _ => fun
  | [d1, d2] => { results := [.lit (.bool true)], args := [d1, d2] }
  | _ => none }
def eventWordsRow : OpenClaim := { program := "ytbnjhmcbkocdjaa", sum := "b3d82df85cf255f059e4861da4fd3c9bbfeba9282608152bbc8dbc90c5bc5a2e", func := "augury/augurylaw05.EventWords", spec := "eventWords", unfollowed := true, recurses := true, apart := false }
def EventWordsSaid : Prop := eventWordsRow.holds Try.pinned (OpenSpec.ofChange eventWordsSpec)

/-- ITS FALSE NEIGHBOUR: 'it returns false'. Refute it at one input. -/
def eventWordsWrong : ChangeSpec := { name := "eventWords", fn := fun _ => fun
  | [d1, d2] => { results := [.lit (.bool false)], args := [d1, d2] }
  | _ => none }
def EventWordsWrongFalsely : Prop := eventWordsRow.holds Try.pinned (OpenSpec.ofChange eventWordsWrong)

/- THE SECOND FORM. 'bulk': how many values and letters a reading holds, each counted each time it is reached (what is shared counts as often as it is met; a slice's spare places count too). A statement '..UptoSaid' is the law's where the arguments, and the package variables that the reading takes, are together of bulk at most 1048576: NARROWER than '..Said'. Prove '..Said' where nothing that the law and all that it calls make is longer than what came in: it says more and counts as full. Else prove '..UptoSaid'. A law counts once. -/
mutual
def uptoBulk {H : Type} : DataW H → Nat
  | .lit (.string bytes) => bytes.length + 1
  | .lit _ => 1
  | .nil => 1
  | .ptr d => uptoBulk d + 1
  | .slice elems spare => uptoBulkAll elems + uptoBulkAll spare + 1
  | .agg parts => uptoBulkAll parts + 1
  | .iface _ d => uptoBulk d + 1
  | .map entries => uptoBulkEntries entries + 1
  | .held _ => 1
def uptoBulkAll {H : Type} : List (DataW H) → Nat
  | [] => 0
  | d :: r => uptoBulk d + uptoBulkAll r
def uptoBulkEntries {H : Type} : List (Lit × DataW H) → Nat
  | [] => 0
  | x :: r => uptoBulkEntry x + uptoBulkEntries r
def uptoBulkEntry {H : Type} : Lit × DataW H → Nat
  | (.string bytes, d) => bytes.length + uptoBulk d + 1
  | (_, d) => uptoBulk d + 1
 end
def uptoSmall : (H : Type) → List (DataW H) → Bool := fun _ ds => decide (uptoBulkAll ds ≤ 1048576)
def OpenSpec.upto (s : _root_.Go.ChangeSpec) : _root_.Go.OpenSpec := { _root_.Go.OpenSpec.ofChange s with cond := some uptoSmall }

/-- 'augurylaw05.EventTells', WHERE WHAT IT READS IS OF BULK AT MOST 1048576: true; the input reads as it did. -/
def eventTellsUptoRow : OpenClaim := { program := "ytbnjhmcbkocdjaa", sum := "b3d82df85cf255f059e4861da4fd3c9bbfeba9282608152bbc8dbc90c5bc5a2e", func := "augury/augurylaw05.EventTells", spec := "eventTells", unfollowed := true, recurses := true, apart := false, narrowed := true }
def EventTellsUptoSaid : Prop := eventTellsUptoRow.holds Try.pinned (OpenSpec.upto eventTellsSpec)

/-- 'augurylaw05.EventReads', WHERE WHAT IT READS IS OF BULK AT MOST 1048576: true; the input reads as it did. -/
def eventReadsUptoRow : OpenClaim := { program := "ytbnjhmcbkocdjaa", sum := "b3d82df85cf255f059e4861da4fd3c9bbfeba9282608152bbc8dbc90c5bc5a2e", func := "augury/augurylaw05.EventReads", spec := "eventReads", unfollowed := true, recurses := true, apart := false, narrowed := true }
def EventReadsUptoSaid : Prop := eventReadsUptoRow.holds Try.pinned (OpenSpec.upto eventReadsSpec)

/-- 'augurylaw05.EventBack', WHERE WHAT IT READS IS OF BULK AT MOST 1048576: true; the input reads as it did. -/
def eventBackUptoRow : OpenClaim := { program := "ytbnjhmcbkocdjaa", sum := "b3d82df85cf255f059e4861da4fd3c9bbfeba9282608152bbc8dbc90c5bc5a2e", func := "augury/augurylaw05.EventBack", spec := "eventBack", unfollowed := true, recurses := true, apart := false, narrowed := true }
def EventBackUptoSaid : Prop := eventBackUptoRow.holds Try.pinned (OpenSpec.upto eventBackSpec)

/-- 'augurylaw05.EventOrder', WHERE WHAT IT READS IS OF BULK AT MOST 1048576: true; the input reads as it did. -/
def eventOrderUptoRow : OpenClaim := { program := "ytbnjhmcbkocdjaa", sum := "b3d82df85cf255f059e4861da4fd3c9bbfeba9282608152bbc8dbc90c5bc5a2e", func := "augury/augurylaw05.EventOrder", spec := "eventOrder", unfollowed := true, recurses := true, apart := false, narrowed := true }
def EventOrderUptoSaid : Prop := eventOrderUptoRow.holds Try.pinned (OpenSpec.upto eventOrderSpec)

/-- 'augurylaw05.EventFits', WHERE WHAT IT READS IS OF BULK AT MOST 1048576: true; the input reads as it did. -/
def eventFitsUptoRow : OpenClaim := { program := "ytbnjhmcbkocdjaa", sum := "b3d82df85cf255f059e4861da4fd3c9bbfeba9282608152bbc8dbc90c5bc5a2e", func := "augury/augurylaw05.EventFits", spec := "eventFits", unfollowed := true, recurses := true, apart := false, narrowed := true }
def EventFitsUptoSaid : Prop := eventFitsUptoRow.holds Try.pinned (OpenSpec.upto eventFitsSpec)

/-- 'augurylaw05.EventWords', WHERE WHAT IT READS IS OF BULK AT MOST 1048576: true; the input reads as it did. -/
def eventWordsUptoRow : OpenClaim := { program := "ytbnjhmcbkocdjaa", sum := "b3d82df85cf255f059e4861da4fd3c9bbfeba9282608152bbc8dbc90c5bc5a2e", func := "augury/augurylaw05.EventWords", spec := "eventWords", unfollowed := true, recurses := true, apart := false, narrowed := true }
def EventWordsUptoSaid : Prop := eventWordsUptoRow.holds Try.pinned (OpenSpec.upto eventWordsSpec)

end Rows
end Go.Proofs.Ytbnjhmcbkocdjaa
