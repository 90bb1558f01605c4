/-
  NARROWER THAN 'FOR EVERY INPUT', by the rows' own cells (each row's printed sentence says how): NfaTells: loops · NfaStates: loops · NfaPlain: loops · NfaPlus: loops · NfaNots: loops · NfaOpt: loops.
  DERIVED. THE GIVEN ROWS OF THIS SEAT. 6 by the template 'for every input the law returns true; each argument reads behind the call as it read before'; 0 by the template 'total and deterministic' (their statements: YthedngefmaklnaaTotals.lean).
  GIVEN WITH THE SEED: the statements are not yours to turn. If you find one false, say at which input.
  Laid BY PROGRAM, IN A SANDBOX (cutbox-rows.mjs): the forced cells as the released guide's own fill.sh prints them over the translation 0147df943225811a… (all of the seat's roots in one cut). By AI agents, Wed Nov 11 2026. No macro, syntax, notation, axiom, sorry.
-/
import Derived.Test.YthedngefmaklnaaChecked
import GoSem.Claim
import GoSem.ClaimJoined
import GoSem.ClaimMapViews
import Derived.JoinedTies
import Derived.KernelRfl
namespace Go.Proofs.Ythedngefmaklnaa
/- THE CELL 'sum', in the pinned program and in every row, IS THE sha256 OF THE DUMP (.gsa) THAT YthedngefmaklnaaProg.lean LOADS. Nothing in Lean hashes anything: it is a label: what it is worth is what the hold of that sum in a sandbox is worth. -/
noncomputable def Try.pinned : Pinned := { name := "ythedngefmaklnaa", sum := "0147df943225811aca5c0b4681d0de32e7329d7eb90818fae7cf28acb2a0838c", checked := Try.checked }
namespace Rows
def none {H : Type} : Left H := { results := [], args := [] }

/-- 'augurylaw12.NfaTells': WHATEVER THE INPUT: true; the input reads as it did. -/
def nfaTellsSpec : ChangeSpec := { name := "nfaTells", fn := fun _ => fun
  | [d1, d2] => { results := [.lit (.bool true)], args := [d1, d2] }
  | _ => none }
def nfaTellsRow : OpenClaim := { program := "ythedngefmaklnaa", sum := "0147df943225811aca5c0b4681d0de32e7329d7eb90818fae7cf28acb2a0838c", func := "augury/augurylaw12.NfaTells", spec := "nfaTells", inPlace := ["internal/bytealg.IndexByteString", "internal/bytealg.IndexString"], unfollowed := true, recurses := true, named := ["internal/bytealg.MaxLen"], loops := true, apart := false }
def NfaTellsSaid : Prop := nfaTellsRow.holds Try.pinned (OpenSpec.ofChange nfaTellsSpec)

/-- ITS FALSE NEIGHBOUR: 'it returns false'. Refute it at one input. -/
def nfaTellsWrong : ChangeSpec := { name := "nfaTells", fn := fun _ => fun
  | [d1, d2] => { results := [.lit (.bool false)], args := [d1, d2] }
  | _ => none }
def NfaTellsWrongFalsely : Prop := nfaTellsRow.holds Try.pinned (OpenSpec.ofChange nfaTellsWrong)

/-- 'augurylaw12.NfaStates': WHATEVER THE INPUT: true; the input reads as it did. -/
def nfaStatesSpec : ChangeSpec := { name := "nfaStates", fn := fun _ => fun
  | [d] => { results := [.lit (.bool true)], args := [d] }
  | _ => none }
def nfaStatesRow : OpenClaim := { program := "ythedngefmaklnaa", sum := "0147df943225811aca5c0b4681d0de32e7329d7eb90818fae7cf28acb2a0838c", func := "augury/augurylaw12.NfaStates", spec := "nfaStates", inPlace := ["internal/bytealg.IndexByteString", "internal/bytealg.IndexString"], unfollowed := true, recurses := true, named := ["internal/bytealg.MaxLen"], loops := true, apart := false }
def NfaStatesSaid : Prop := nfaStatesRow.holds Try.pinned (OpenSpec.ofChange nfaStatesSpec)

/-- ITS FALSE NEIGHBOUR: 'it returns false'. Refute it at one input. -/
def nfaStatesWrong : ChangeSpec := { name := "nfaStates", fn := fun _ => fun
  | [d] => { results := [.lit (.bool false)], args := [d] }
  | _ => none }
def NfaStatesWrongFalsely : Prop := nfaStatesRow.holds Try.pinned (OpenSpec.ofChange nfaStatesWrong)

/-- 'augurylaw12.NfaPlain': WHATEVER THE INPUT: true; the input reads as it did. -/
def nfaPlainSpec : ChangeSpec := { name := "nfaPlain", fn := fun _ => fun
  | [d1, d2] => { results := [.lit (.bool true)], args := [d1, d2] }
  | _ => none }
def nfaPlainRow : OpenClaim := { program := "ythedngefmaklnaa", sum := "0147df943225811aca5c0b4681d0de32e7329d7eb90818fae7cf28acb2a0838c", func := "augury/augurylaw12.NfaPlain", spec := "nfaPlain", inPlace := ["internal/bytealg.IndexByteString", "internal/bytealg.IndexString"], unfollowed := true, recurses := true, named := ["internal/bytealg.MaxLen"], loops := true, apart := false }
def NfaPlainSaid : Prop := nfaPlainRow.holds Try.pinned (OpenSpec.ofChange nfaPlainSpec)

/-- ITS FALSE NEIGHBOUR: 'it returns false'. Refute it at one input. -/
def nfaPlainWrong : ChangeSpec := { name := "nfaPlain", fn := fun _ => fun
  | [d1, d2] => { results := [.lit (.bool false)], args := [d1, d2] }
  | _ => none }
def NfaPlainWrongFalsely : Prop := nfaPlainRow.holds Try.pinned (OpenSpec.ofChange nfaPlainWrong)

/-- 'augurylaw12.NfaPlus': WHATEVER THE INPUT: true; the input reads as it did. -/
def nfaPlusSpec : ChangeSpec := { name := "nfaPlus", fn := fun _ => fun
  | [d1, d2] => { results := [.lit (.bool true)], args := [d1, d2] }
  | _ => none }
def nfaPlusRow : OpenClaim := { program := "ythedngefmaklnaa", sum := "0147df943225811aca5c0b4681d0de32e7329d7eb90818fae7cf28acb2a0838c", func := "augury/augurylaw12.NfaPlus", spec := "nfaPlus", inPlace := ["internal/bytealg.IndexByteString", "internal/bytealg.IndexString"], unfollowed := true, recurses := true, named := ["internal/bytealg.MaxLen"], loops := true, apart := false }
def NfaPlusSaid : Prop := nfaPlusRow.holds Try.pinned (OpenSpec.ofChange nfaPlusSpec)

/-- ITS FALSE NEIGHBOUR: 'it returns false'. Refute it at one input. -/
def nfaPlusWrong : ChangeSpec := { name := "nfaPlus", fn := fun _ => fun
  | [d1, d2] => { results := [.lit (.bool false)], args := [d1, d2] }
  | _ => none }
def NfaPlusWrongFalsely : Prop := nfaPlusRow.holds Try.pinned (OpenSpec.ofChange nfaPlusWrong)

/-- 'augurylaw12.NfaNots': WHATEVER THE INPUT: true; the input reads as it did. -/
def nfaNotsSpec : ChangeSpec := { name := "nfaNots", fn := fun _ => fun
  | [d1, d2] => { results := [.lit (.bool true)], args := [d1, d2] }
  | _ => none }
def nfaNotsRow : OpenClaim := { program := "ythedngefmaklnaa", sum := "0147df943225811aca5c0b4681d0de32e7329d7eb90818fae7cf28acb2a0838c", func := "augury/augurylaw12.NfaNots", spec := "nfaNots", inPlace := ["internal/bytealg.IndexByteString", "internal/bytealg.IndexString"], unfollowed := true, recurses := true, named := ["internal/bytealg.MaxLen"], loops := true, apart := false }
def NfaNotsSaid : Prop := nfaNotsRow.holds Try.pinned (OpenSpec.ofChange nfaNotsSpec)

/-- ITS FALSE NEIGHBOUR: 'it returns false'. Refute it at one input. -/
def nfaNotsWrong : ChangeSpec := { name := "nfaNots", fn := fun _ => fun
  | [d1, d2] => { results := [.lit (.bool false)], args := [d1, d2] }
  | _ => none }
def NfaNotsWrongFalsely : Prop := nfaNotsRow.holds Try.pinned (OpenSpec.ofChange nfaNotsWrong)

/-- 'augurylaw12.NfaOpt': WHATEVER THE INPUT: true; the input reads as it did. -/
def nfaOptSpec : ChangeSpec := { name := "nfaOpt", fn := fun _ => fun
  | [d1, d2, d3] => { results := [.lit (.bool true)], args := [d1, d2, d3] }
  | _ => none }
def nfaOptRow : OpenClaim := { program := "ythedngefmaklnaa", sum := "0147df943225811aca5c0b4681d0de32e7329d7eb90818fae7cf28acb2a0838c", func := "augury/augurylaw12.NfaOpt", spec := "nfaOpt", inPlace := ["internal/bytealg.IndexByteString", "internal/bytealg.IndexString"], unfollowed := true, recurses := true, named := ["internal/bytealg.MaxLen"], loops := true, apart := false }
def NfaOptSaid : Prop := nfaOptRow.holds Try.pinned (OpenSpec.ofChange nfaOptSpec)

/-- ITS FALSE NEIGHBOUR: 'it returns false'. Refute it at one input. -/
def nfaOptWrong : ChangeSpec := { name := "nfaOpt", fn := fun _ => fun
  | [d1, d2, d3] => { results := [.lit (.bool false)], args := [d1, d2, d3] }
  | _ => none }
def NfaOptWrongFalsely : Prop := nfaOptRow.holds Try.pinned (OpenSpec.ofChange nfaOptWrong)

/- THE SECOND FORM. 'bulk': how many values and letters a reading holds, each counted each time it is reached (what is shared counts as often as it is met; a slice's spare places count too). A statement '..UptoSaid' is the law's where the arguments, and the package variables that the reading takes, are together of bulk at most 1048576: NARROWER than '..Said'. Prove '..Said' where nothing that the law and all that it calls make is longer than what came in: it says more and counts as full. Else prove '..UptoSaid'. A law counts once. -/
mutual
def uptoBulk {H : Type} : DataW H → Nat
  | .lit (.string bytes) => bytes.length + 1
  | .lit _ => 1
  | .nil => 1
  | .ptr d => uptoBulk d + 1
  | .slice elems spare => uptoBulkAll elems + uptoBulkAll spare + 1
  | .agg parts => uptoBulkAll parts + 1
  | .iface _ d => uptoBulk d + 1
  | .map entries => uptoBulkEntries entries + 1
  | .held _ => 1
def uptoBulkAll {H : Type} : List (DataW H) → Nat
  | [] => 0
  | d :: r => uptoBulk d + uptoBulkAll r
def uptoBulkEntries {H : Type} : List (Lit × DataW H) → Nat
  | [] => 0
  | x :: r => uptoBulkEntry x + uptoBulkEntries r
def uptoBulkEntry {H : Type} : Lit × DataW H → Nat
  | (.string bytes, d) => bytes.length + uptoBulk d + 1
  | (_, d) => uptoBulk d + 1
 end
def uptoSmall : (H : Type) → List (DataW H) → Bool := fun _ ds => decide (uptoBulkAll ds ≤ 1048576)
def OpenSpec.upto (s : _root_.Go.ChangeSpec) : _root_.Go.OpenSpec := { _root_.Go.OpenSpec.ofChange s with cond := some uptoSmall }

/-- 'augurylaw12.NfaTells', WHERE WHAT IT READS IS OF BULK AT MOST 1048576: true; the input reads as it did. -/
def nfaTellsUptoRow : OpenClaim := { program := "ythedngefmaklnaa", sum := "0147df943225811aca5c0b4681d0de32e7329d7eb90818fae7cf28acb2a0838c", func := "augury/augurylaw12.NfaTells", spec := "nfaTells", inPlace := ["internal/bytealg.IndexByteString", "internal/bytealg.IndexString"], unfollowed := true, recurses := true, named := ["internal/bytealg.MaxLen"], loops := true, apart := false, narrowed := true }
def NfaTellsUptoSaid : Prop := nfaTellsUptoRow.holds Try.pinned (OpenSpec.upto nfaTellsSpec)

/-- 'augurylaw12.NfaStates', WHERE WHAT IT READS IS OF BULK AT MOST 1048576: true; the input reads as it did. -/
def nfaStatesUptoRow : OpenClaim := { program := "ythedngefmaklnaa", sum := "0147df943225811aca5c0b4681d0de32e7329d7eb90818fae7cf28acb2a0838c", func := "augury/augurylaw12.NfaStates", spec := "nfaStates", inPlace := ["internal/bytealg.IndexByteString", "internal/bytealg.IndexString"], unfollowed := true, recurses := true, named := ["internal/bytealg.MaxLen"], loops := true, apart := false, narrowed := true }
def NfaStatesUptoSaid : Prop := nfaStatesUptoRow.holds Try.pinned (OpenSpec.upto nfaStatesSpec)

/-- 'augurylaw12.NfaPlain', WHERE WHAT IT READS IS OF BULK AT MOST 1048576: true; the input reads as it did. -/
def nfaPlainUptoRow : OpenClaim := { program := "ythedngefmaklnaa", sum := "0147df943225811aca5c0b4681d0de32e7329d7eb90818fae7cf28acb2a0838c", func := "augury/augurylaw12.NfaPlain", spec := "nfaPlain", inPlace := ["internal/bytealg.IndexByteString", "internal/bytealg.IndexString"], unfollowed := true, recurses := true, named := ["internal/bytealg.MaxLen"], loops := true, apart := false, narrowed := true }
def NfaPlainUptoSaid : Prop := nfaPlainUptoRow.holds Try.pinned (OpenSpec.upto nfaPlainSpec)

/-- 'augurylaw12.NfaPlus', WHERE WHAT IT READS IS OF BULK AT MOST 1048576: true; the input reads as it did. -/
def nfaPlusUptoRow : OpenClaim := { program := "ythedngefmaklnaa", sum := "0147df943225811aca5c0b4681d0de32e7329d7eb90818fae7cf28acb2a0838c", func := "augury/augurylaw12.NfaPlus", spec := "nfaPlus", inPlace := ["internal/bytealg.IndexByteString", "internal/bytealg.IndexString"], unfollowed := true, recurses := true, named := ["internal/bytealg.MaxLen"], loops := true, apart := false, narrowed := true }
def NfaPlusUptoSaid : Prop := nfaPlusUptoRow.holds Try.pinned (OpenSpec.upto nfaPlusSpec)

/-- 'augurylaw12.NfaNots', WHERE WHAT IT READS IS OF BULK AT MOST 1048576: true; the input reads as it did. -/
def nfaNotsUptoRow : OpenClaim := { program := "ythedngefmaklnaa", sum := "0147df943225811aca5c0b4681d0de32e7329d7eb90818fae7cf28acb2a0838c", func := "augury/augurylaw12.NfaNots", spec := "nfaNots", inPlace := ["internal/bytealg.IndexByteString", "internal/bytealg.IndexString"], unfollowed := true, recurses := true, named := ["internal/bytealg.MaxLen"], loops := true, apart := false, narrowed := true }
def NfaNotsUptoSaid : Prop := nfaNotsUptoRow.holds Try.pinned (OpenSpec.upto nfaNotsSpec)

/-- 'augurylaw12.NfaOpt', WHERE WHAT IT READS IS OF BULK AT MOST 1048576: true; the input reads as it did. -/
def nfaOptUptoRow : OpenClaim := { program := "ythedngefmaklnaa", sum := "0147df943225811aca5c0b4681d0de32e7329d7eb90818fae7cf28acb2a0838c", func := "augury/augurylaw12.NfaOpt", spec := "nfaOpt", inPlace := ["internal/bytealg.IndexByteString", "internal/bytealg.IndexString"], unfollowed := true, recurses := true, named := ["internal/bytealg.MaxLen"], loops := true, apart := false, narrowed := true }
def NfaOptUptoSaid : Prop := nfaOptUptoRow.holds Try.pinned (OpenSpec.upto nfaOptSpec)

end Rows
end Go.Proofs.Ythedngefmaklnaa
