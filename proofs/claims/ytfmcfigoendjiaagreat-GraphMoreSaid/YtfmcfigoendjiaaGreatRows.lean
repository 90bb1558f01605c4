/-
  NARROWER THAN 'FOR EVERY INPUT', by the rows' own cells (each row's printed sentence says how): GraphTells: loops · GraphOrder: loops · GraphReaders: loops · GraphMore: loops · GraphRing: loops.
  DERIVED. THE GIVEN ROWS OF THIS SEAT. 5 by the template 'for every input the law returns true; each argument reads behind the call as it read before'; 0 by the template 'total and deterministic' (their statements: YtfmcfigoendjiaaGreatTotals.lean).
  GIVEN WITH THE SEED: the statements are not yours to turn. If you find one false, say at which input.
  Laid BY PROGRAM, IN A SANDBOX (cutbox-rows.mjs): the forced cells as the released guide's own fill.sh prints them over the translation e263fd26bd5bcd52… (all of the seat's roots in one cut). By AI agents, Wed Nov 11 2026. No macro, syntax, notation, axiom, sorry.
-/
import Derived.Test.YtfmcfigoendjiaaGreatChecked
import GoSem.Claim
import GoSem.ClaimJoined
import GoSem.ClaimMapViews
import Derived.JoinedTies
import Derived.KernelRfl
namespace Go.Proofs.YtfmcfigoendjiaaGreat
/- THE CELL 'sum', in the pinned program and in every row, IS THE sha256 OF THE DUMP (.gsa) THAT YtfmcfigoendjiaaGreatProg.lean LOADS. Nothing in Lean hashes anything: it is a label: what it is worth is what the hold of that sum in a sandbox is worth. -/
noncomputable def Tryz.pinned : Pinned := { name := "ytfmcfigoendjiaagreat", sum := "e263fd26bd5bcd523fa750199929dba3d05ee1c6f5ae077dfc27c35b4fbfca0e", checked := Tryz.checked }
namespace Rows
def none {H : Type} : Left H := { results := [], args := [] }

/-- 'augurylaw16.GraphTells': WHATEVER THE INPUT: true; the input reads as it did. -/
def graphTellsSpec : ChangeSpec := { name := "graphTells", fn := fun _ => fun
  | [d1, d2] => { results := [.lit (.bool true)], args := [d1, d2] }
  | _ => none }
def graphTellsRow : OpenClaim := { program := "ytfmcfigoendjiaagreat", sum := "e263fd26bd5bcd523fa750199929dba3d05ee1c6f5ae077dfc27c35b4fbfca0e", func := "augury/augurylaw16.GraphTells", spec := "graphTells", inPlace := ["internal/bytealg.IndexByteString", "internal/bytealg.IndexString"], unfollowed := true, recurses := true, named := ["internal/bytealg.MaxLen"], loops := true, apart := false }
def GraphTellsSaid : Prop := graphTellsRow.holds Tryz.pinned (OpenSpec.ofChange graphTellsSpec)

/-- ITS FALSE NEIGHBOUR: 'it returns false'. Refute it at one input. -/
def graphTellsWrong : ChangeSpec := { name := "graphTells", fn := fun _ => fun
  | [d1, d2] => { results := [.lit (.bool false)], args := [d1, d2] }
  | _ => none }
def GraphTellsWrongFalsely : Prop := graphTellsRow.holds Tryz.pinned (OpenSpec.ofChange graphTellsWrong)

/-- 'augurylaw16.GraphOrder': WHATEVER THE INPUT: true; the input reads as it did. -/
def graphOrderSpec : ChangeSpec := { name := "graphOrder", fn := fun _ => fun
  | [d] => { results := [.lit (.bool true)], args := [d] }
  | _ => none }
def graphOrderRow : OpenClaim := { program := "ytfmcfigoendjiaagreat", sum := "e263fd26bd5bcd523fa750199929dba3d05ee1c6f5ae077dfc27c35b4fbfca0e", func := "augury/augurylaw16.GraphOrder", spec := "graphOrder", inPlace := ["internal/bytealg.IndexByteString", "internal/bytealg.IndexString"], unfollowed := true, recurses := true, named := ["internal/bytealg.MaxLen"], loops := true, apart := false }
def GraphOrderSaid : Prop := graphOrderRow.holds Tryz.pinned (OpenSpec.ofChange graphOrderSpec)

/-- ITS FALSE NEIGHBOUR: 'it returns false'. Refute it at one input. -/
def graphOrderWrong : ChangeSpec := { name := "graphOrder", fn := fun _ => fun
  | [d] => { results := [.lit (.bool false)], args := [d] }
  | _ => none }
def GraphOrderWrongFalsely : Prop := graphOrderRow.holds Tryz.pinned (OpenSpec.ofChange graphOrderWrong)

/-- 'augurylaw16.GraphReaders': WHATEVER THE INPUT: true; the input reads as it did. -/
def graphReadersSpec : ChangeSpec := { name := "graphReaders", fn := fun _ => fun
  | [d] => { results := [.lit (.bool true)], args := [d] }
  | _ => none }
def graphReadersRow : OpenClaim := { program := "ytfmcfigoendjiaagreat", sum := "e263fd26bd5bcd523fa750199929dba3d05ee1c6f5ae077dfc27c35b4fbfca0e", func := "augury/augurylaw16.GraphReaders", spec := "graphReaders", inPlace := ["internal/bytealg.IndexByteString", "internal/bytealg.IndexString"], unfollowed := true, recurses := true, named := ["internal/bytealg.MaxLen"], loops := true, apart := false }
def GraphReadersSaid : Prop := graphReadersRow.holds Tryz.pinned (OpenSpec.ofChange graphReadersSpec)

/-- ITS FALSE NEIGHBOUR: 'it returns false'. Refute it at one input. -/
def graphReadersWrong : ChangeSpec := { name := "graphReaders", fn := fun _ => fun
  | [d] => { results := [.lit (.bool false)], args := [d] }
  | _ => none }
def GraphReadersWrongFalsely : Prop := graphReadersRow.holds Tryz.pinned (OpenSpec.ofChange graphReadersWrong)

/-- 'augurylaw16.GraphMore': WHATEVER THE INPUT: true; the input reads as it did. -/
def graphMoreSpec : ChangeSpec := { name := "graphMore", fn := fun _ => fun
  | [d1, d2] => { results := [.lit (.bool true)], args := [d1, d2] }
  | _ => none }
def graphMoreRow : OpenClaim := { program := "ytfmcfigoendjiaagreat", sum := "e263fd26bd5bcd523fa750199929dba3d05ee1c6f5ae077dfc27c35b4fbfca0e", func := "augury/augurylaw16.GraphMore", spec := "graphMore", inPlace := ["internal/bytealg.IndexByteString", "internal/bytealg.IndexString"], unfollowed := true, recurses := true, named := ["internal/bytealg.MaxLen"], loops := true, apart := false }
def GraphMoreSaid : Prop := graphMoreRow.holds Tryz.pinned (OpenSpec.ofChange graphMoreSpec)

/-- ITS FALSE NEIGHBOUR: 'it returns false'. Refute it at one input. -/
def graphMoreWrong : ChangeSpec := { name := "graphMore", fn := fun _ => fun
  | [d1, d2] => { results := [.lit (.bool false)], args := [d1, d2] }
  | _ => none }
def GraphMoreWrongFalsely : Prop := graphMoreRow.holds Tryz.pinned (OpenSpec.ofChange graphMoreWrong)

/-- 'augurylaw16.GraphRing': WHATEVER THE INPUT: true; the input reads as it did. -/
def graphRingSpec : ChangeSpec := { name := "graphRing", fn := fun _ => fun
  | [d] => { results := [.lit (.bool true)], args := [d] }
  | _ => none }
def graphRingRow : OpenClaim := { program := "ytfmcfigoendjiaagreat", sum := "e263fd26bd5bcd523fa750199929dba3d05ee1c6f5ae077dfc27c35b4fbfca0e", func := "augury/augurylaw16.GraphRing", spec := "graphRing", inPlace := ["internal/bytealg.IndexByteString", "internal/bytealg.IndexString"], unfollowed := true, recurses := true, named := ["internal/bytealg.MaxLen"], loops := true, apart := false }
def GraphRingSaid : Prop := graphRingRow.holds Tryz.pinned (OpenSpec.ofChange graphRingSpec)

/-- ITS FALSE NEIGHBOUR: 'it returns false'. Refute it at one input. -/
def graphRingWrong : ChangeSpec := { name := "graphRing", fn := fun _ => fun
  | [d] => { results := [.lit (.bool false)], args := [d] }
  | _ => none }
def GraphRingWrongFalsely : Prop := graphRingRow.holds Tryz.pinned (OpenSpec.ofChange graphRingWrong)

/- THE SECOND FORM. 'bulk': how many values and letters a reading holds, each counted each time it is reached (what is shared counts as often as it is met; a slice's spare places count too). A statement '..UptoSaid' is the law's where the arguments, and the package variables that the reading takes, are together of bulk at most 1048576: NARROWER than '..Said'. Prove '..Said' where nothing that the law and all that it calls make is longer than what came in: it says more and counts as full. Else prove '..UptoSaid'. A law counts once. -/
mutual
def uptoBulk {H : Type} : DataW H → Nat
  | .lit (.string bytes) => bytes.length + 1
  | .lit _ => 1
  | .nil => 1
  | .ptr d => uptoBulk d + 1
  | .slice elems spare => uptoBulkAll elems + uptoBulkAll spare + 1
  | .agg parts => uptoBulkAll parts + 1
  | .iface _ d => uptoBulk d + 1
  | .map entries => uptoBulkEntries entries + 1
  | .held _ => 1
def uptoBulkAll {H : Type} : List (DataW H) → Nat
  | [] => 0
  | d :: r => uptoBulk d + uptoBulkAll r
def uptoBulkEntries {H : Type} : List (Lit × DataW H) → Nat
  | [] => 0
  | x :: r => uptoBulkEntry x + uptoBulkEntries r
def uptoBulkEntry {H : Type} : Lit × DataW H → Nat
  | (.string bytes, d) => bytes.length + uptoBulk d + 1
  | (_, d) => uptoBulk d + 1
 end
def uptoSmall : (H : Type) → List (DataW H) → Bool := fun _ ds => decide (uptoBulkAll ds ≤ 1048576)
def OpenSpec.upto (s : _root_.Go.ChangeSpec) : _root_.Go.OpenSpec := { _root_.Go.OpenSpec.ofChange s with cond := some uptoSmall }

/-- 'augurylaw16.GraphTells', WHERE WHAT IT READS IS OF BULK AT MOST 1048576: true; the input reads as it did. -/
def graphTellsUptoRow : OpenClaim := { program := "ytfmcfigoendjiaagreat", sum := "e263fd26bd5bcd523fa750199929dba3d05ee1c6f5ae077dfc27c35b4fbfca0e", func := "augury/augurylaw16.GraphTells", spec := "graphTells", inPlace := ["internal/bytealg.IndexByteString", "internal/bytealg.IndexString"], unfollowed := true, recurses := true, named := ["internal/bytealg.MaxLen"], loops := true, apart := false, narrowed := true }
def GraphTellsUptoSaid : Prop := graphTellsUptoRow.holds Tryz.pinned (OpenSpec.upto graphTellsSpec)

/-- 'augurylaw16.GraphOrder', WHERE WHAT IT READS IS OF BULK AT MOST 1048576: true; the input reads as it did. -/
def graphOrderUptoRow : OpenClaim := { program := "ytfmcfigoendjiaagreat", sum := "e263fd26bd5bcd523fa750199929dba3d05ee1c6f5ae077dfc27c35b4fbfca0e", func := "augury/augurylaw16.GraphOrder", spec := "graphOrder", inPlace := ["internal/bytealg.IndexByteString", "internal/bytealg.IndexString"], unfollowed := true, recurses := true, named := ["internal/bytealg.MaxLen"], loops := true, apart := false, narrowed := true }
def GraphOrderUptoSaid : Prop := graphOrderUptoRow.holds Tryz.pinned (OpenSpec.upto graphOrderSpec)

/-- 'augurylaw16.GraphReaders', WHERE WHAT IT READS IS OF BULK AT MOST 1048576: true; the input reads as it did. -/
def graphReadersUptoRow : OpenClaim := { program := "ytfmcfigoendjiaagreat", sum := "e263fd26bd5bcd523fa750199929dba3d05ee1c6f5ae077dfc27c35b4fbfca0e", func := "augury/augurylaw16.GraphReaders", spec := "graphReaders", inPlace := ["internal/bytealg.IndexByteString", "internal/bytealg.IndexString"], unfollowed := true, recurses := true, named := ["internal/bytealg.MaxLen"], loops := true, apart := false, narrowed := true }
def GraphReadersUptoSaid : Prop := graphReadersUptoRow.holds Tryz.pinned (OpenSpec.upto graphReadersSpec)

/-- 'augurylaw16.GraphMore', WHERE WHAT IT READS IS OF BULK AT MOST 1048576: true; the input reads as it did. -/
def graphMoreUptoRow : OpenClaim := { program := "ytfmcfigoendjiaagreat", sum := "e263fd26bd5bcd523fa750199929dba3d05ee1c6f5ae077dfc27c35b4fbfca0e", func := "augury/augurylaw16.GraphMore", spec := "graphMore", inPlace := ["internal/bytealg.IndexByteString", "internal/bytealg.IndexString"], unfollowed := true, recurses := true, named := ["internal/bytealg.MaxLen"], loops := true, apart := false, narrowed := true }
def GraphMoreUptoSaid : Prop := graphMoreUptoRow.holds Tryz.pinned (OpenSpec.upto graphMoreSpec)

/-- 'augurylaw16.GraphRing', WHERE WHAT IT READS IS OF BULK AT MOST 1048576: true; the input reads as it did. -/
def graphRingUptoRow : OpenClaim := { program := "ytfmcfigoendjiaagreat", sum := "e263fd26bd5bcd523fa750199929dba3d05ee1c6f5ae077dfc27c35b4fbfca0e", func := "augury/augurylaw16.GraphRing", spec := "graphRing", inPlace := ["internal/bytealg.IndexByteString", "internal/bytealg.IndexString"], unfollowed := true, recurses := true, named := ["internal/bytealg.MaxLen"], loops := true, apart := false, narrowed := true }
def GraphRingUptoSaid : Prop := graphRingUptoRow.holds Tryz.pinned (OpenSpec.upto graphRingSpec)

end Rows
end Go.Proofs.YtfmcfigoendjiaaGreat
