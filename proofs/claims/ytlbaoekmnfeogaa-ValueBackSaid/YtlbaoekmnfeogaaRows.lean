/-
  No cell of these rows narrows 'for every input' (looked for: loops, veiled, ifaces, maps, wideKeys, modest, calm, conditions, laid).
  DERIVED. THE GIVEN ROWS OF THIS SEAT. 6 by the template 'for every input the law returns true; each argument reads behind the call as it read before'; 0 by the template 'total and deterministic' (their statements: YtlbaoekmnfeogaaTotals.lean).
  GIVEN WITH THE SEED: the statements are not yours to turn. If you find one false, say at which input.
  Laid BY PROGRAM, IN A SANDBOX (cutbox-rows.mjs): the forced cells as the released guide's own fill.sh prints them over the translation 2c12a127f4109dcf… (all of the seat's roots in one cut). By AI agents, Wed Nov 11 2026. No macro, syntax, notation, axiom, sorry.
-/
import Derived.Test.YtlbaoekmnfeogaaChecked
import GoSem.Claim
import GoSem.ClaimJoined
import GoSem.ClaimMapViews
import Derived.JoinedTies
import Derived.KernelRfl
namespace Go.Proofs.Ytlbaoekmnfeogaa
/- THE CELL 'sum', in the pinned program and in every row, IS THE sha256 OF THE DUMP (.gsa) THAT YtlbaoekmnfeogaaProg.lean LOADS. Nothing in Lean hashes anything: it is a label: what it is worth is what the hold of that sum in a sandbox is worth. -/
noncomputable def Try.pinned : Pinned := { name := "ytlbaoekmnfeogaa", sum := "2c12a127f4109dcf780957cbf67c447c330e5081b62895f9353a68d46c5b509a", checked := Try.checked }
namespace Rows
def none {H : Type} : Left H := { results := [], args := [] }

/-- 'augurylaw04.ValueTells': WHATEVER THE INPUT: true; the input reads as it did. -/
def valueTellsSpec : ChangeSpec := { name := "valueTells", fn := fun _ => fun
  | [d1, d2, d3] => { results := [.lit (.bool true)], args := [d1, d2, d3] }
  | _ => none }
def valueTellsRow : OpenClaim := { program := "ytlbaoekmnfeogaa", sum := "2c12a127f4109dcf780957cbf67c447c330e5081b62895f9353a68d46c5b509a", func := "augury/augurylaw04.ValueTells", spec := "valueTells", inPlace := ["internal/bytealg.abigen_runtime_cmpstring"], apart := false }
def ValueTellsSaid : Prop := valueTellsRow.holds Try.pinned (OpenSpec.ofChange valueTellsSpec)

/-- ITS FALSE NEIGHBOUR: 'it returns false'. Refute it at one input. -/
def valueTellsWrong : ChangeSpec := { name := "valueTells", fn := fun _ => fun
  | [d1, d2, d3] => { results := [.lit (.bool false)], args := [d1, d2, d3] }
  | _ => none }
def ValueTellsWrongFalsely : Prop := valueTellsRow.holds Try.pinned (OpenSpec.ofChange valueTellsWrong)

/-- 'augurylaw04.ValueReads': WHATEVER THE INPUT: true; the input reads as it did. -/
def valueReadsSpec : ChangeSpec := { name := "valueReads", fn := fun _ => fun
  | [d] => { results := [.lit (.bool true)], args := [d] }
  | _ => none }
def valueReadsRow : OpenClaim := { program := "ytlbaoekmnfeogaa", sum := "2c12a127f4109dcf780957cbf67c447c330e5081b62895f9353a68d46c5b509a", func := "augury/augurylaw04.ValueReads", spec := "valueReads", inPlace := ["internal/bytealg.abigen_runtime_cmpstring"], apart := false }
def ValueReadsSaid : Prop := valueReadsRow.holds Try.pinned (OpenSpec.ofChange valueReadsSpec)

/-- ITS FALSE NEIGHBOUR: 'it returns false'. Refute it at one input. -/
def valueReadsWrong : ChangeSpec := { name := "valueReads", fn := fun _ => fun
  | [d] => { results := [.lit (.bool false)], args := [d] }
  | _ => none }
def ValueReadsWrongFalsely : Prop := valueReadsRow.holds Try.pinned (OpenSpec.ofChange valueReadsWrong)

/-- 'augurylaw04.ValueBack': WHATEVER THE INPUT: true; the input reads as it did. -/
def valueBackSpec : ChangeSpec := { name := "valueBack", fn := fun _ => fun
  | [d1, d2] => { results := [.lit (.bool true)], args := [d1, d2] }
  | _ => none }
def valueBackRow : OpenClaim := { program := "ytlbaoekmnfeogaa", sum := "2c12a127f4109dcf780957cbf67c447c330e5081b62895f9353a68d46c5b509a", func := "augury/augurylaw04.ValueBack", spec := "valueBack", inPlace := ["internal/bytealg.abigen_runtime_cmpstring"], apart := false }
def ValueBackSaid : Prop := valueBackRow.holds Try.pinned (OpenSpec.ofChange valueBackSpec)

/-- ITS FALSE NEIGHBOUR: 'it returns false'. Refute it at one input. -/
def valueBackWrong : ChangeSpec := { name := "valueBack", fn := fun _ => fun
  | [d1, d2] => { results := [.lit (.bool false)], args := [d1, d2] }
  | _ => none }
def ValueBackWrongFalsely : Prop := valueBackRow.holds Try.pinned (OpenSpec.ofChange valueBackWrong)

/-- 'augurylaw04.ValueOrder': WHATEVER THE INPUT: true; the input reads as it did. -/
def valueOrderSpec : ChangeSpec := { name := "valueOrder", fn := fun _ => fun
  | [d1, d2] => { results := [.lit (.bool true)], args := [d1, d2] }
  | _ => none }
def valueOrderRow : OpenClaim := { program := "ytlbaoekmnfeogaa", sum := "2c12a127f4109dcf780957cbf67c447c330e5081b62895f9353a68d46c5b509a", func := "augury/augurylaw04.ValueOrder", spec := "valueOrder", inPlace := ["internal/bytealg.abigen_runtime_cmpstring"], apart := false }
def ValueOrderSaid : Prop := valueOrderRow.holds Try.pinned (OpenSpec.ofChange valueOrderSpec)

/-- ITS FALSE NEIGHBOUR: 'it returns false'. Refute it at one input. -/
def valueOrderWrong : ChangeSpec := { name := "valueOrder", fn := fun _ => fun
  | [d1, d2] => { results := [.lit (.bool false)], args := [d1, d2] }
  | _ => none }
def ValueOrderWrongFalsely : Prop := valueOrderRow.holds Try.pinned (OpenSpec.ofChange valueOrderWrong)

/-- 'augurylaw04.ValueSums': WHATEVER THE INPUT: true; the input reads as it did. -/
def valueSumsSpec : ChangeSpec := { name := "valueSums", fn := fun _ => fun
  | [d1, d2] => { results := [.lit (.bool true)], args := [d1, d2] }
  | _ => none }
def valueSumsRow : OpenClaim := { program := "ytlbaoekmnfeogaa", sum := "2c12a127f4109dcf780957cbf67c447c330e5081b62895f9353a68d46c5b509a", func := "augury/augurylaw04.ValueSums", spec := "valueSums", inPlace := ["internal/bytealg.abigen_runtime_cmpstring"], apart := false }
def ValueSumsSaid : Prop := valueSumsRow.holds Try.pinned (OpenSpec.ofChange valueSumsSpec)

/-- ITS FALSE NEIGHBOUR: 'it returns false'. Refute it at one input. -/
def valueSumsWrong : ChangeSpec := { name := "valueSums", fn := fun _ => fun
  | [d1, d2] => { results := [.lit (.bool false)], args := [d1, d2] }
  | _ => none }
def ValueSumsWrongFalsely : Prop := valueSumsRow.holds Try.pinned (OpenSpec.ofChange valueSumsWrong)

/-- 'augurylaw04.ValueTexts': WHATEVER THE INPUT: true; the input reads as it did. -/
def valueTextsSpec : ChangeSpec := { name := "valueTexts", fn := fun _ => fun
  | [d1, d2] => { results := [.lit (.bool true)], args := [d1, d2] }
  | _ => none }
def valueTextsRow : OpenClaim := { program := "ytlbaoekmnfeogaa", sum := "2c12a127f4109dcf780957cbf67c447c330e5081b62895f9353a68d46c5b509a", func := "augury/augurylaw04.ValueTexts", spec := "valueTexts", inPlace := ["internal/bytealg.abigen_runtime_cmpstring"], apart := false }
def ValueTextsSaid : Prop := valueTextsRow.holds Try.pinned (OpenSpec.ofChange valueTextsSpec)

/-- ITS FALSE NEIGHBOUR: 'it returns false'. Refute it at one input. -/
def valueTextsWrong : ChangeSpec := { name := "valueTexts", fn := fun _ => fun
  | [d1, d2] => { results := [.lit (.bool false)], args := [d1, d2] }
  | _ => none }
def ValueTextsWrongFalsely : Prop := valueTextsRow.holds Try.pinned (OpenSpec.ofChange valueTextsWrong)

/- THE SECOND FORM. 'bulk': how many values and letters a reading holds, each counted each time it is reached (what is shared counts as often as it is met; a slice's spare places count too). A statement '..UptoSaid' is the law's where the arguments, and the package variables that the reading takes, are together of bulk at most 1048576: NARROWER than '..Said'. Prove '..Said' where nothing that the law and all that it calls make is longer than what came in: it says more and counts as full. Else prove '..UptoSaid'. A law counts once. -/
mutual
def uptoBulk {H : Type} : DataW H → Nat
  | .lit (.string bytes) => bytes.length + 1
  | .lit _ => 1
  | .nil => 1
  | .ptr d => uptoBulk d + 1
  | .slice elems spare => uptoBulkAll elems + uptoBulkAll spare + 1
  | .agg parts => uptoBulkAll parts + 1
  | .iface _ d => uptoBulk d + 1
  | .map entries => uptoBulkEntries entries + 1
  | .held _ => 1
def uptoBulkAll {H : Type} : List (DataW H) → Nat
  | [] => 0
  | d :: r => uptoBulk d + uptoBulkAll r
def uptoBulkEntries {H : Type} : List (Lit × DataW H) → Nat
  | [] => 0
  | x :: r => uptoBulkEntry x + uptoBulkEntries r
def uptoBulkEntry {H : Type} : Lit × DataW H → Nat
  | (.string bytes, d) => bytes.length + uptoBulk d + 1
  | (_, d) => uptoBulk d + 1
 end
def uptoSmall : (H : Type) → List (DataW H) → Bool := fun _ ds => decide (uptoBulkAll ds ≤ 1048576)
def OpenSpec.upto (s : _root_.Go.ChangeSpec) : _root_.Go.OpenSpec := { _root_.Go.OpenSpec.ofChange s with cond := some uptoSmall }

/-- 'augurylaw04.ValueTells', WHERE WHAT IT READS IS OF BULK AT MOST 1048576: true; the input reads as it did. -/
def valueTellsUptoRow : OpenClaim := { program := "ytlbaoekmnfeogaa", sum := "2c12a127f4109dcf780957cbf67c447c330e5081b62895f9353a68d46c5b509a", func := "augury/augurylaw04.ValueTells", spec := "valueTells", inPlace := ["internal/bytealg.abigen_runtime_cmpstring"], apart := false, narrowed := true }
def ValueTellsUptoSaid : Prop := valueTellsUptoRow.holds Try.pinned (OpenSpec.upto valueTellsSpec)

/-- 'augurylaw04.ValueReads', WHERE WHAT IT READS IS OF BULK AT MOST 1048576: true; the input reads as it did. -/
def valueReadsUptoRow : OpenClaim := { program := "ytlbaoekmnfeogaa", sum := "2c12a127f4109dcf780957cbf67c447c330e5081b62895f9353a68d46c5b509a", func := "augury/augurylaw04.ValueReads", spec := "valueReads", inPlace := ["internal/bytealg.abigen_runtime_cmpstring"], apart := false, narrowed := true }
def ValueReadsUptoSaid : Prop := valueReadsUptoRow.holds Try.pinned (OpenSpec.upto valueReadsSpec)

/-- 'augurylaw04.ValueBack', WHERE WHAT IT READS IS OF BULK AT MOST 1048576: true; the input reads as it did. -/
def valueBackUptoRow : OpenClaim := { program := "ytlbaoekmnfeogaa", sum := "2c12a127f4109dcf780957cbf67c447c330e5081b62895f9353a68d46c5b509a", func := "augury/augurylaw04.ValueBack", spec := "valueBack", inPlace := ["internal/bytealg.abigen_runtime_cmpstring"], apart := false, narrowed := true }
def ValueBackUptoSaid : Prop := valueBackUptoRow.holds Try.pinned (OpenSpec.upto valueBackSpec)

/-- 'augurylaw04.ValueOrder', WHERE WHAT IT READS IS OF BULK AT MOST 1048576: true; the input reads as it did. -/
def valueOrderUptoRow : OpenClaim := { program := "ytlbaoekmnfeogaa", sum := "2c12a127f4109dcf780957cbf67c447c330e5081b62895f9353a68d46c5b509a", func := "augury/augurylaw04.ValueOrder", spec := "valueOrder", inPlace := ["internal/bytealg.abigen_runtime_cmpstring"], apart := false, narrowed := true }
def ValueOrderUptoSaid : Prop := valueOrderUptoRow.holds Try.pinned (OpenSpec.upto valueOrderSpec)

/-- 'augurylaw04.ValueSums', WHERE WHAT IT READS IS OF BULK AT MOST 1048576: true; the input reads as it did. -/
def valueSumsUptoRow : OpenClaim := { program := "ytlbaoekmnfeogaa", sum := "2c12a127f4109dcf780957cbf67c447c330e5081b62895f9353a68d46c5b509a", func := "augury/augurylaw04.ValueSums", spec := "valueSums", inPlace := ["internal/bytealg.abigen_runtime_cmpstring"], apart := false, narrowed := true }
def ValueSumsUptoSaid : Prop := valueSumsUptoRow.holds Try.pinned (OpenSpec.upto valueSumsSpec)

/-- 'augurylaw04.ValueTexts', WHERE WHAT IT READS IS OF BULK AT MOST 1048576: true; the input reads as it did. -/
def valueTextsUptoRow : OpenClaim := { program := "ytlbaoekmnfeogaa", sum := "2c12a127f4109dcf780957cbf67c447c330e5081b62895f9353a68d46c5b509a", func := "augury/augurylaw04.ValueTexts", spec := "valueTexts", inPlace := ["internal/bytealg.abigen_runtime_cmpstring"], apart := false, narrowed := true }
def ValueTextsUptoSaid : Prop := valueTextsUptoRow.holds Try.pinned (OpenSpec.upto valueTextsSpec)

end Rows
end Go.Proofs.Ytlbaoekmnfeogaa
