/-
  DERIVED. GIVEN WITH THE SEED: THE CARDS: each row of YtgolpihhlfgjbaaDoorRows.lean that lists a variable, with what it lists TIED to the program's text (the seventh form; the later family's looks); each row that meets fmt, with fmt's text TOLD by the authors' own Lean function (tested against real Go, not proved from fmt's source: count such statements apart). THE CARD IS WHAT COUNTS. Prove the row's statement (the work); the ties are given (YtgolpihhlfgjbaaDoorTie.lean); close each card by the builder's one call (the guide's Derived/Test/ToyasCard.lean, 'card_holds'). Laid BY PROGRAM, IN A SANDBOX (cutbox-door.mjs). By AI agents, Wed Nov 11 2026. No macro, syntax, notation, axiom, sorry.
-/
import Derived.Test.YtgolpihhlfgjbaaDoorRows
import GoSem.ClaimSeven
namespace Go.Proofs.YtgolpihhlfgjbaaDoor
namespace Rows

/-- THE TIED CARD OF 'augurylaw07.LexBack'. -/
def lexBackCard : Claim7 := { stood := { row := lexBackRow, standIns := [], harness := (true, "b45a2b2af87c2e97bfe0f5c8271c8255852b7736b9f5f666916a414d6f8b2230"), looks := false }, kinds := [], alts := [], laidByText := true, laidKinds := [.data, .pinned], laidTests := true, laidLooks := .later }
def LexBackCardSaid : Prop := Claim7.holds Tryd.pinned (.plain (OpenSpec.ofChange lexBackSpec)) lexBackCard

/-- THE TIED CARD OF 'augurylaw07.LexPlaces'. -/
def lexPlacesCard : Claim7 := { stood := { row := lexPlacesRow, standIns := [], harness := (true, "b45a2b2af87c2e97bfe0f5c8271c8255852b7736b9f5f666916a414d6f8b2230"), looks := false }, kinds := [], alts := [], laidByText := true, laidKinds := [.data, .pinned], laidTests := true, laidLooks := .later }
def LexPlacesCardSaid : Prop := Claim7.holds Tryd.pinned (.plain (OpenSpec.ofChange lexPlacesSpec)) lexPlacesCard

/-- THE TIED CARD OF 'augurylaw07.LexJoin'. -/
def lexJoinCard : Claim7 := { stood := { row := lexJoinRow, standIns := [], harness := (true, "b45a2b2af87c2e97bfe0f5c8271c8255852b7736b9f5f666916a414d6f8b2230"), looks := false }, kinds := [], alts := [], laidByText := true, laidKinds := [.data, .pinned], laidTests := true, laidLooks := .later }
def LexJoinCardSaid : Prop := Claim7.holds Tryd.pinned (.plain (OpenSpec.ofChange lexJoinSpec)) lexJoinCard

/-- THE SECOND FORM's CARD OF 'augurylaw07.LexBack'. -/
def lexBackUptoCard : Claim7 := { stood := { row := lexBackUptoRow, standIns := [], harness := (true, "b45a2b2af87c2e97bfe0f5c8271c8255852b7736b9f5f666916a414d6f8b2230"), looks := false }, kinds := [], alts := [], laidByText := true, laidKinds := [.data, .pinned], laidTests := true, laidLooks := .later }
def LexBackUptoCardSaid : Prop := Claim7.holds Tryd.pinned (.plain (OpenSpec.upto lexBackSpec)) lexBackUptoCard

/-- THE SECOND FORM's CARD OF 'augurylaw07.LexPlaces'. -/
def lexPlacesUptoCard : Claim7 := { stood := { row := lexPlacesUptoRow, standIns := [], harness := (true, "b45a2b2af87c2e97bfe0f5c8271c8255852b7736b9f5f666916a414d6f8b2230"), looks := false }, kinds := [], alts := [], laidByText := true, laidKinds := [.data, .pinned], laidTests := true, laidLooks := .later }
def LexPlacesUptoCardSaid : Prop := Claim7.holds Tryd.pinned (.plain (OpenSpec.upto lexPlacesSpec)) lexPlacesUptoCard

/-- THE SECOND FORM's CARD OF 'augurylaw07.LexJoin'. -/
def lexJoinUptoCard : Claim7 := { stood := { row := lexJoinUptoRow, standIns := [], harness := (true, "b45a2b2af87c2e97bfe0f5c8271c8255852b7736b9f5f666916a414d6f8b2230"), looks := false }, kinds := [], alts := [], laidByText := true, laidKinds := [.data, .pinned], laidTests := true, laidLooks := .later }
def LexJoinUptoCardSaid : Prop := Claim7.holds Tryd.pinned (.plain (OpenSpec.upto lexJoinSpec)) lexJoinUptoCard
end Rows
end Go.Proofs.YtgolpihhlfgjbaaDoor
