/-
  DERIVED. GIVEN WITH THE SEED: THE CARDS: each row of YtnfneokmiopieaaDoorRows.lean that lists a variable, with what it lists TIED to the program's text (the seventh form; the later family's looks); each row that meets fmt, with fmt's text TOLD by the authors' own Lean function (tested against real Go, not proved from fmt's source: count such statements apart). THE CARD IS WHAT COUNTS. Prove the row's statement (the work); the ties are given (YtnfneokmiopieaaDoorTie.lean); close each card by the builder's one call (the guide's Derived/Test/ToyasCard.lean, 'card_holds'). Laid BY PROGRAM, IN A SANDBOX (cutbox-door.mjs). By AI agents, Wed Nov 11 2026. No macro, syntax, notation, axiom, sorry.
-/
import Derived.Test.YtnfneokmiopieaaDoorRows
import GoSem.ClaimSeven
namespace Go.Proofs.YtnfneokmiopieaaDoor
namespace Rows

/-- THE TIED CARD OF 'wharfingerlaw08.PatchJoins'. -/
def patchJoinsCard : Claim7 := { stood := { row := patchJoinsRow, standIns := [], harness := (true, "4be59cbbb0b3bd34380528bac76afb2ea437a7584196d73c6dcfefebd3dcea5d"), looks := true }, kinds := [], alts := [], laidByText := true, laidKinds := [.handle], laidTests := true, laidLooks := .later }
def PatchJoinsCardSaid : Prop := Claim7.holds Tryd.pinned (.plain (OpenSpec.ofChange patchJoinsSpec)) patchJoinsCard

/-- THE TIED CARD OF 'wharfingerlaw08.PatchApplies'. -/
def patchAppliesCard : Claim7 := { stood := { row := patchAppliesRow, standIns := [], harness := (true, "4be59cbbb0b3bd34380528bac76afb2ea437a7584196d73c6dcfefebd3dcea5d"), looks := true }, kinds := [], alts := [], laidByText := true, laidKinds := [.handle], laidTests := true, laidLooks := .later }
def PatchAppliesCardSaid : Prop := Claim7.holds Tryd.pinned (.plain (OpenSpec.ofChange patchAppliesSpec)) patchAppliesCard

/-- THE TIED CARD OF 'wharfingerlaw08.PatchLong'. -/
def patchLongCard : Claim7 := { stood := { row := patchLongRow, standIns := [], harness := (true, "4be59cbbb0b3bd34380528bac76afb2ea437a7584196d73c6dcfefebd3dcea5d"), looks := true }, kinds := [], alts := [], laidByText := true, laidKinds := [.handle], laidTests := true, laidLooks := .later }
def PatchLongCardSaid : Prop := Claim7.holds Tryd.pinned (.plain (OpenSpec.ofChange patchLongSpec)) patchLongCard

/-- THE TIED CARD OF 'wharfingerlaw08.PatchJoined'. -/
def patchJoinedCard : Claim7 := { stood := { row := patchJoinedRow, standIns := [], harness := (true, "4be59cbbb0b3bd34380528bac76afb2ea437a7584196d73c6dcfefebd3dcea5d"), looks := true }, kinds := [], alts := [], laidByText := true, laidKinds := [.handle], laidTests := true, laidLooks := .later }
def PatchJoinedCardSaid : Prop := Claim7.holds Tryd.pinned (.plain (OpenSpec.ofChange patchJoinedSpec)) patchJoinedCard

/-- THE TIED CARD OF 'wharfingerlaw08.PatchWhole'. -/
def patchWholeCard : Claim7 := { stood := { row := patchWholeRow, standIns := [], harness := (true, "4be59cbbb0b3bd34380528bac76afb2ea437a7584196d73c6dcfefebd3dcea5d"), looks := true }, kinds := [], alts := [], laidByText := true, laidKinds := [.handle], laidTests := true, laidLooks := .later }
def PatchWholeCardSaid : Prop := Claim7.holds Tryd.pinned (.plain (OpenSpec.ofChange patchWholeSpec)) patchWholeCard

/-- THE SECOND FORM's CARD OF 'wharfingerlaw08.PatchJoins'. -/
def patchJoinsUptoCard : Claim7 := { stood := { row := patchJoinsUptoRow, standIns := [], harness := (true, "4be59cbbb0b3bd34380528bac76afb2ea437a7584196d73c6dcfefebd3dcea5d"), looks := true }, kinds := [], alts := [], laidByText := true, laidKinds := [.handle], laidTests := true, laidLooks := .later }
def PatchJoinsUptoCardSaid : Prop := Claim7.holds Tryd.pinned (.plain (OpenSpec.upto patchJoinsSpec)) patchJoinsUptoCard

/-- THE SECOND FORM's CARD OF 'wharfingerlaw08.PatchApplies'. -/
def patchAppliesUptoCard : Claim7 := { stood := { row := patchAppliesUptoRow, standIns := [], harness := (true, "4be59cbbb0b3bd34380528bac76afb2ea437a7584196d73c6dcfefebd3dcea5d"), looks := true }, kinds := [], alts := [], laidByText := true, laidKinds := [.handle], laidTests := true, laidLooks := .later }
def PatchAppliesUptoCardSaid : Prop := Claim7.holds Tryd.pinned (.plain (OpenSpec.upto patchAppliesSpec)) patchAppliesUptoCard

/-- THE SECOND FORM's CARD OF 'wharfingerlaw08.PatchLong'. -/
def patchLongUptoCard : Claim7 := { stood := { row := patchLongUptoRow, standIns := [], harness := (true, "4be59cbbb0b3bd34380528bac76afb2ea437a7584196d73c6dcfefebd3dcea5d"), looks := true }, kinds := [], alts := [], laidByText := true, laidKinds := [.handle], laidTests := true, laidLooks := .later }
def PatchLongUptoCardSaid : Prop := Claim7.holds Tryd.pinned (.plain (OpenSpec.upto patchLongSpec)) patchLongUptoCard

/-- THE SECOND FORM's CARD OF 'wharfingerlaw08.PatchJoined'. -/
def patchJoinedUptoCard : Claim7 := { stood := { row := patchJoinedUptoRow, standIns := [], harness := (true, "4be59cbbb0b3bd34380528bac76afb2ea437a7584196d73c6dcfefebd3dcea5d"), looks := true }, kinds := [], alts := [], laidByText := true, laidKinds := [.handle], laidTests := true, laidLooks := .later }
def PatchJoinedUptoCardSaid : Prop := Claim7.holds Tryd.pinned (.plain (OpenSpec.upto patchJoinedSpec)) patchJoinedUptoCard

/-- THE SECOND FORM's CARD OF 'wharfingerlaw08.PatchWhole'. -/
def patchWholeUptoCard : Claim7 := { stood := { row := patchWholeUptoRow, standIns := [], harness := (true, "4be59cbbb0b3bd34380528bac76afb2ea437a7584196d73c6dcfefebd3dcea5d"), looks := true }, kinds := [], alts := [], laidByText := true, laidKinds := [.handle], laidTests := true, laidLooks := .later }
def PatchWholeUptoCardSaid : Prop := Claim7.holds Tryd.pinned (.plain (OpenSpec.upto patchWholeSpec)) patchWholeUptoCard
end Rows
end Go.Proofs.YtnfneokmiopieaaDoor
