/-
  DERIVED. GIVEN WITH THE SEED: THE CARDS: each row of YtanbddaecojijaaDoorRows.lean that lists a variable, with what it lists TIED to the program's text (the seventh form; the later family's looks); each row that meets fmt, with fmt's text TOLD by the authors' own Lean function (tested against real Go, not proved from fmt's source: count such statements apart). THE CARD IS WHAT COUNTS. Prove the row's statement (the work); the ties are given (YtanbddaecojijaaDoorTie.lean); close each card by the builder's one call (the guide's Derived/Test/ToyasCard.lean, 'card_holds'). Laid BY PROGRAM, IN A SANDBOX (cutbox-door.mjs). By AI agents, Wed Nov 11 2026. No macro, syntax, notation, axiom, sorry.
-/
import Derived.Test.YtanbddaecojijaaDoorRows
import GoSem.ClaimSeven
namespace Go.Proofs.YtanbddaecojijaaDoor
namespace Rows

/-- THE TIED CARD OF 'wharfingerlaw06.BlockReads'. -/
def blockReadsCard : Claim7 := { stood := { row := blockReadsRow, standIns := [], harness := (true, "9130417f54ed9d792241603a73b5400405840b53004fcf8debe1729ac8877528"), looks := true }, kinds := [], alts := [], laidByText := true, laidKinds := [.handle], laidTests := true, laidLooks := .later }
def BlockReadsCardSaid : Prop := Claim7.holds Tryd.pinned (.plain (OpenSpec.ofChange blockReadsSpec)) blockReadsCard

/-- THE TIED CARD OF 'wharfingerlaw07.DeltaReads'. -/
def deltaReadsCard : Claim7 := { stood := { row := deltaReadsRow, standIns := [], harness := (true, "9130417f54ed9d792241603a73b5400405840b53004fcf8debe1729ac8877528"), looks := true }, kinds := [], alts := [], laidByText := true, laidKinds := [.handle], laidTests := true, laidLooks := .later }
def DeltaReadsCardSaid : Prop := Claim7.holds Tryd.pinned (.plain (OpenSpec.ofChange deltaReadsSpec)) deltaReadsCard

/-- THE TIED CARD OF 'wharfingerlaw16.WordReads'. -/
def wordReadsCard : Claim7 := { stood := { row := wordReadsRow, standIns := [], harness := (true, "9130417f54ed9d792241603a73b5400405840b53004fcf8debe1729ac8877528"), looks := true }, kinds := [], alts := [], laidByText := true, laidKinds := [.handle], laidTests := true, laidLooks := .later }
def WordReadsCardSaid : Prop := Claim7.holds Tryd.pinned (.plain (OpenSpec.ofChange wordReadsSpec)) wordReadsCard

/-- THE TIED CARD OF 'wharfingerlaw16.WordKinds'. -/
def wordKindsCard : Claim7 := { stood := { row := wordKindsRow, standIns := [], harness := (true, "9130417f54ed9d792241603a73b5400405840b53004fcf8debe1729ac8877528"), looks := true }, kinds := [], alts := [], laidByText := true, laidKinds := [.handle], laidTests := true, laidLooks := .later }
def WordKindsCardSaid : Prop := Claim7.holds Tryd.pinned (.plain (OpenSpec.ofChange wordKindsSpec)) wordKindsCard

/-- THE SECOND FORM's CARD OF 'wharfingerlaw06.BlockReads'. -/
def blockReadsUptoCard : Claim7 := { stood := { row := blockReadsUptoRow, standIns := [], harness := (true, "9130417f54ed9d792241603a73b5400405840b53004fcf8debe1729ac8877528"), looks := true }, kinds := [], alts := [], laidByText := true, laidKinds := [.handle], laidTests := true, laidLooks := .later }
def BlockReadsUptoCardSaid : Prop := Claim7.holds Tryd.pinned (.plain (OpenSpec.upto blockReadsSpec)) blockReadsUptoCard

/-- THE SECOND FORM's CARD OF 'wharfingerlaw07.DeltaReads'. -/
def deltaReadsUptoCard : Claim7 := { stood := { row := deltaReadsUptoRow, standIns := [], harness := (true, "9130417f54ed9d792241603a73b5400405840b53004fcf8debe1729ac8877528"), looks := true }, kinds := [], alts := [], laidByText := true, laidKinds := [.handle], laidTests := true, laidLooks := .later }
def DeltaReadsUptoCardSaid : Prop := Claim7.holds Tryd.pinned (.plain (OpenSpec.upto deltaReadsSpec)) deltaReadsUptoCard

/-- THE SECOND FORM's CARD OF 'wharfingerlaw16.WordReads'. -/
def wordReadsUptoCard : Claim7 := { stood := { row := wordReadsUptoRow, standIns := [], harness := (true, "9130417f54ed9d792241603a73b5400405840b53004fcf8debe1729ac8877528"), looks := true }, kinds := [], alts := [], laidByText := true, laidKinds := [.handle], laidTests := true, laidLooks := .later }
def WordReadsUptoCardSaid : Prop := Claim7.holds Tryd.pinned (.plain (OpenSpec.upto wordReadsSpec)) wordReadsUptoCard

/-- THE SECOND FORM's CARD OF 'wharfingerlaw16.WordKinds'. -/
def wordKindsUptoCard : Claim7 := { stood := { row := wordKindsUptoRow, standIns := [], harness := (true, "9130417f54ed9d792241603a73b5400405840b53004fcf8debe1729ac8877528"), looks := true }, kinds := [], alts := [], laidByText := true, laidKinds := [.handle], laidTests := true, laidLooks := .later }
def WordKindsUptoCardSaid : Prop := Claim7.holds Tryd.pinned (.plain (OpenSpec.upto wordKindsSpec)) wordKindsUptoCard
end Rows
end Go.Proofs.YtanbddaecojijaaDoor
