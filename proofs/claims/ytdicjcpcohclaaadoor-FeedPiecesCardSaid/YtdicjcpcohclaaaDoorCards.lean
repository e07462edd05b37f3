/-
  DERIVED. GIVEN WITH THE SEED: THE CARDS: each row of YtdicjcpcohclaaaDoorRows.lean that lists a variable, with what it lists TIED to the program's text (the seventh form; the later family's looks); each row that meets fmt, with fmt's text TOLD by the authors' own Lean function (tested against real Go, not proved from fmt's source: count such statements apart). THE CARD IS WHAT COUNTS. Prove the row's statement (the work); the ties are given (YtdicjcpcohclaaaDoorTie.lean); close each card by the builder's one call (the guide's Derived/Test/ToyasCard.lean, 'card_holds'). Laid BY PROGRAM, IN A SANDBOX (cutbox-door.mjs). By AI agents, Wed Nov 11 2026. No macro, syntax, notation, axiom, sorry.
-/
import Derived.Test.YtdicjcpcohclaaaDoorRows
import GoSem.ClaimSeven
namespace Go.Proofs.YtdicjcpcohclaaaDoor
namespace Rows

/-- THE TIED CARD OF 'wharfingerlaw03.CodeLong'. -/
def codeLongCard : Claim7 := { stood := { row := codeLongRow, standIns := [], harness := (true, "203e7350eb1947ffc339b60ec4b509377cb6254a76ad01d1ff692add66962c5c"), looks := true }, kinds := [], alts := [], laidByText := true, laidKinds := [.handle], laidTests := true, laidLooks := .later }
def CodeLongCardSaid : Prop := Claim7.holds Tryd.pinned (.plain (OpenSpec.ofChange codeLongSpec)) codeLongCard

/-- THE TIED CARD OF 'wharfingerlaw03.CodeBack'. -/
def codeBackCard : Claim7 := { stood := { row := codeBackRow, standIns := [], harness := (true, "203e7350eb1947ffc339b60ec4b509377cb6254a76ad01d1ff692add66962c5c"), looks := true }, kinds := [], alts := [], laidByText := true, laidKinds := [.handle], laidTests := true, laidLooks := .later }
def CodeBackCardSaid : Prop := Claim7.holds Tryd.pinned (.plain (OpenSpec.ofChange codeBackSpec)) codeBackCard

/-- THE TIED CARD OF 'wharfingerlaw03.CodeStands'. -/
def codeStandsCard : Claim7 := { stood := { row := codeStandsRow, standIns := [], harness := (true, "203e7350eb1947ffc339b60ec4b509377cb6254a76ad01d1ff692add66962c5c"), looks := true }, kinds := [], alts := [], laidByText := true, laidKinds := [.handle], laidTests := true, laidLooks := .later }
def CodeStandsCardSaid : Prop := Claim7.holds Tryd.pinned (.plain (OpenSpec.ofChange codeStandsSpec)) codeStandsCard

/-- THE TIED CARD OF 'wharfingerlaw03.CodeReads'. -/
def codeReadsCard : Claim7 := { stood := { row := codeReadsRow, standIns := [], harness := (true, "203e7350eb1947ffc339b60ec4b509377cb6254a76ad01d1ff692add66962c5c"), looks := true }, kinds := [], alts := [], laidByText := true, laidKinds := [.handle], laidTests := true, laidLooks := .later }
def CodeReadsCardSaid : Prop := Claim7.holds Tryd.pinned (.plain (OpenSpec.ofChange codeReadsSpec)) codeReadsCard

/-- THE TIED CARD OF 'wharfingerlaw03.CodeErrors'. -/
def codeErrorsCard : Claim7 := { stood := { row := codeErrorsRow, standIns := [], harness := (true, "203e7350eb1947ffc339b60ec4b509377cb6254a76ad01d1ff692add66962c5c"), looks := true }, kinds := [], alts := [], laidByText := true, laidKinds := [.handle], laidTests := true, laidLooks := .later }
def CodeErrorsCardSaid : Prop := Claim7.holds Tryd.pinned (.plain (OpenSpec.ofChange codeErrorsSpec)) codeErrorsCard

/-- THE TIED CARD OF 'wharfingerlaw04.FrameReads'. -/
def frameReadsCard : Claim7 := { stood := { row := frameReadsRow, standIns := [], harness := (true, "203e7350eb1947ffc339b60ec4b509377cb6254a76ad01d1ff692add66962c5c"), looks := true }, kinds := [], alts := [], laidByText := true, laidKinds := [.handle], laidTests := true, laidLooks := .later }
def FrameReadsCardSaid : Prop := Claim7.holds Tryd.pinned (.plain (OpenSpec.ofChange frameReadsSpec)) frameReadsCard

/-- THE TIED CARD OF 'wharfingerlaw04.FrameHeads'. -/
def frameHeadsCard : Claim7 := { stood := { row := frameHeadsRow, standIns := [], harness := (true, "203e7350eb1947ffc339b60ec4b509377cb6254a76ad01d1ff692add66962c5c"), looks := true }, kinds := [], alts := [], laidByText := true, laidKinds := [.handle], laidTests := true, laidLooks := .later }
def FrameHeadsCardSaid : Prop := Claim7.holds Tryd.pinned (.plain (OpenSpec.ofChange frameHeadsSpec)) frameHeadsCard

/-- THE TIED CARD OF 'wharfingerlaw04.FrameCut'. -/
def frameCutCard : Claim7 := { stood := { row := frameCutRow, standIns := [], harness := (true, "203e7350eb1947ffc339b60ec4b509377cb6254a76ad01d1ff692add66962c5c"), looks := true }, kinds := [], alts := [], laidByText := true, laidKinds := [.handle], laidTests := true, laidLooks := .later }
def FrameCutCardSaid : Prop := Claim7.holds Tryd.pinned (.plain (OpenSpec.ofChange frameCutSpec)) frameCutCard

/-- THE TIED CARD OF 'wharfingerlaw05.FeedPieces'. -/
def feedPiecesCard : Claim7 := { stood := { row := feedPiecesRow, standIns := [], harness := (true, "203e7350eb1947ffc339b60ec4b509377cb6254a76ad01d1ff692add66962c5c"), looks := true }, kinds := [], alts := [], laidByText := true, laidKinds := [.handle], laidTests := true, laidLooks := .later }
def FeedPiecesCardSaid : Prop := Claim7.holds Tryd.pinned (.plain (OpenSpec.ofChange feedPiecesSpec)) feedPiecesCard

/-- THE TIED CARD OF 'wharfingerlaw05.FeedSame'. -/
def feedSameCard : Claim7 := { stood := { row := feedSameRow, standIns := [], harness := (true, "203e7350eb1947ffc339b60ec4b509377cb6254a76ad01d1ff692add66962c5c"), looks := true }, kinds := [], alts := [], laidByText := true, laidKinds := [.handle], laidTests := true, laidLooks := .later }
def FeedSameCardSaid : Prop := Claim7.holds Tryd.pinned (.plain (OpenSpec.ofChange feedSameSpec)) feedSameCard

/-- THE TIED CARD OF 'wharfingerlaw05.FeedEnds'. -/
def feedEndsCard : Claim7 := { stood := { row := feedEndsRow, standIns := [], harness := (true, "203e7350eb1947ffc339b60ec4b509377cb6254a76ad01d1ff692add66962c5c"), looks := true }, kinds := [], alts := [], laidByText := true, laidKinds := [.handle], laidTests := true, laidLooks := .later }
def FeedEndsCardSaid : Prop := Claim7.holds Tryd.pinned (.plain (OpenSpec.ofChange feedEndsSpec)) feedEndsCard

/-- THE TIED CARD OF 'wharfingerlaw05.FeedWrong'. -/
def feedWrongCard : Claim7 := { stood := { row := feedWrongRow, standIns := [], harness := (true, "203e7350eb1947ffc339b60ec4b509377cb6254a76ad01d1ff692add66962c5c"), looks := true }, kinds := [], alts := [], laidByText := true, laidKinds := [.handle], laidTests := true, laidLooks := .later }
def FeedWrongCardSaid : Prop := Claim7.holds Tryd.pinned (.plain (OpenSpec.ofChange feedWrongSpec)) feedWrongCard

/-- THE TIED CARD OF 'wharfingerlaw05.FeedHolds'. -/
def feedHoldsCard : Claim7 := { stood := { row := feedHoldsRow, standIns := [], harness := (true, "203e7350eb1947ffc339b60ec4b509377cb6254a76ad01d1ff692add66962c5c"), looks := true }, kinds := [], alts := [], laidByText := true, laidKinds := [.handle], laidTests := true, laidLooks := .later }
def FeedHoldsCardSaid : Prop := Claim7.holds Tryd.pinned (.plain (OpenSpec.ofChange feedHoldsSpec)) feedHoldsCard

/-- THE TIED CARD OF 'wharfingerlaw05.FeedOwn'. -/
def feedOwnCard : Claim7 := { stood := { row := feedOwnRow, standIns := [], harness := (true, "203e7350eb1947ffc339b60ec4b509377cb6254a76ad01d1ff692add66962c5c"), looks := true }, kinds := [], alts := [], laidByText := true, laidKinds := [.handle], laidTests := true, laidLooks := .later }
def FeedOwnCardSaid : Prop := Claim7.holds Tryd.pinned (.plain (OpenSpec.ofChange feedOwnSpec)) feedOwnCard

/-- THE SECOND FORM's CARD OF 'wharfingerlaw03.CodeLong'. -/
def codeLongUptoCard : Claim7 := { stood := { row := codeLongUptoRow, standIns := [], harness := (true, "203e7350eb1947ffc339b60ec4b509377cb6254a76ad01d1ff692add66962c5c"), looks := true }, kinds := [], alts := [], laidByText := true, laidKinds := [.handle], laidTests := true, laidLooks := .later }
def CodeLongUptoCardSaid : Prop := Claim7.holds Tryd.pinned (.plain (OpenSpec.upto codeLongSpec)) codeLongUptoCard

/-- THE SECOND FORM's CARD OF 'wharfingerlaw03.CodeBack'. -/
def codeBackUptoCard : Claim7 := { stood := { row := codeBackUptoRow, standIns := [], harness := (true, "203e7350eb1947ffc339b60ec4b509377cb6254a76ad01d1ff692add66962c5c"), looks := true }, kinds := [], alts := [], laidByText := true, laidKinds := [.handle], laidTests := true, laidLooks := .later }
def CodeBackUptoCardSaid : Prop := Claim7.holds Tryd.pinned (.plain (OpenSpec.upto codeBackSpec)) codeBackUptoCard

/-- THE SECOND FORM's CARD OF 'wharfingerlaw03.CodeStands'. -/
def codeStandsUptoCard : Claim7 := { stood := { row := codeStandsUptoRow, standIns := [], harness := (true, "203e7350eb1947ffc339b60ec4b509377cb6254a76ad01d1ff692add66962c5c"), looks := true }, kinds := [], alts := [], laidByText := true, laidKinds := [.handle], laidTests := true, laidLooks := .later }
def CodeStandsUptoCardSaid : Prop := Claim7.holds Tryd.pinned (.plain (OpenSpec.upto codeStandsSpec)) codeStandsUptoCard

/-- THE SECOND FORM's CARD OF 'wharfingerlaw03.CodeReads'. -/
def codeReadsUptoCard : Claim7 := { stood := { row := codeReadsUptoRow, standIns := [], harness := (true, "203e7350eb1947ffc339b60ec4b509377cb6254a76ad01d1ff692add66962c5c"), looks := true }, kinds := [], alts := [], laidByText := true, laidKinds := [.handle], laidTests := true, laidLooks := .later }
def CodeReadsUptoCardSaid : Prop := Claim7.holds Tryd.pinned (.plain (OpenSpec.upto codeReadsSpec)) codeReadsUptoCard

/-- THE SECOND FORM's CARD OF 'wharfingerlaw03.CodeErrors'. -/
def codeErrorsUptoCard : Claim7 := { stood := { row := codeErrorsUptoRow, standIns := [], harness := (true, "203e7350eb1947ffc339b60ec4b509377cb6254a76ad01d1ff692add66962c5c"), looks := true }, kinds := [], alts := [], laidByText := true, laidKinds := [.handle], laidTests := true, laidLooks := .later }
def CodeErrorsUptoCardSaid : Prop := Claim7.holds Tryd.pinned (.plain (OpenSpec.upto codeErrorsSpec)) codeErrorsUptoCard

/-- THE SECOND FORM's CARD OF 'wharfingerlaw04.FrameReads'. -/
def frameReadsUptoCard : Claim7 := { stood := { row := frameReadsUptoRow, standIns := [], harness := (true, "203e7350eb1947ffc339b60ec4b509377cb6254a76ad01d1ff692add66962c5c"), looks := true }, kinds := [], alts := [], laidByText := true, laidKinds := [.handle], laidTests := true, laidLooks := .later }
def FrameReadsUptoCardSaid : Prop := Claim7.holds Tryd.pinned (.plain (OpenSpec.upto frameReadsSpec)) frameReadsUptoCard

/-- THE SECOND FORM's CARD OF 'wharfingerlaw04.FrameHeads'. -/
def frameHeadsUptoCard : Claim7 := { stood := { row := frameHeadsUptoRow, standIns := [], harness := (true, "203e7350eb1947ffc339b60ec4b509377cb6254a76ad01d1ff692add66962c5c"), looks := true }, kinds := [], alts := [], laidByText := true, laidKinds := [.handle], laidTests := true, laidLooks := .later }
def FrameHeadsUptoCardSaid : Prop := Claim7.holds Tryd.pinned (.plain (OpenSpec.upto frameHeadsSpec)) frameHeadsUptoCard

/-- THE SECOND FORM's CARD OF 'wharfingerlaw04.FrameCut'. -/
def frameCutUptoCard : Claim7 := { stood := { row := frameCutUptoRow, standIns := [], harness := (true, "203e7350eb1947ffc339b60ec4b509377cb6254a76ad01d1ff692add66962c5c"), looks := true }, kinds := [], alts := [], laidByText := true, laidKinds := [.handle], laidTests := true, laidLooks := .later }
def FrameCutUptoCardSaid : Prop := Claim7.holds Tryd.pinned (.plain (OpenSpec.upto frameCutSpec)) frameCutUptoCard

/-- THE SECOND FORM's CARD OF 'wharfingerlaw05.FeedPieces'. -/
def feedPiecesUptoCard : Claim7 := { stood := { row := feedPiecesUptoRow, standIns := [], harness := (true, "203e7350eb1947ffc339b60ec4b509377cb6254a76ad01d1ff692add66962c5c"), looks := true }, kinds := [], alts := [], laidByText := true, laidKinds := [.handle], laidTests := true, laidLooks := .later }
def FeedPiecesUptoCardSaid : Prop := Claim7.holds Tryd.pinned (.plain (OpenSpec.upto feedPiecesSpec)) feedPiecesUptoCard

/-- THE SECOND FORM's CARD OF 'wharfingerlaw05.FeedSame'. -/
def feedSameUptoCard : Claim7 := { stood := { row := feedSameUptoRow, standIns := [], harness := (true, "203e7350eb1947ffc339b60ec4b509377cb6254a76ad01d1ff692add66962c5c"), looks := true }, kinds := [], alts := [], laidByText := true, laidKinds := [.handle], laidTests := true, laidLooks := .later }
def FeedSameUptoCardSaid : Prop := Claim7.holds Tryd.pinned (.plain (OpenSpec.upto feedSameSpec)) feedSameUptoCard

/-- THE SECOND FORM's CARD OF 'wharfingerlaw05.FeedEnds'. -/
def feedEndsUptoCard : Claim7 := { stood := { row := feedEndsUptoRow, standIns := [], harness := (true, "203e7350eb1947ffc339b60ec4b509377cb6254a76ad01d1ff692add66962c5c"), looks := true }, kinds := [], alts := [], laidByText := true, laidKinds := [.handle], laidTests := true, laidLooks := .later }
def FeedEndsUptoCardSaid : Prop := Claim7.holds Tryd.pinned (.plain (OpenSpec.upto feedEndsSpec)) feedEndsUptoCard

/-- THE SECOND FORM's CARD OF 'wharfingerlaw05.FeedWrong'. -/
def feedWrongUptoCard : Claim7 := { stood := { row := feedWrongUptoRow, standIns := [], harness := (true, "203e7350eb1947ffc339b60ec4b509377cb6254a76ad01d1ff692add66962c5c"), looks := true }, kinds := [], alts := [], laidByText := true, laidKinds := [.handle], laidTests := true, laidLooks := .later }
def FeedWrongUptoCardSaid : Prop := Claim7.holds Tryd.pinned (.plain (OpenSpec.upto feedWrongSpec)) feedWrongUptoCard

/-- THE SECOND FORM's CARD OF 'wharfingerlaw05.FeedHolds'. -/
def feedHoldsUptoCard : Claim7 := { stood := { row := feedHoldsUptoRow, standIns := [], harness := (true, "203e7350eb1947ffc339b60ec4b509377cb6254a76ad01d1ff692add66962c5c"), looks := true }, kinds := [], alts := [], laidByText := true, laidKinds := [.handle], laidTests := true, laidLooks := .later }
def FeedHoldsUptoCardSaid : Prop := Claim7.holds Tryd.pinned (.plain (OpenSpec.upto feedHoldsSpec)) feedHoldsUptoCard

/-- THE SECOND FORM's CARD OF 'wharfingerlaw05.FeedOwn'. -/
def feedOwnUptoCard : Claim7 := { stood := { row := feedOwnUptoRow, standIns := [], harness := (true, "203e7350eb1947ffc339b60ec4b509377cb6254a76ad01d1ff692add66962c5c"), looks := true }, kinds := [], alts := [], laidByText := true, laidKinds := [.handle], laidTests := true, laidLooks := .later }
def FeedOwnUptoCardSaid : Prop := Claim7.holds Tryd.pinned (.plain (OpenSpec.upto feedOwnSpec)) feedOwnUptoCard
end Rows
end Go.Proofs.YtdicjcpcohclaaaDoor
