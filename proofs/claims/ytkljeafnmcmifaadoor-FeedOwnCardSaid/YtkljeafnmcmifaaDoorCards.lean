/-
  DERIVED. GIVEN WITH THE SEED: THE CARDS: each row of YtkljeafnmcmifaaDoorRows.lean that lists a variable, with what it lists TIED to the program's text (the seventh form; the later family's looks); each row that meets fmt, with fmt's text TOLD by the authors' own Lean function (tested against real Go, not proved from fmt's source: count such statements apart). THE CARD IS WHAT COUNTS. Prove the row's statement (the work); the ties are given (YtkljeafnmcmifaaDoorTie.lean); close each card by the builder's one call (the guide's Derived/Test/ToyasCard.lean, 'card_holds'). Laid BY PROGRAM, IN A SANDBOX (cutbox-door.mjs). By AI agents, Wed Nov 11 2026. No macro, syntax, notation, axiom, sorry.
-/
import Derived.Test.YtkljeafnmcmifaaDoorRows
import GoSem.ClaimSeven
namespace Go.Proofs.YtkljeafnmcmifaaDoor
namespace Rows

/-- THE TIED CARD OF 'wharfingerlaw05.FeedSame'. -/
def feedSameCard : Claim7 := { stood := { row := feedSameRow, standIns := [], harness := (true, "bbbb8e8cfe895930bdb483d4fd024bf049daa654d6276cb00ad5fa8d7ca280eb"), looks := true }, kinds := [], alts := [], laidByText := true, laidKinds := [.handle], laidTests := true, laidLooks := .later }
def FeedSameCardSaid : Prop := Claim7.holds Tryd.pinned (.plain (OpenSpec.ofChange feedSameSpec)) feedSameCard

/-- THE TIED CARD OF 'wharfingerlaw05.FeedWrong'. -/
def feedWrongCard : Claim7 := { stood := { row := feedWrongRow, standIns := [], harness := (true, "bbbb8e8cfe895930bdb483d4fd024bf049daa654d6276cb00ad5fa8d7ca280eb"), looks := true }, kinds := [], alts := [], laidByText := true, laidKinds := [.handle], laidTests := true, laidLooks := .later }
def FeedWrongCardSaid : Prop := Claim7.holds Tryd.pinned (.plain (OpenSpec.ofChange feedWrongSpec)) feedWrongCard

/-- THE TIED CARD OF 'wharfingerlaw05.FeedHolds'. -/
def feedHoldsCard : Claim7 := { stood := { row := feedHoldsRow, standIns := [], harness := (true, "bbbb8e8cfe895930bdb483d4fd024bf049daa654d6276cb00ad5fa8d7ca280eb"), looks := true }, kinds := [], alts := [], laidByText := true, laidKinds := [.handle], laidTests := true, laidLooks := .later }
def FeedHoldsCardSaid : Prop := Claim7.holds Tryd.pinned (.plain (OpenSpec.ofChange feedHoldsSpec)) feedHoldsCard

/-- THE TIED CARD OF 'wharfingerlaw05.FeedOwn'. -/
def feedOwnCard : Claim7 := { stood := { row := feedOwnRow, standIns := [], harness := (true, "bbbb8e8cfe895930bdb483d4fd024bf049daa654d6276cb00ad5fa8d7ca280eb"), looks := true }, kinds := [], alts := [], laidByText := true, laidKinds := [.handle], laidTests := true, laidLooks := .later }
def FeedOwnCardSaid : Prop := Claim7.holds Tryd.pinned (.plain (OpenSpec.ofChange feedOwnSpec)) feedOwnCard

/-- THE SECOND FORM's CARD OF 'wharfingerlaw05.FeedSame'. -/
def feedSameUptoCard : Claim7 := { stood := { row := feedSameUptoRow, standIns := [], harness := (true, "bbbb8e8cfe895930bdb483d4fd024bf049daa654d6276cb00ad5fa8d7ca280eb"), looks := true }, kinds := [], alts := [], laidByText := true, laidKinds := [.handle], laidTests := true, laidLooks := .later }
def FeedSameUptoCardSaid : Prop := Claim7.holds Tryd.pinned (.plain (OpenSpec.upto feedSameSpec)) feedSameUptoCard

/-- THE SECOND FORM's CARD OF 'wharfingerlaw05.FeedWrong'. -/
def feedWrongUptoCard : Claim7 := { stood := { row := feedWrongUptoRow, standIns := [], harness := (true, "bbbb8e8cfe895930bdb483d4fd024bf049daa654d6276cb00ad5fa8d7ca280eb"), looks := true }, kinds := [], alts := [], laidByText := true, laidKinds := [.handle], laidTests := true, laidLooks := .later }
def FeedWrongUptoCardSaid : Prop := Claim7.holds Tryd.pinned (.plain (OpenSpec.upto feedWrongSpec)) feedWrongUptoCard

/-- THE SECOND FORM's CARD OF 'wharfingerlaw05.FeedHolds'. -/
def feedHoldsUptoCard : Claim7 := { stood := { row := feedHoldsUptoRow, standIns := [], harness := (true, "bbbb8e8cfe895930bdb483d4fd024bf049daa654d6276cb00ad5fa8d7ca280eb"), looks := true }, kinds := [], alts := [], laidByText := true, laidKinds := [.handle], laidTests := true, laidLooks := .later }
def FeedHoldsUptoCardSaid : Prop := Claim7.holds Tryd.pinned (.plain (OpenSpec.upto feedHoldsSpec)) feedHoldsUptoCard

/-- THE SECOND FORM's CARD OF 'wharfingerlaw05.FeedOwn'. -/
def feedOwnUptoCard : Claim7 := { stood := { row := feedOwnUptoRow, standIns := [], harness := (true, "bbbb8e8cfe895930bdb483d4fd024bf049daa654d6276cb00ad5fa8d7ca280eb"), looks := true }, kinds := [], alts := [], laidByText := true, laidKinds := [.handle], laidTests := true, laidLooks := .later }
def FeedOwnUptoCardSaid : Prop := Claim7.holds Tryd.pinned (.plain (OpenSpec.upto feedOwnSpec)) feedOwnUptoCard
end Rows
end Go.Proofs.YtkljeafnmcmifaaDoor
