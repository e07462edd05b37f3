/-
  NARROWER THAN 'FOR EVERY INPUT', by the rows' own cells (each row's printed sentence says how): CodeLong: laid · CodeBack: laid · CodeStands: laid · CodeReads: laid · CodeErrors: laid · FrameReads: laid · FrameHeads: laid · FrameCut: laid · FeedPieces: laid · FeedSame: laid · FeedEnds: laid · FeedWrong: laid · FeedHolds: laid · FeedOwn: laid.
  DERIVED. THE GIVEN ROWS OF THIS SEAT. 14 by the template 'for every input the law returns true; each argument reads behind the call as it read before'; 0 by the template 'total and deterministic' (their statements: YtdicjcpcohclaaaDoorTotals.lean).
  GIVEN WITH THE SEED: the statements are not yours to turn. If you find one false, say at which input.
  Laid BY PROGRAM, IN A SANDBOX (cutbox-rows.mjs): the forced cells as the released guide's own fill.sh prints them over the translation 297d88daed19920f… (all of the seat's roots in one cut). By AI agents, Wed Nov 11 2026. No macro, syntax, notation, axiom, sorry.
-/
import Derived.Test.YtdicjcpcohclaaaDoorChecked
import GoSem.Claim
import GoSem.ClaimJoined
import GoSem.ClaimMapViews
import Derived.JoinedTies
import Derived.KernelRfl
namespace Go.Proofs.YtdicjcpcohclaaaDoor
/- THE CELL 'sum', in the pinned program and in every row, IS THE sha256 OF THE DUMP (.gsa) THAT YtdicjcpcohclaaaDoorProg.lean LOADS. Nothing in Lean hashes anything: it is a label: what it is worth is what the hold of that sum in a sandbox is worth. -/
noncomputable def Tryd.pinned : Pinned := { name := "ytdicjcpcohclaaadoor", sum := "297d88daed19920f29e16314545b2c0e4d4d13898c0407984e14d88126c7d1b9", checked := Tryd.checked }
namespace Rows
def none {H : Type} : Left H := { results := [], args := [] }

/- WHAT THE LISTED PACKAGE-LEVEL VARIABLES READ AS WHEN THE CALL BEGINS. Each datum BY PROGRAM (the guide's laid-datum.mjs) off the statement by which the dump's own 'gosem.cut.vars' lays the variable. In a bare row this is a premise. The card (YtdicjcpcohclaaaDoorCards.lean) ties it to the program's text. -/
def laid_errors_errorType {H : Type} : DataW H := .iface "internal/reflectlite.rtype" (.agg [.ptr (.lit (.string [101, 114, 114, 111, 114]))])

/-- 'wharfingerlaw03.CodeLong': WHATEVER THE INPUT: true; the input reads as it did. -/
def codeLongSpec : ChangeSpec := { name := "codeLong", fn := fun _ => fun
  | [d1, d2] => { results := [.lit (.bool true)], args := [d1, d2] }
  | _ => none }
def codeLongRow : OpenClaim := { program := "ytdicjcpcohclaaadoor", sum := "297d88daed19920f29e16314545b2c0e4d4d13898c0407984e14d88126c7d1b9", func := "wharfinger/wharfingerlaw03.CodeLong", spec := "codeLong", inPlace := ["internal/reflectlite.ValueOf", "(internal/reflectlite.Value).Type", "(internal/reflectlite.Value).IsNil", "internal/reflectlite.TypeOf", "(internal/reflectlite.Value).Elem", "(internal/reflectlite.Value).Set"], unfollowed := true, recurses := true, named := ["errors.errorType"], apart := false, laid := [("errors.errorType", laid_errors_errorType)] }
def CodeLongSaid : Prop := codeLongRow.holds Tryd.pinned (OpenSpec.ofChange codeLongSpec)

/-- ITS FALSE NEIGHBOUR: 'it returns false'. Refute it at one input. -/
def codeLongWrong : ChangeSpec := { name := "codeLong", fn := fun _ => fun
  | [d1, d2] => { results := [.lit (.bool false)], args := [d1, d2] }
  | _ => none }
def CodeLongWrongFalsely : Prop := codeLongRow.holds Tryd.pinned (OpenSpec.ofChange codeLongWrong)

/-- 'wharfingerlaw03.CodeBack': WHATEVER THE INPUT: true; the input reads as it did. -/
def codeBackSpec : ChangeSpec := { name := "codeBack", fn := fun _ => fun
  | [d1, d2, d3] => { results := [.lit (.bool true)], args := [d1, d2, d3] }
  | _ => none }
def codeBackRow : OpenClaim := { program := "ytdicjcpcohclaaadoor", sum := "297d88daed19920f29e16314545b2c0e4d4d13898c0407984e14d88126c7d1b9", func := "wharfinger/wharfingerlaw03.CodeBack", spec := "codeBack", inPlace := ["internal/reflectlite.ValueOf", "(internal/reflectlite.Value).Type", "(internal/reflectlite.Value).IsNil", "internal/reflectlite.TypeOf", "(internal/reflectlite.Value).Elem", "(internal/reflectlite.Value).Set"], unfollowed := true, recurses := true, named := ["errors.errorType"], apart := false, laid := [("errors.errorType", laid_errors_errorType)] }
def CodeBackSaid : Prop := codeBackRow.holds Tryd.pinned (OpenSpec.ofChange codeBackSpec)

/-- ITS FALSE NEIGHBOUR: 'it returns false'. Refute it at one input. -/
def codeBackWrong : ChangeSpec := { name := "codeBack", fn := fun _ => fun
  | [d1, d2, d3] => { results := [.lit (.bool false)], args := [d1, d2, d3] }
  | _ => none }
def CodeBackWrongFalsely : Prop := codeBackRow.holds Tryd.pinned (OpenSpec.ofChange codeBackWrong)

/-- 'wharfingerlaw03.CodeStands': WHATEVER THE INPUT: true; the input reads as it did. -/
def codeStandsSpec : ChangeSpec := { name := "codeStands", fn := fun _ => fun
  | [d1, d2] => { results := [.lit (.bool true)], args := [d1, d2] }
  | _ => none }
def codeStandsRow : OpenClaim := { program := "ytdicjcpcohclaaadoor", sum := "297d88daed19920f29e16314545b2c0e4d4d13898c0407984e14d88126c7d1b9", func := "wharfinger/wharfingerlaw03.CodeStands", spec := "codeStands", inPlace := ["internal/reflectlite.ValueOf", "(internal/reflectlite.Value).Type", "(internal/reflectlite.Value).IsNil", "internal/reflectlite.TypeOf", "(internal/reflectlite.Value).Elem", "(internal/reflectlite.Value).Set"], unfollowed := true, recurses := true, named := ["errors.errorType"], apart := false, laid := [("errors.errorType", laid_errors_errorType)] }
def CodeStandsSaid : Prop := codeStandsRow.holds Tryd.pinned (OpenSpec.ofChange codeStandsSpec)

/-- ITS FALSE NEIGHBOUR: 'it returns false'. Refute it at one input. -/
def codeStandsWrong : ChangeSpec := { name := "codeStands", fn := fun _ => fun
  | [d1, d2] => { results := [.lit (.bool false)], args := [d1, d2] }
  | _ => none }
def CodeStandsWrongFalsely : Prop := codeStandsRow.holds Tryd.pinned (OpenSpec.ofChange codeStandsWrong)

/-- 'wharfingerlaw03.CodeReads': WHATEVER THE INPUT: true; the input reads as it did. -/
def codeReadsSpec : ChangeSpec := { name := "codeReads", fn := fun _ => fun
  | [d1, d2] => { results := [.lit (.bool true)], args := [d1, d2] }
  | _ => none }
def codeReadsRow : OpenClaim := { program := "ytdicjcpcohclaaadoor", sum := "297d88daed19920f29e16314545b2c0e4d4d13898c0407984e14d88126c7d1b9", func := "wharfinger/wharfingerlaw03.CodeReads", spec := "codeReads", inPlace := ["internal/reflectlite.ValueOf", "(internal/reflectlite.Value).Type", "(internal/reflectlite.Value).IsNil", "internal/reflectlite.TypeOf", "(internal/reflectlite.Value).Elem", "(internal/reflectlite.Value).Set"], unfollowed := true, recurses := true, named := ["errors.errorType"], apart := false, laid := [("errors.errorType", laid_errors_errorType)] }
def CodeReadsSaid : Prop := codeReadsRow.holds Tryd.pinned (OpenSpec.ofChange codeReadsSpec)

/-- ITS FALSE NEIGHBOUR: 'it returns false'. Refute it at one input. -/
def codeReadsWrong : ChangeSpec := { name := "codeReads", fn := fun _ => fun
  | [d1, d2] => { results := [.lit (.bool false)], args := [d1, d2] }
  | _ => none }
def CodeReadsWrongFalsely : Prop := codeReadsRow.holds Tryd.pinned (OpenSpec.ofChange codeReadsWrong)

/-- 'wharfingerlaw03.CodeErrors': WHATEVER THE INPUT: true; the input reads as it did. -/
def codeErrorsSpec : ChangeSpec := { name := "codeErrors", fn := fun _ => fun
  | [d1, d2] => { results := [.lit (.bool true)], args := [d1, d2] }
  | _ => none }
def codeErrorsRow : OpenClaim := { program := "ytdicjcpcohclaaadoor", sum := "297d88daed19920f29e16314545b2c0e4d4d13898c0407984e14d88126c7d1b9", func := "wharfinger/wharfingerlaw03.CodeErrors", spec := "codeErrors", inPlace := ["internal/reflectlite.ValueOf", "(internal/reflectlite.Value).Type", "(internal/reflectlite.Value).IsNil", "internal/reflectlite.TypeOf", "(internal/reflectlite.Value).Elem", "(internal/reflectlite.Value).Set"], unfollowed := true, recurses := true, named := ["errors.errorType"], apart := false, laid := [("errors.errorType", laid_errors_errorType)] }
def CodeErrorsSaid : Prop := codeErrorsRow.holds Tryd.pinned (OpenSpec.ofChange codeErrorsSpec)

/-- ITS FALSE NEIGHBOUR: 'it returns false'. Refute it at one input. -/
def codeErrorsWrong : ChangeSpec := { name := "codeErrors", fn := fun _ => fun
  | [d1, d2] => { results := [.lit (.bool false)], args := [d1, d2] }
  | _ => none }
def CodeErrorsWrongFalsely : Prop := codeErrorsRow.holds Tryd.pinned (OpenSpec.ofChange codeErrorsWrong)

/-- 'wharfingerlaw04.FrameReads': WHATEVER THE INPUT: true; the input reads as it did. -/
def frameReadsSpec : ChangeSpec := { name := "frameReads", fn := fun _ => fun
  | [d] => { results := [.lit (.bool true)], args := [d] }
  | _ => none }
def frameReadsRow : OpenClaim := { program := "ytdicjcpcohclaaadoor", sum := "297d88daed19920f29e16314545b2c0e4d4d13898c0407984e14d88126c7d1b9", func := "wharfinger/wharfingerlaw04.FrameReads", spec := "frameReads", inPlace := ["internal/reflectlite.ValueOf", "(internal/reflectlite.Value).Type", "(internal/reflectlite.Value).IsNil", "internal/reflectlite.TypeOf", "(internal/reflectlite.Value).Elem", "(internal/reflectlite.Value).Set"], unfollowed := true, recurses := true, named := ["errors.errorType"], apart := false, laid := [("errors.errorType", laid_errors_errorType)] }
def FrameReadsSaid : Prop := frameReadsRow.holds Tryd.pinned (OpenSpec.ofChange frameReadsSpec)

/-- ITS FALSE NEIGHBOUR: 'it returns false'. Refute it at one input. -/
def frameReadsWrong : ChangeSpec := { name := "frameReads", fn := fun _ => fun
  | [d] => { results := [.lit (.bool false)], args := [d] }
  | _ => none }
def FrameReadsWrongFalsely : Prop := frameReadsRow.holds Tryd.pinned (OpenSpec.ofChange frameReadsWrong)

/-- 'wharfingerlaw04.FrameHeads': WHATEVER THE INPUT: true; the input reads as it did. -/
def frameHeadsSpec : ChangeSpec := { name := "frameHeads", fn := fun _ => fun
  | [d] => { results := [.lit (.bool true)], args := [d] }
  | _ => none }
def frameHeadsRow : OpenClaim := { program := "ytdicjcpcohclaaadoor", sum := "297d88daed19920f29e16314545b2c0e4d4d13898c0407984e14d88126c7d1b9", func := "wharfinger/wharfingerlaw04.FrameHeads", spec := "frameHeads", inPlace := ["internal/reflectlite.ValueOf", "(internal/reflectlite.Value).Type", "(internal/reflectlite.Value).IsNil", "internal/reflectlite.TypeOf", "(internal/reflectlite.Value).Elem", "(internal/reflectlite.Value).Set"], unfollowed := true, recurses := true, named := ["errors.errorType"], apart := false, laid := [("errors.errorType", laid_errors_errorType)] }
def FrameHeadsSaid : Prop := frameHeadsRow.holds Tryd.pinned (OpenSpec.ofChange frameHeadsSpec)

/-- ITS FALSE NEIGHBOUR: 'it returns false'. Refute it at one input. -/
def frameHeadsWrong : ChangeSpec := { name := "frameHeads", fn := fun _ => fun
  | [d] => { results := [.lit (.bool false)], args := [d] }
  | _ => none }
def FrameHeadsWrongFalsely : Prop := frameHeadsRow.holds Tryd.pinned (OpenSpec.ofChange frameHeadsWrong)

/-- 'wharfingerlaw04.FrameCut': WHATEVER THE INPUT: true; the input reads as it did. -/
def frameCutSpec : ChangeSpec := { name := "frameCut", fn := fun _ => fun
  | [d1, d2, d3] => { results := [.lit (.bool true)], args := [d1, d2, d3] }
  | _ => none }
def frameCutRow : OpenClaim := { program := "ytdicjcpcohclaaadoor", sum := "297d88daed19920f29e16314545b2c0e4d4d13898c0407984e14d88126c7d1b9", func := "wharfinger/wharfingerlaw04.FrameCut", spec := "frameCut", inPlace := ["internal/reflectlite.ValueOf", "(internal/reflectlite.Value).Type", "(internal/reflectlite.Value).IsNil", "internal/reflectlite.TypeOf", "(internal/reflectlite.Value).Elem", "(internal/reflectlite.Value).Set"], unfollowed := true, recurses := true, named := ["errors.errorType"], apart := false, laid := [("errors.errorType", laid_errors_errorType)] }
def FrameCutSaid : Prop := frameCutRow.holds Tryd.pinned (OpenSpec.ofChange frameCutSpec)

/-- ITS FALSE NEIGHBOUR: 'it returns false'. Refute it at one input. -/
def frameCutWrong : ChangeSpec := { name := "frameCut", fn := fun _ => fun
  | [d1, d2, d3] => { results := [.lit (.bool false)], args := [d1, d2, d3] }
  | _ => none }
def FrameCutWrongFalsely : Prop := frameCutRow.holds Tryd.pinned (OpenSpec.ofChange frameCutWrong)

/-- 'wharfingerlaw05.FeedPieces': WHATEVER THE INPUT: true; the input reads as it did. -/
def feedPiecesSpec : ChangeSpec := { name := "feedPieces", fn := fun _ => fun
  | [d] => { results := [.lit (.bool true)], args := [d] }
  | _ => none }
def feedPiecesRow : OpenClaim := { program := "ytdicjcpcohclaaadoor", sum := "297d88daed19920f29e16314545b2c0e4d4d13898c0407984e14d88126c7d1b9", func := "wharfinger/wharfingerlaw05.FeedPieces", spec := "feedPieces", inPlace := ["internal/reflectlite.TypeOf", "internal/reflectlite.ValueOf", "(internal/reflectlite.Value).Type", "(internal/reflectlite.Value).IsNil", "(internal/reflectlite.Value).Elem", "(internal/reflectlite.Value).Set"], unfollowed := true, recurses := true, named := ["errors.errorType"], apart := false, laid := [("errors.errorType", laid_errors_errorType)] }
def FeedPiecesSaid : Prop := feedPiecesRow.holds Tryd.pinned (OpenSpec.ofChange feedPiecesSpec)

/-- ITS FALSE NEIGHBOUR: 'it returns false'. Refute it at one input. -/
def feedPiecesWrong : ChangeSpec := { name := "feedPieces", fn := fun _ => fun
  | [d] => { results := [.lit (.bool false)], args := [d] }
  | _ => none }
def FeedPiecesWrongFalsely : Prop := feedPiecesRow.holds Tryd.pinned (OpenSpec.ofChange feedPiecesWrong)

/-- 'wharfingerlaw05.FeedSame': WHATEVER THE INPUT: true; the input reads as it did. -/
def feedSameSpec : ChangeSpec := { name := "feedSame", fn := fun _ => fun
  | [d1, d2] => { results := [.lit (.bool true)], args := [d1, d2] }
  | _ => none }
def feedSameRow : OpenClaim := { program := "ytdicjcpcohclaaadoor", sum := "297d88daed19920f29e16314545b2c0e4d4d13898c0407984e14d88126c7d1b9", func := "wharfinger/wharfingerlaw05.FeedSame", spec := "feedSame", inPlace := ["internal/reflectlite.TypeOf", "internal/reflectlite.ValueOf", "(internal/reflectlite.Value).Type", "(internal/reflectlite.Value).IsNil", "(internal/reflectlite.Value).Elem", "(internal/reflectlite.Value).Set"], unfollowed := true, recurses := true, named := ["errors.errorType"], apart := false, laid := [("errors.errorType", laid_errors_errorType)] }
def FeedSameSaid : Prop := feedSameRow.holds Tryd.pinned (OpenSpec.ofChange feedSameSpec)

/-- ITS FALSE NEIGHBOUR: 'it returns false'. Refute it at one input. -/
def feedSameWrong : ChangeSpec := { name := "feedSame", fn := fun _ => fun
  | [d1, d2] => { results := [.lit (.bool false)], args := [d1, d2] }
  | _ => none }
def FeedSameWrongFalsely : Prop := feedSameRow.holds Tryd.pinned (OpenSpec.ofChange feedSameWrong)

/-- 'wharfingerlaw05.FeedEnds': WHATEVER THE INPUT: true; the input reads as it did. -/
def feedEndsSpec : ChangeSpec := { name := "feedEnds", fn := fun _ => fun
  | [d] => { results := [.lit (.bool true)], args := [d] }
  | _ => none }
def feedEndsRow : OpenClaim := { program := "ytdicjcpcohclaaadoor", sum := "297d88daed19920f29e16314545b2c0e4d4d13898c0407984e14d88126c7d1b9", func := "wharfinger/wharfingerlaw05.FeedEnds", spec := "feedEnds", inPlace := ["internal/reflectlite.TypeOf", "internal/reflectlite.ValueOf", "(internal/reflectlite.Value).Type", "(internal/reflectlite.Value).IsNil", "(internal/reflectlite.Value).Elem", "(internal/reflectlite.Value).Set"], unfollowed := true, recurses := true, named := ["errors.errorType"], apart := false, laid := [("errors.errorType", laid_errors_errorType)] }
def FeedEndsSaid : Prop := feedEndsRow.holds Tryd.pinned (OpenSpec.ofChange feedEndsSpec)

/-- ITS FALSE NEIGHBOUR: 'it returns false'. Refute it at one input. -/
def feedEndsWrong : ChangeSpec := { name := "feedEnds", fn := fun _ => fun
  | [d] => { results := [.lit (.bool false)], args := [d] }
  | _ => none }
def FeedEndsWrongFalsely : Prop := feedEndsRow.holds Tryd.pinned (OpenSpec.ofChange feedEndsWrong)

/-- 'wharfingerlaw05.FeedWrong': WHATEVER THE INPUT: true; the input reads as it did. -/
def feedWrongSpec : ChangeSpec := { name := "feedWrong", fn := fun _ => fun
  | [d1, d2, d3] => { results := [.lit (.bool true)], args := [d1, d2, d3] }
  | _ => none }
def feedWrongRow : OpenClaim := { program := "ytdicjcpcohclaaadoor", sum := "297d88daed19920f29e16314545b2c0e4d4d13898c0407984e14d88126c7d1b9", func := "wharfinger/wharfingerlaw05.FeedWrong", spec := "feedWrong", inPlace := ["internal/reflectlite.TypeOf", "internal/reflectlite.ValueOf", "(internal/reflectlite.Value).Type", "(internal/reflectlite.Value).IsNil", "(internal/reflectlite.Value).Elem", "(internal/reflectlite.Value).Set"], unfollowed := true, recurses := true, named := ["errors.errorType"], apart := false, laid := [("errors.errorType", laid_errors_errorType)] }
def FeedWrongSaid : Prop := feedWrongRow.holds Tryd.pinned (OpenSpec.ofChange feedWrongSpec)

/-- ITS FALSE NEIGHBOUR: 'it returns false'. Refute it at one input. -/
def feedWrongWrong : ChangeSpec := { name := "feedWrong", fn := fun _ => fun
  | [d1, d2, d3] => { results := [.lit (.bool false)], args := [d1, d2, d3] }
  | _ => none }
def FeedWrongWrongFalsely : Prop := feedWrongRow.holds Tryd.pinned (OpenSpec.ofChange feedWrongWrong)

/-- 'wharfingerlaw05.FeedHolds': WHATEVER THE INPUT: true; the input reads as it did. -/
def feedHoldsSpec : ChangeSpec := { name := "feedHolds", fn := fun _ => fun
  | [d1, d2] => { results := [.lit (.bool true)], args := [d1, d2] }
  | _ => none }
def feedHoldsRow : OpenClaim := { program := "ytdicjcpcohclaaadoor", sum := "297d88daed19920f29e16314545b2c0e4d4d13898c0407984e14d88126c7d1b9", func := "wharfinger/wharfingerlaw05.FeedHolds", spec := "feedHolds", inPlace := ["internal/reflectlite.TypeOf", "internal/reflectlite.ValueOf", "(internal/reflectlite.Value).Type", "(internal/reflectlite.Value).IsNil", "(internal/reflectlite.Value).Elem", "(internal/reflectlite.Value).Set"], unfollowed := true, recurses := true, named := ["errors.errorType"], apart := false, laid := [("errors.errorType", laid_errors_errorType)] }
def FeedHoldsSaid : Prop := feedHoldsRow.holds Tryd.pinned (OpenSpec.ofChange feedHoldsSpec)

/-- ITS FALSE NEIGHBOUR: 'it returns false'. Refute it at one input. -/
def feedHoldsWrong : ChangeSpec := { name := "feedHolds", fn := fun _ => fun
  | [d1, d2] => { results := [.lit (.bool false)], args := [d1, d2] }
  | _ => none }
def FeedHoldsWrongFalsely : Prop := feedHoldsRow.holds Tryd.pinned (OpenSpec.ofChange feedHoldsWrong)

/-- 'wharfingerlaw05.FeedOwn': WHATEVER THE INPUT: true; the input reads as it did. -/
def feedOwnSpec : ChangeSpec := { name := "feedOwn", fn := fun _ => fun
  | [d1, d2] => { results := [.lit (.bool true)], args := [d1, d2] }
  | _ => none }
def feedOwnRow : OpenClaim := { program := "ytdicjcpcohclaaadoor", sum := "297d88daed19920f29e16314545b2c0e4d4d13898c0407984e14d88126c7d1b9", func := "wharfinger/wharfingerlaw05.FeedOwn", spec := "feedOwn", inPlace := ["internal/reflectlite.TypeOf", "internal/reflectlite.ValueOf", "(internal/reflectlite.Value).Type", "(internal/reflectlite.Value).IsNil", "(internal/reflectlite.Value).Elem", "(internal/reflectlite.Value).Set"], unfollowed := true, recurses := true, named := ["errors.errorType"], apart := false, laid := [("errors.errorType", laid_errors_errorType)] }
def FeedOwnSaid : Prop := feedOwnRow.holds Tryd.pinned (OpenSpec.ofChange feedOwnSpec)

/-- ITS FALSE NEIGHBOUR: 'it returns false'. Refute it at one input. -/
def feedOwnWrong : ChangeSpec := { name := "feedOwn", fn := fun _ => fun
  | [d1, d2] => { results := [.lit (.bool false)], args := [d1, d2] }
  | _ => none }
def FeedOwnWrongFalsely : Prop := feedOwnRow.holds Tryd.pinned (OpenSpec.ofChange feedOwnWrong)

/- THE SECOND FORM. 'bulk': how many values and letters a reading holds, each counted each time it is reached (what is shared counts as often as it is met; a slice's spare places count too). A statement '..UptoSaid' is the law's where the arguments, and the package variables that the reading takes, are together of bulk at most 1048576: NARROWER than '..Said'. Prove '..Said' where nothing that the law and all that it calls make is longer than what came in: it says more and counts as full. Else prove '..UptoSaid'. A law counts once. -/
mutual
def uptoBulk {H : Type} : DataW H → Nat
  | .lit (.string bytes) => bytes.length + 1
  | .lit _ => 1
  | .nil => 1
  | .ptr d => uptoBulk d + 1
  | .slice elems spare => uptoBulkAll elems + uptoBulkAll spare + 1
  | .agg parts => uptoBulkAll parts + 1
  | .iface _ d => uptoBulk d + 1
  | .map entries => uptoBulkEntries entries + 1
  | .held _ => 1
def uptoBulkAll {H : Type} : List (DataW H) → Nat
  | [] => 0
  | d :: r => uptoBulk d + uptoBulkAll r
def uptoBulkEntries {H : Type} : List (Lit × DataW H) → Nat
  | [] => 0
  | x :: r => uptoBulkEntry x + uptoBulkEntries r
def uptoBulkEntry {H : Type} : Lit × DataW H → Nat
  | (.string bytes, d) => bytes.length + uptoBulk d + 1
  | (_, d) => uptoBulk d + 1
 end
def uptoSmall : (H : Type) → List (DataW H) → Bool := fun _ ds => decide (uptoBulkAll ds ≤ 1048576)
def OpenSpec.upto (s : _root_.Go.ChangeSpec) : _root_.Go.OpenSpec := { _root_.Go.OpenSpec.ofChange s with cond := some uptoSmall }

/-- 'wharfingerlaw03.CodeLong', WHERE WHAT IT READS IS OF BULK AT MOST 1048576: true; the input reads as it did. -/
def codeLongUptoRow : OpenClaim := { program := "ytdicjcpcohclaaadoor", sum := "297d88daed19920f29e16314545b2c0e4d4d13898c0407984e14d88126c7d1b9", func := "wharfinger/wharfingerlaw03.CodeLong", spec := "codeLong", inPlace := ["internal/reflectlite.ValueOf", "(internal/reflectlite.Value).Type", "(internal/reflectlite.Value).IsNil", "internal/reflectlite.TypeOf", "(internal/reflectlite.Value).Elem", "(internal/reflectlite.Value).Set"], unfollowed := true, recurses := true, named := ["errors.errorType"], apart := false, laid := [("errors.errorType", laid_errors_errorType)], narrowed := true }
def CodeLongUptoSaid : Prop := codeLongUptoRow.holds Tryd.pinned (OpenSpec.upto codeLongSpec)

/-- 'wharfingerlaw03.CodeBack', WHERE WHAT IT READS IS OF BULK AT MOST 1048576: true; the input reads as it did. -/
def codeBackUptoRow : OpenClaim := { program := "ytdicjcpcohclaaadoor", sum := "297d88daed19920f29e16314545b2c0e4d4d13898c0407984e14d88126c7d1b9", func := "wharfinger/wharfingerlaw03.CodeBack", spec := "codeBack", inPlace := ["internal/reflectlite.ValueOf", "(internal/reflectlite.Value).Type", "(internal/reflectlite.Value).IsNil", "internal/reflectlite.TypeOf", "(internal/reflectlite.Value).Elem", "(internal/reflectlite.Value).Set"], unfollowed := true, recurses := true, named := ["errors.errorType"], apart := false, laid := [("errors.errorType", laid_errors_errorType)], narrowed := true }
def CodeBackUptoSaid : Prop := codeBackUptoRow.holds Tryd.pinned (OpenSpec.upto codeBackSpec)

/-- 'wharfingerlaw03.CodeStands', WHERE WHAT IT READS IS OF BULK AT MOST 1048576: true; the input reads as it did. -/
def codeStandsUptoRow : OpenClaim := { program := "ytdicjcpcohclaaadoor", sum := "297d88daed19920f29e16314545b2c0e4d4d13898c0407984e14d88126c7d1b9", func := "wharfinger/wharfingerlaw03.CodeStands", spec := "codeStands", inPlace := ["internal/reflectlite.ValueOf", "(internal/reflectlite.Value).Type", "(internal/reflectlite.Value).IsNil", "internal/reflectlite.TypeOf", "(internal/reflectlite.Value).Elem", "(internal/reflectlite.Value).Set"], unfollowed := true, recurses := true, named := ["errors.errorType"], apart := false, laid := [("errors.errorType", laid_errors_errorType)], narrowed := true }
def CodeStandsUptoSaid : Prop := codeStandsUptoRow.holds Tryd.pinned (OpenSpec.upto codeStandsSpec)

/-- 'wharfingerlaw03.CodeReads', WHERE WHAT IT READS IS OF BULK AT MOST 1048576: true; the input reads as it did. -/
def codeReadsUptoRow : OpenClaim := { program := "ytdicjcpcohclaaadoor", sum := "297d88daed19920f29e16314545b2c0e4d4d13898c0407984e14d88126c7d1b9", func := "wharfinger/wharfingerlaw03.CodeReads", spec := "codeReads", inPlace := ["internal/reflectlite.ValueOf", "(internal/reflectlite.Value).Type", "(internal/reflectlite.Value).IsNil", "internal/reflectlite.TypeOf", "(internal/reflectlite.Value).Elem", "(internal/reflectlite.Value).Set"], unfollowed := true, recurses := true, named := ["errors.errorType"], apart := false, laid := [("errors.errorType", laid_errors_errorType)], narrowed := true }
def CodeReadsUptoSaid : Prop := codeReadsUptoRow.holds Tryd.pinned (OpenSpec.upto codeReadsSpec)

/-- 'wharfingerlaw03.CodeErrors', WHERE WHAT IT READS IS OF BULK AT MOST 1048576: true; the input reads as it did. -/
def codeErrorsUptoRow : OpenClaim := { program := "ytdicjcpcohclaaadoor", sum := "297d88daed19920f29e16314545b2c0e4d4d13898c0407984e14d88126c7d1b9", func := "wharfinger/wharfingerlaw03.CodeErrors", spec := "codeErrors", inPlace := ["internal/reflectlite.ValueOf", "(internal/reflectlite.Value).Type", "(internal/reflectlite.Value).IsNil", "internal/reflectlite.TypeOf", "(internal/reflectlite.Value).Elem", "(internal/reflectlite.Value).Set"], unfollowed := true, recurses := true, named := ["errors.errorType"], apart := false, laid := [("errors.errorType", laid_errors_errorType)], narrowed := true }
def CodeErrorsUptoSaid : Prop := codeErrorsUptoRow.holds Tryd.pinned (OpenSpec.upto codeErrorsSpec)

/-- 'wharfingerlaw04.FrameReads', WHERE WHAT IT READS IS OF BULK AT MOST 1048576: true; the input reads as it did. -/
def frameReadsUptoRow : OpenClaim := { program := "ytdicjcpcohclaaadoor", sum := "297d88daed19920f29e16314545b2c0e4d4d13898c0407984e14d88126c7d1b9", func := "wharfinger/wharfingerlaw04.FrameReads", spec := "frameReads", inPlace := ["internal/reflectlite.ValueOf", "(internal/reflectlite.Value).Type", "(internal/reflectlite.Value).IsNil", "internal/reflectlite.TypeOf", "(internal/reflectlite.Value).Elem", "(internal/reflectlite.Value).Set"], unfollowed := true, recurses := true, named := ["errors.errorType"], apart := false, laid := [("errors.errorType", laid_errors_errorType)], narrowed := true }
def FrameReadsUptoSaid : Prop := frameReadsUptoRow.holds Tryd.pinned (OpenSpec.upto frameReadsSpec)

/-- 'wharfingerlaw04.FrameHeads', WHERE WHAT IT READS IS OF BULK AT MOST 1048576: true; the input reads as it did. -/
def frameHeadsUptoRow : OpenClaim := { program := "ytdicjcpcohclaaadoor", sum := "297d88daed19920f29e16314545b2c0e4d4d13898c0407984e14d88126c7d1b9", func := "wharfinger/wharfingerlaw04.FrameHeads", spec := "frameHeads", inPlace := ["internal/reflectlite.ValueOf", "(internal/reflectlite.Value).Type", "(internal/reflectlite.Value).IsNil", "internal/reflectlite.TypeOf", "(internal/reflectlite.Value).Elem", "(internal/reflectlite.Value).Set"], unfollowed := true, recurses := true, named := ["errors.errorType"], apart := false, laid := [("errors.errorType", laid_errors_errorType)], narrowed := true }
def FrameHeadsUptoSaid : Prop := frameHeadsUptoRow.holds Tryd.pinned (OpenSpec.upto frameHeadsSpec)

/-- 'wharfingerlaw04.FrameCut', WHERE WHAT IT READS IS OF BULK AT MOST 1048576: true; the input reads as it did. -/
def frameCutUptoRow : OpenClaim := { program := "ytdicjcpcohclaaadoor", sum := "297d88daed19920f29e16314545b2c0e4d4d13898c0407984e14d88126c7d1b9", func := "wharfinger/wharfingerlaw04.FrameCut", spec := "frameCut", inPlace := ["internal/reflectlite.ValueOf", "(internal/reflectlite.Value).Type", "(internal/reflectlite.Value).IsNil", "internal/reflectlite.TypeOf", "(internal/reflectlite.Value).Elem", "(internal/reflectlite.Value).Set"], unfollowed := true, recurses := true, named := ["errors.errorType"], apart := false, laid := [("errors.errorType", laid_errors_errorType)], narrowed := true }
def FrameCutUptoSaid : Prop := frameCutUptoRow.holds Tryd.pinned (OpenSpec.upto frameCutSpec)

/-- 'wharfingerlaw05.FeedPieces', WHERE WHAT IT READS IS OF BULK AT MOST 1048576: true; the input reads as it did. -/
def feedPiecesUptoRow : OpenClaim := { program := "ytdicjcpcohclaaadoor", sum := "297d88daed19920f29e16314545b2c0e4d4d13898c0407984e14d88126c7d1b9", func := "wharfinger/wharfingerlaw05.FeedPieces", spec := "feedPieces", inPlace := ["internal/reflectlite.TypeOf", "internal/reflectlite.ValueOf", "(internal/reflectlite.Value).Type", "(internal/reflectlite.Value).IsNil", "(internal/reflectlite.Value).Elem", "(internal/reflectlite.Value).Set"], unfollowed := true, recurses := true, named := ["errors.errorType"], apart := false, laid := [("errors.errorType", laid_errors_errorType)], narrowed := true }
def FeedPiecesUptoSaid : Prop := feedPiecesUptoRow.holds Tryd.pinned (OpenSpec.upto feedPiecesSpec)

/-- 'wharfingerlaw05.FeedSame', WHERE WHAT IT READS IS OF BULK AT MOST 1048576: true; the input reads as it did. -/
def feedSameUptoRow : OpenClaim := { program := "ytdicjcpcohclaaadoor", sum := "297d88daed19920f29e16314545b2c0e4d4d13898c0407984e14d88126c7d1b9", func := "wharfinger/wharfingerlaw05.FeedSame", spec := "feedSame", inPlace := ["internal/reflectlite.TypeOf", "internal/reflectlite.ValueOf", "(internal/reflectlite.Value).Type", "(internal/reflectlite.Value).IsNil", "(internal/reflectlite.Value).Elem", "(internal/reflectlite.Value).Set"], unfollowed := true, recurses := true, named := ["errors.errorType"], apart := false, laid := [("errors.errorType", laid_errors_errorType)], narrowed := true }
def FeedSameUptoSaid : Prop := feedSameUptoRow.holds Tryd.pinned (OpenSpec.upto feedSameSpec)

/-- 'wharfingerlaw05.FeedEnds', WHERE WHAT IT READS IS OF BULK AT MOST 1048576: true; the input reads as it did. -/
def feedEndsUptoRow : OpenClaim := { program := "ytdicjcpcohclaaadoor", sum := "297d88daed19920f29e16314545b2c0e4d4d13898c0407984e14d88126c7d1b9", func := "wharfinger/wharfingerlaw05.FeedEnds", spec := "feedEnds", inPlace := ["internal/reflectlite.TypeOf", "internal/reflectlite.ValueOf", "(internal/reflectlite.Value).Type", "(internal/reflectlite.Value).IsNil", "(internal/reflectlite.Value).Elem", "(internal/reflectlite.Value).Set"], unfollowed := true, recurses := true, named := ["errors.errorType"], apart := false, laid := [("errors.errorType", laid_errors_errorType)], narrowed := true }
def FeedEndsUptoSaid : Prop := feedEndsUptoRow.holds Tryd.pinned (OpenSpec.upto feedEndsSpec)

/-- 'wharfingerlaw05.FeedWrong', WHERE WHAT IT READS IS OF BULK AT MOST 1048576: true; the input reads as it did. -/
def feedWrongUptoRow : OpenClaim := { program := "ytdicjcpcohclaaadoor", sum := "297d88daed19920f29e16314545b2c0e4d4d13898c0407984e14d88126c7d1b9", func := "wharfinger/wharfingerlaw05.FeedWrong", spec := "feedWrong", inPlace := ["internal/reflectlite.TypeOf", "internal/reflectlite.ValueOf", "(internal/reflectlite.Value).Type", "(internal/reflectlite.Value).IsNil", "(internal/reflectlite.Value).Elem", "(internal/reflectlite.Value).Set"], unfollowed := true, recurses := true, named := ["errors.errorType"], apart := false, laid := [("errors.errorType", laid_errors_errorType)], narrowed := true }
def FeedWrongUptoSaid : Prop := feedWrongUptoRow.holds Tryd.pinned (OpenSpec.upto feedWrongSpec)

/-- 'wharfingerlaw05.FeedHolds', WHERE WHAT IT READS IS OF BULK AT MOST 1048576: true; the input reads as it did. -/
def feedHoldsUptoRow : OpenClaim := { program := "ytdicjcpcohclaaadoor", sum := "297d88daed19920f29e16314545b2c0e4d4d13898c0407984e14d88126c7d1b9", func := "wharfinger/wharfingerlaw05.FeedHolds", spec := "feedHolds", inPlace := ["internal/reflectlite.TypeOf", "internal/reflectlite.ValueOf", "(internal/reflectlite.Value).Type", "(internal/reflectlite.Value).IsNil", "(internal/reflectlite.Value).Elem", "(internal/reflectlite.Value).Set"], unfollowed := true, recurses := true, named := ["errors.errorType"], apart := false, laid := [("errors.errorType", laid_errors_errorType)], narrowed := true }
def FeedHoldsUptoSaid : Prop := feedHoldsUptoRow.holds Tryd.pinned (OpenSpec.upto feedHoldsSpec)

/-- 'wharfingerlaw05.FeedOwn', WHERE WHAT IT READS IS OF BULK AT MOST 1048576: true; the input reads as it did. -/
def feedOwnUptoRow : OpenClaim := { program := "ytdicjcpcohclaaadoor", sum := "297d88daed19920f29e16314545b2c0e4d4d13898c0407984e14d88126c7d1b9", func := "wharfinger/wharfingerlaw05.FeedOwn", spec := "feedOwn", inPlace := ["internal/reflectlite.TypeOf", "internal/reflectlite.ValueOf", "(internal/reflectlite.Value).Type", "(internal/reflectlite.Value).IsNil", "(internal/reflectlite.Value).Elem", "(internal/reflectlite.Value).Set"], unfollowed := true, recurses := true, named := ["errors.errorType"], apart := false, laid := [("errors.errorType", laid_errors_errorType)], narrowed := true }
def FeedOwnUptoSaid : Prop := feedOwnUptoRow.holds Tryd.pinned (OpenSpec.upto feedOwnSpec)

end Rows
end Go.Proofs.YtdicjcpcohclaaaDoor
