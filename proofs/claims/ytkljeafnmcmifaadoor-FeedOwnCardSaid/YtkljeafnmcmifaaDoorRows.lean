/-
  NARROWER THAN 'FOR EVERY INPUT', by the rows' own cells (each row's printed sentence says how): FeedSame: laid · FeedWrong: laid · FeedHolds: laid · FeedOwn: laid.
  DERIVED. THE GIVEN ROWS OF THIS SEAT. 4 by the template 'for every input the law returns true; each argument reads behind the call as it read before'; 0 by the template 'total and deterministic' (their statements: YtkljeafnmcmifaaDoorTotals.lean).
  GIVEN WITH THE SEED: the statements are not yours to turn. If you find one false, say at which input.
  Laid BY PROGRAM, IN A SANDBOX (cutbox-rows.mjs): the forced cells as the released guide's own fill.sh prints them over the translation a245d4b82b24f8f6… (all of the seat's roots in one cut). By AI agents, Wed Nov 11 2026. No macro, syntax, notation, axiom, sorry.
-/
import Derived.Test.YtkljeafnmcmifaaDoorChecked
import GoSem.Claim
import GoSem.ClaimJoined
import GoSem.ClaimMapViews
import Derived.JoinedTies
import Derived.KernelRfl
namespace Go.Proofs.YtkljeafnmcmifaaDoor
/- THE CELL 'sum', in the pinned program and in every row, IS THE sha256 OF THE DUMP (.gsa) THAT YtkljeafnmcmifaaDoorProg.lean LOADS. Nothing in Lean hashes anything: it is a label: what it is worth is what the hold of that sum in a sandbox is worth. -/
noncomputable def Tryd.pinned : Pinned := { name := "ytkljeafnmcmifaadoor", sum := "a245d4b82b24f8f6b46b6064346eb220cf85b6c54cb45036dc4c89f75f536227", checked := Tryd.checked }
namespace Rows
def none {H : Type} : Left H := { results := [], args := [] }

/- WHAT THE LISTED PACKAGE-LEVEL VARIABLES READ AS WHEN THE CALL BEGINS. Each datum BY PROGRAM (the guide's laid-datum.mjs) off the statement by which the dump's own 'gosem.cut.vars' lays the variable. In a bare row this is a premise. The card (YtkljeafnmcmifaaDoorCards.lean) ties it to the program's text. -/
def laid_errors_errorType {H : Type} : DataW H := .iface "internal/reflectlite.rtype" (.agg [.ptr (.lit (.string [101, 114, 114, 111, 114]))])

/-- 'wharfingerlaw05.FeedSame': WHATEVER THE INPUT: true; the input reads as it did. -/
def feedSameSpec : ChangeSpec := { name := "feedSame", fn := fun _ => fun
  | [d1, d2] => { results := [.lit (.bool true)], args := [d1, d2] }
  | _ => none }
def feedSameRow : OpenClaim := { program := "ytkljeafnmcmifaadoor", sum := "a245d4b82b24f8f6b46b6064346eb220cf85b6c54cb45036dc4c89f75f536227", func := "wharfinger/wharfingerlaw05.FeedSame", spec := "feedSame", inPlace := ["internal/reflectlite.TypeOf", "internal/reflectlite.ValueOf", "(internal/reflectlite.Value).Type", "(internal/reflectlite.Value).IsNil", "(internal/reflectlite.Value).Elem", "(internal/reflectlite.Value).Set"], unfollowed := true, recurses := true, named := ["errors.errorType"], apart := false, laid := [("errors.errorType", laid_errors_errorType)] }
def FeedSameSaid : Prop := feedSameRow.holds Tryd.pinned (OpenSpec.ofChange feedSameSpec)

/-- ITS FALSE NEIGHBOUR: 'it returns false'. Refute it at one input. -/
def feedSameWrong : ChangeSpec := { name := "feedSame", fn := fun _ => fun
  | [d1, d2] => { results := [.lit (.bool false)], args := [d1, d2] }
  | _ => none }
def FeedSameWrongFalsely : Prop := feedSameRow.holds Tryd.pinned (OpenSpec.ofChange feedSameWrong)

/-- 'wharfingerlaw05.FeedWrong': WHATEVER THE INPUT: true; the input reads as it did. -/
def feedWrongSpec : ChangeSpec := { name := "feedWrong", fn := fun _ => fun
  | [d1, d2, d3] => { results := [.lit (.bool true)], args := [d1, d2, d3] }
  | _ => none }
def feedWrongRow : OpenClaim := { program := "ytkljeafnmcmifaadoor", sum := "a245d4b82b24f8f6b46b6064346eb220cf85b6c54cb45036dc4c89f75f536227", func := "wharfinger/wharfingerlaw05.FeedWrong", spec := "feedWrong", inPlace := ["internal/reflectlite.TypeOf", "internal/reflectlite.ValueOf", "(internal/reflectlite.Value).Type", "(internal/reflectlite.Value).IsNil", "(internal/reflectlite.Value).Elem", "(internal/reflectlite.Value).Set"], unfollowed := true, recurses := true, named := ["errors.errorType"], apart := false, laid := [("errors.errorType", laid_errors_errorType)] }
def FeedWrongSaid : Prop := feedWrongRow.holds Tryd.pinned (OpenSpec.ofChange feedWrongSpec)

/-- ITS FALSE NEIGHBOUR: 'it returns false'. Refute it at one input. -/
def feedWrongWrong : ChangeSpec := { name := "feedWrong", fn := fun _ => fun
  | [d1, d2, d3] => { results := [.lit (.bool false)], args := [d1, d2, d3] }
  | _ => none }
def FeedWrongWrongFalsely : Prop := feedWrongRow.holds Tryd.pinned (OpenSpec.ofChange feedWrongWrong)

/-- 'wharfingerlaw05.FeedHolds': WHATEVER THE INPUT: true; the input reads as it did. -/
def feedHoldsSpec : ChangeSpec := { name := "feedHolds", fn := fun _ => fun
  | [d1, d2] => { results := [.lit (.bool true)], args := [d1, d2] }
  | _ => none }
def feedHoldsRow : OpenClaim := { program := "ytkljeafnmcmifaadoor", sum := "a245d4b82b24f8f6b46b6064346eb220cf85b6c54cb45036dc4c89f75f536227", func := "wharfinger/wharfingerlaw05.FeedHolds", spec := "feedHolds", inPlace := ["internal/reflectlite.TypeOf", "internal/reflectlite.ValueOf", "(internal/reflectlite.Value).Type", "(internal/reflectlite.Value).IsNil", "(internal/reflectlite.Value).Elem", "(internal/reflectlite.Value).Set"], unfollowed := true, recurses := true, named := ["errors.errorType"], apart := false, laid := [("errors.errorType", laid_errors_errorType)] }
def FeedHoldsSaid : Prop := feedHoldsRow.holds Tryd.pinned (OpenSpec.ofChange feedHoldsSpec)

/-- ITS FALSE NEIGHBOUR: 'it returns false'. Refute it at one input. -/
def feedHoldsWrong : ChangeSpec := { name := "feedHolds", fn := fun _ => fun
  | [d1, d2] => { results := [.lit (.bool false)], args := [d1, d2] }
  | _ => none }
def FeedHoldsWrongFalsely : Prop := feedHoldsRow.holds Tryd.pinned (OpenSpec.ofChange feedHoldsWrong)

/-- 'wharfingerlaw05.FeedOwn': WHATEVER THE INPUT: true; the input reads as it did. -/
def feedOwnSpec : ChangeSpec := { name := "feedOwn", fn := fun _ => fun
  | [d1, d2] => { results := [.lit (.bool true)], args := [d1, d2] }
  | _ => none }
def feedOwnRow : OpenClaim := { program := "ytkljeafnmcmifaadoor", sum := "a245d4b82b24f8f6b46b6064346eb220cf85b6c54cb45036dc4c89f75f536227", func := "wharfinger/wharfingerlaw05.FeedOwn", spec := "feedOwn", inPlace := ["internal/reflectlite.TypeOf", "internal/reflectlite.ValueOf", "(internal/reflectlite.Value).Type", "(internal/reflectlite.Value).IsNil", "(internal/reflectlite.Value).Elem", "(internal/reflectlite.Value).Set"], unfollowed := true, recurses := true, named := ["errors.errorType"], apart := false, laid := [("errors.errorType", laid_errors_errorType)] }
def FeedOwnSaid : Prop := feedOwnRow.holds Tryd.pinned (OpenSpec.ofChange feedOwnSpec)

/-- ITS FALSE NEIGHBOUR: 'it returns false'. Refute it at one input. -/
def feedOwnWrong : ChangeSpec := { name := "feedOwn", fn := fun _ => fun
  | [d1, d2] => { results := [.lit (.bool false)], args := [d1, d2] }
  | _ => none }
def FeedOwnWrongFalsely : Prop := feedOwnRow.holds Tryd.pinned (OpenSpec.ofChange feedOwnWrong)

/- THE SECOND FORM. 'bulk': how many values and letters a reading holds, each counted each time it is reached (what is shared counts as often as it is met; a slice's spare places count too). A statement '..UptoSaid' is the law's where the arguments, and the package variables that the reading takes, are together of bulk at most 1048576: NARROWER than '..Said'. Prove '..Said' where nothing that the law and all that it calls make is longer than what came in: it says more and counts as full. Else prove '..UptoSaid'. A law counts once. -/
mutual
def uptoBulk {H : Type} : DataW H → Nat
  | .lit (.string bytes) => bytes.length + 1
  | .lit _ => 1
  | .nil => 1
  | .ptr d => uptoBulk d + 1
  | .slice elems spare => uptoBulkAll elems + uptoBulkAll spare + 1
  | .agg parts => uptoBulkAll parts + 1
  | .iface _ d => uptoBulk d + 1
  | .map entries => uptoBulkEntries entries + 1
  | .held _ => 1
def uptoBulkAll {H : Type} : List (DataW H) → Nat
  | [] => 0
  | d :: r => uptoBulk d + uptoBulkAll r
def uptoBulkEntries {H : Type} : List (Lit × DataW H) → Nat
  | [] => 0
  | x :: r => uptoBulkEntry x + uptoBulkEntries r
def uptoBulkEntry {H : Type} : Lit × DataW H → Nat
  | (.string bytes, d) => bytes.length + uptoBulk d + 1
  | (_, d) => uptoBulk d + 1
 end
def uptoSmall : (H : Type) → List (DataW H) → Bool := fun _ ds => decide (uptoBulkAll ds ≤ 1048576)
def OpenSpec.upto (s : _root_.Go.ChangeSpec) : _root_.Go.OpenSpec := { _root_.Go.OpenSpec.ofChange s with cond := some uptoSmall }

/-- 'wharfingerlaw05.FeedSame', WHERE WHAT IT READS IS OF BULK AT MOST 1048576: true; the input reads as it did. -/
def feedSameUptoRow : OpenClaim := { program := "ytkljeafnmcmifaadoor", sum := "a245d4b82b24f8f6b46b6064346eb220cf85b6c54cb45036dc4c89f75f536227", func := "wharfinger/wharfingerlaw05.FeedSame", spec := "feedSame", inPlace := ["internal/reflectlite.TypeOf", "internal/reflectlite.ValueOf", "(internal/reflectlite.Value).Type", "(internal/reflectlite.Value).IsNil", "(internal/reflectlite.Value).Elem", "(internal/reflectlite.Value).Set"], unfollowed := true, recurses := true, named := ["errors.errorType"], apart := false, laid := [("errors.errorType", laid_errors_errorType)], narrowed := true }
def FeedSameUptoSaid : Prop := feedSameUptoRow.holds Tryd.pinned (OpenSpec.upto feedSameSpec)

/-- 'wharfingerlaw05.FeedWrong', WHERE WHAT IT READS IS OF BULK AT MOST 1048576: true; the input reads as it did. -/
def feedWrongUptoRow : OpenClaim := { program := "ytkljeafnmcmifaadoor", sum := "a245d4b82b24f8f6b46b6064346eb220cf85b6c54cb45036dc4c89f75f536227", func := "wharfinger/wharfingerlaw05.FeedWrong", spec := "feedWrong", inPlace := ["internal/reflectlite.TypeOf", "internal/reflectlite.ValueOf", "(internal/reflectlite.Value).Type", "(internal/reflectlite.Value).IsNil", "(internal/reflectlite.Value).Elem", "(internal/reflectlite.Value).Set"], unfollowed := true, recurses := true, named := ["errors.errorType"], apart := false, laid := [("errors.errorType", laid_errors_errorType)], narrowed := true }
def FeedWrongUptoSaid : Prop := feedWrongUptoRow.holds Tryd.pinned (OpenSpec.upto feedWrongSpec)

/-- 'wharfingerlaw05.FeedHolds', WHERE WHAT IT READS IS OF BULK AT MOST 1048576: true; the input reads as it did. -/
def feedHoldsUptoRow : OpenClaim := { program := "ytkljeafnmcmifaadoor", sum := "a245d4b82b24f8f6b46b6064346eb220cf85b6c54cb45036dc4c89f75f536227", func := "wharfinger/wharfingerlaw05.FeedHolds", spec := "feedHolds", inPlace := ["internal/reflectlite.TypeOf", "internal/reflectlite.ValueOf", "(internal/reflectlite.Value).Type", "(internal/reflectlite.Value).IsNil", "(internal/reflectlite.Value).Elem", "(internal/reflectlite.Value).Set"], unfollowed := true, recurses := true, named := ["errors.errorType"], apart := false, laid := [("errors.errorType", laid_errors_errorType)], narrowed := true }
def FeedHoldsUptoSaid : Prop := feedHoldsUptoRow.holds Tryd.pinned (OpenSpec.upto feedHoldsSpec)

/-- 'wharfingerlaw05.FeedOwn', WHERE WHAT IT READS IS OF BULK AT MOST 1048576: true; the input reads as it did. -/
def feedOwnUptoRow : OpenClaim := { program := "ytkljeafnmcmifaadoor", sum := "a245d4b82b24f8f6b46b6064346eb220cf85b6c54cb45036dc4c89f75f536227", func := "wharfinger/wharfingerlaw05.FeedOwn", spec := "feedOwn", inPlace := ["internal/reflectlite.TypeOf", "internal/reflectlite.ValueOf", "(internal/reflectlite.Value).Type", "(internal/reflectlite.Value).IsNil", "(internal/reflectlite.Value).Elem", "(internal/reflectlite.Value).Set"], unfollowed := true, recurses := true, named := ["errors.errorType"], apart := false, laid := [("errors.errorType", laid_errors_errorType)], narrowed := true }
def FeedOwnUptoSaid : Prop := feedOwnUptoRow.holds Tryd.pinned (OpenSpec.upto feedOwnSpec)

end Rows
end Go.Proofs.YtkljeafnmcmifaaDoor
