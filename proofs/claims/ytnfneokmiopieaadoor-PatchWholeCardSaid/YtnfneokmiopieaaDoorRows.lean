/-
  NARROWER THAN 'FOR EVERY INPUT', by the rows' own cells (each row's printed sentence says how): PatchJoins: laid · PatchApplies: laid · PatchLong: laid · PatchJoined: laid · PatchWhole: laid.
  DERIVED. THE GIVEN ROWS OF THIS SEAT. 5 by the template 'for every input the law returns true; each argument reads behind the call as it read before'; 0 by the template 'total and deterministic' (their statements: YtnfneokmiopieaaDoorTotals.lean).
  GIVEN WITH THE SEED: the statements are not yours to turn. If you find one false, say at which input.
  Laid BY PROGRAM, IN A SANDBOX (cutbox-rows.mjs): the forced cells as the released guide's own fill.sh prints them over the translation 11cd3eb7ae3891b5… (all of the seat's roots in one cut). By AI agents, Wed Nov 11 2026. No macro, syntax, notation, axiom, sorry.
-/
import Derived.Test.YtnfneokmiopieaaDoorChecked
import GoSem.Claim
import GoSem.ClaimJoined
import GoSem.ClaimMapViews
import Derived.JoinedTies
import Derived.KernelRfl
namespace Go.Proofs.YtnfneokmiopieaaDoor
/- THE CELL 'sum', in the pinned program and in every row, IS THE sha256 OF THE DUMP (.gsa) THAT YtnfneokmiopieaaDoorProg.lean LOADS. Nothing in Lean hashes anything: it is a label: what it is worth is what the hold of that sum in a sandbox is worth. -/
noncomputable def Tryd.pinned : Pinned := { name := "ytnfneokmiopieaadoor", sum := "11cd3eb7ae3891b5dd19381e4d91565a844615bd62539f9fc927c0d7e98c9d33", checked := Tryd.checked }
namespace Rows
def none {H : Type} : Left H := { results := [], args := [] }

/- WHAT THE LISTED PACKAGE-LEVEL VARIABLES READ AS WHEN THE CALL BEGINS. Each datum BY PROGRAM (the guide's laid-datum.mjs) off the statement by which the dump's own 'gosem.cut.vars' lays the variable. In a bare row this is a premise. The card (YtnfneokmiopieaaDoorCards.lean) ties it to the program's text. -/
def laid_errors_errorType {H : Type} : DataW H := .iface "internal/reflectlite.rtype" (.agg [.ptr (.lit (.string [101, 114, 114, 111, 114]))])

/-- 'wharfingerlaw08.PatchJoins': WHATEVER THE INPUT: true; the input reads as it did. -/
def patchJoinsSpec : ChangeSpec := { name := "patchJoins", fn := fun _ => fun
  | [d1, d2, d3] => { results := [.lit (.bool true)], args := [d1, d2, d3] }
  | _ => none }
def patchJoinsRow : OpenClaim := { program := "ytnfneokmiopieaadoor", sum := "11cd3eb7ae3891b5dd19381e4d91565a844615bd62539f9fc927c0d7e98c9d33", func := "wharfinger/wharfingerlaw08.PatchJoins", spec := "patchJoins", inPlace := ["internal/reflectlite.ValueOf", "(internal/reflectlite.Value).Type", "(internal/reflectlite.Value).IsNil", "internal/reflectlite.TypeOf", "(internal/reflectlite.Value).Elem", "(internal/reflectlite.Value).Set"], unfollowed := true, recurses := true, named := ["errors.errorType"], apart := false, laid := [("errors.errorType", laid_errors_errorType)] }
def PatchJoinsSaid : Prop := patchJoinsRow.holds Tryd.pinned (OpenSpec.ofChange patchJoinsSpec)

/-- ITS FALSE NEIGHBOUR: 'it returns false'. Refute it at one input. -/
def patchJoinsWrong : ChangeSpec := { name := "patchJoins", fn := fun _ => fun
  | [d1, d2, d3] => { results := [.lit (.bool false)], args := [d1, d2, d3] }
  | _ => none }
def PatchJoinsWrongFalsely : Prop := patchJoinsRow.holds Tryd.pinned (OpenSpec.ofChange patchJoinsWrong)

/-- 'wharfingerlaw08.PatchApplies': WHATEVER THE INPUT: true; the input reads as it did. -/
def patchAppliesSpec : ChangeSpec := { name := "patchApplies", fn := fun _ => fun
  | [d1, d2, d3] => { results := [.lit (.bool true)], args := [d1, d2, d3] }
  | _ => none }
def patchAppliesRow : OpenClaim := { program := "ytnfneokmiopieaadoor", sum := "11cd3eb7ae3891b5dd19381e4d91565a844615bd62539f9fc927c0d7e98c9d33", func := "wharfinger/wharfingerlaw08.PatchApplies", spec := "patchApplies", inPlace := ["internal/reflectlite.ValueOf", "(internal/reflectlite.Value).Type", "(internal/reflectlite.Value).IsNil", "internal/reflectlite.TypeOf", "(internal/reflectlite.Value).Elem", "(internal/reflectlite.Value).Set"], unfollowed := true, recurses := true, named := ["errors.errorType"], apart := false, laid := [("errors.errorType", laid_errors_errorType)] }
def PatchAppliesSaid : Prop := patchAppliesRow.holds Tryd.pinned (OpenSpec.ofChange patchAppliesSpec)

/-- ITS FALSE NEIGHBOUR: 'it returns false'. Refute it at one input. -/
def patchAppliesWrong : ChangeSpec := { name := "patchApplies", fn := fun _ => fun
  | [d1, d2, d3] => { results := [.lit (.bool false)], args := [d1, d2, d3] }
  | _ => none }
def PatchAppliesWrongFalsely : Prop := patchAppliesRow.holds Tryd.pinned (OpenSpec.ofChange patchAppliesWrong)

/-- 'wharfingerlaw08.PatchLong': WHATEVER THE INPUT: true; the input reads as it did. -/
def patchLongSpec : ChangeSpec := { name := "patchLong", fn := fun _ => fun
  | [d] => { results := [.lit (.bool true)], args := [d] }
  | _ => none }
def patchLongRow : OpenClaim := { program := "ytnfneokmiopieaadoor", sum := "11cd3eb7ae3891b5dd19381e4d91565a844615bd62539f9fc927c0d7e98c9d33", func := "wharfinger/wharfingerlaw08.PatchLong", spec := "patchLong", inPlace := ["internal/reflectlite.ValueOf", "(internal/reflectlite.Value).Type", "(internal/reflectlite.Value).IsNil", "internal/reflectlite.TypeOf", "(internal/reflectlite.Value).Elem", "(internal/reflectlite.Value).Set"], unfollowed := true, recurses := true, named := ["errors.errorType"], apart := false, laid := [("errors.errorType", laid_errors_errorType)] }
def PatchLongSaid : Prop := patchLongRow.holds Tryd.pinned (OpenSpec.ofChange patchLongSpec)

/-- ITS FALSE NEIGHBOUR: 'it returns false'. Refute it at one input. -/
def patchLongWrong : ChangeSpec := { name := "patchLong", fn := fun _ => fun
  | [d] => { results := [.lit (.bool false)], args := [d] }
  | _ => none }
def PatchLongWrongFalsely : Prop := patchLongRow.holds Tryd.pinned (OpenSpec.ofChange patchLongWrong)

/-- 'wharfingerlaw08.PatchJoined': WHATEVER THE INPUT: true; the input reads as it did. -/
def patchJoinedSpec : ChangeSpec := { name := "patchJoined", fn := fun _ => fun
  | [d1, d2, d3] => { results := [.lit (.bool true)], args := [d1, d2, d3] }
  | _ => none }
def patchJoinedRow : OpenClaim := { program := "ytnfneokmiopieaadoor", sum := "11cd3eb7ae3891b5dd19381e4d91565a844615bd62539f9fc927c0d7e98c9d33", func := "wharfinger/wharfingerlaw08.PatchJoined", spec := "patchJoined", inPlace := ["internal/reflectlite.ValueOf", "(internal/reflectlite.Value).Type", "(internal/reflectlite.Value).IsNil", "internal/reflectlite.TypeOf", "(internal/reflectlite.Value).Elem", "(internal/reflectlite.Value).Set"], unfollowed := true, recurses := true, named := ["errors.errorType"], apart := false, laid := [("errors.errorType", laid_errors_errorType)] }
def PatchJoinedSaid : Prop := patchJoinedRow.holds Tryd.pinned (OpenSpec.ofChange patchJoinedSpec)

/-- ITS FALSE NEIGHBOUR: 'it returns false'. Refute it at one input. -/
def patchJoinedWrong : ChangeSpec := { name := "patchJoined", fn := fun _ => fun
  | [d1, d2, d3] => { results := [.lit (.bool false)], args := [d1, d2, d3] }
  | _ => none }
def PatchJoinedWrongFalsely : Prop := patchJoinedRow.holds Tryd.pinned (OpenSpec.ofChange patchJoinedWrong)

/-- 'wharfingerlaw08.PatchWhole': WHATEVER THE INPUT: true; the input reads as it did. -/
def patchWholeSpec : ChangeSpec := { name := "patchWhole", fn := fun _ => fun
  | [d1, d2, d3] => { results := [.lit (.bool true)], args := [d1, d2, d3] }
  | _ => none }
def patchWholeRow : OpenClaim := { program := "ytnfneokmiopieaadoor", sum := "11cd3eb7ae3891b5dd19381e4d91565a844615bd62539f9fc927c0d7e98c9d33", func := "wharfinger/wharfingerlaw08.PatchWhole", spec := "patchWhole", inPlace := ["internal/reflectlite.ValueOf", "(internal/reflectlite.Value).Type", "(internal/reflectlite.Value).IsNil", "internal/reflectlite.TypeOf", "(internal/reflectlite.Value).Elem", "(internal/reflectlite.Value).Set"], unfollowed := true, recurses := true, named := ["errors.errorType"], apart := false, laid := [("errors.errorType", laid_errors_errorType)] }
def PatchWholeSaid : Prop := patchWholeRow.holds Tryd.pinned (OpenSpec.ofChange patchWholeSpec)

/-- ITS FALSE NEIGHBOUR: 'it returns false'. Refute it at one input. -/
def patchWholeWrong : ChangeSpec := { name := "patchWhole", fn := fun _ => fun
  | [d1, d2, d3] => { results := [.lit (.bool false)], args := [d1, d2, d3] }
  | _ => none }
def PatchWholeWrongFalsely : Prop := patchWholeRow.holds Tryd.pinned (OpenSpec.ofChange patchWholeWrong)

/- THE SECOND FORM. 'bulk': how many values and letters a reading holds, each counted each time it is reached (what is shared counts as often as it is met; a slice's spare places count too). A statement '..UptoSaid' is the law's where the arguments, and the package variables that the reading takes, are together of bulk at most 1048576: NARROWER than '..Said'. Prove '..Said' where nothing that the law and all that it calls make is longer than what came in: it says more and counts as full. Else prove '..UptoSaid'. A law counts once. -/
mutual
def uptoBulk {H : Type} : DataW H → Nat
  | .lit (.string bytes) => bytes.length + 1
  | .lit _ => 1
  | .nil => 1
  | .ptr d => uptoBulk d + 1
  | .slice elems spare => uptoBulkAll elems + uptoBulkAll spare + 1
  | .agg parts => uptoBulkAll parts + 1
  | .iface _ d => uptoBulk d + 1
  | .map entries => uptoBulkEntries entries + 1
  | .held _ => 1
def uptoBulkAll {H : Type} : List (DataW H) → Nat
  | [] => 0
  | d :: r => uptoBulk d + uptoBulkAll r
def uptoBulkEntries {H : Type} : List (Lit × DataW H) → Nat
  | [] => 0
  | x :: r => uptoBulkEntry x + uptoBulkEntries r
def uptoBulkEntry {H : Type} : Lit × DataW H → Nat
  | (.string bytes, d) => bytes.length + uptoBulk d + 1
  | (_, d) => uptoBulk d + 1
 end
def uptoSmall : (H : Type) → List (DataW H) → Bool := fun _ ds => decide (uptoBulkAll ds ≤ 1048576)
def OpenSpec.upto (s : _root_.Go.ChangeSpec) : _root_.Go.OpenSpec := { _root_.Go.OpenSpec.ofChange s with cond := some uptoSmall }

/-- 'wharfingerlaw08.PatchJoins', WHERE WHAT IT READS IS OF BULK AT MOST 1048576: true; the input reads as it did. -/
def patchJoinsUptoRow : OpenClaim := { program := "ytnfneokmiopieaadoor", sum := "11cd3eb7ae3891b5dd19381e4d91565a844615bd62539f9fc927c0d7e98c9d33", func := "wharfinger/wharfingerlaw08.PatchJoins", spec := "patchJoins", inPlace := ["internal/reflectlite.ValueOf", "(internal/reflectlite.Value).Type", "(internal/reflectlite.Value).IsNil", "internal/reflectlite.TypeOf", "(internal/reflectlite.Value).Elem", "(internal/reflectlite.Value).Set"], unfollowed := true, recurses := true, named := ["errors.errorType"], apart := false, laid := [("errors.errorType", laid_errors_errorType)], narrowed := true }
def PatchJoinsUptoSaid : Prop := patchJoinsUptoRow.holds Tryd.pinned (OpenSpec.upto patchJoinsSpec)

/-- 'wharfingerlaw08.PatchApplies', WHERE WHAT IT READS IS OF BULK AT MOST 1048576: true; the input reads as it did. -/
def patchAppliesUptoRow : OpenClaim := { program := "ytnfneokmiopieaadoor", sum := "11cd3eb7ae3891b5dd19381e4d91565a844615bd62539f9fc927c0d7e98c9d33", func := "wharfinger/wharfingerlaw08.PatchApplies", spec := "patchApplies", inPlace := ["internal/reflectlite.ValueOf", "(internal/reflectlite.Value).Type", "(internal/reflectlite.Value).IsNil", "internal/reflectlite.TypeOf", "(internal/reflectlite.Value).Elem", "(internal/reflectlite.Value).Set"], unfollowed := true, recurses := true, named := ["errors.errorType"], apart := false, laid := [("errors.errorType", laid_errors_errorType)], narrowed := true }
def PatchAppliesUptoSaid : Prop := patchAppliesUptoRow.holds Tryd.pinned (OpenSpec.upto patchAppliesSpec)

/-- 'wharfingerlaw08.PatchLong', WHERE WHAT IT READS IS OF BULK AT MOST 1048576: true; the input reads as it did. -/
def patchLongUptoRow : OpenClaim := { program := "ytnfneokmiopieaadoor", sum := "11cd3eb7ae3891b5dd19381e4d91565a844615bd62539f9fc927c0d7e98c9d33", func := "wharfinger/wharfingerlaw08.PatchLong", spec := "patchLong", inPlace := ["internal/reflectlite.ValueOf", "(internal/reflectlite.Value).Type", "(internal/reflectlite.Value).IsNil", "internal/reflectlite.TypeOf", "(internal/reflectlite.Value).Elem", "(internal/reflectlite.Value).Set"], unfollowed := true, recurses := true, named := ["errors.errorType"], apart := false, laid := [("errors.errorType", laid_errors_errorType)], narrowed := true }
def PatchLongUptoSaid : Prop := patchLongUptoRow.holds Tryd.pinned (OpenSpec.upto patchLongSpec)

/-- 'wharfingerlaw08.PatchJoined', WHERE WHAT IT READS IS OF BULK AT MOST 1048576: true; the input reads as it did. -/
def patchJoinedUptoRow : OpenClaim := { program := "ytnfneokmiopieaadoor", sum := "11cd3eb7ae3891b5dd19381e4d91565a844615bd62539f9fc927c0d7e98c9d33", func := "wharfinger/wharfingerlaw08.PatchJoined", spec := "patchJoined", inPlace := ["internal/reflectlite.ValueOf", "(internal/reflectlite.Value).Type", "(internal/reflectlite.Value).IsNil", "internal/reflectlite.TypeOf", "(internal/reflectlite.Value).Elem", "(internal/reflectlite.Value).Set"], unfollowed := true, recurses := true, named := ["errors.errorType"], apart := false, laid := [("errors.errorType", laid_errors_errorType)], narrowed := true }
def PatchJoinedUptoSaid : Prop := patchJoinedUptoRow.holds Tryd.pinned (OpenSpec.upto patchJoinedSpec)

/-- 'wharfingerlaw08.PatchWhole', WHERE WHAT IT READS IS OF BULK AT MOST 1048576: true; the input reads as it did. -/
def patchWholeUptoRow : OpenClaim := { program := "ytnfneokmiopieaadoor", sum := "11cd3eb7ae3891b5dd19381e4d91565a844615bd62539f9fc927c0d7e98c9d33", func := "wharfinger/wharfingerlaw08.PatchWhole", spec := "patchWhole", inPlace := ["internal/reflectlite.ValueOf", "(internal/reflectlite.Value).Type", "(internal/reflectlite.Value).IsNil", "internal/reflectlite.TypeOf", "(internal/reflectlite.Value).Elem", "(internal/reflectlite.Value).Set"], unfollowed := true, recurses := true, named := ["errors.errorType"], apart := false, laid := [("errors.errorType", laid_errors_errorType)], narrowed := true }
def PatchWholeUptoSaid : Prop := patchWholeUptoRow.holds Tryd.pinned (OpenSpec.upto patchWholeSpec)

end Rows
end Go.Proofs.YtnfneokmiopieaaDoor
