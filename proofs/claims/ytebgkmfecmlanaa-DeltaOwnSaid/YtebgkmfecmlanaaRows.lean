/-
  No cell of these rows narrows 'for every input' (looked for: loops, veiled, ifaces, maps, wideKeys, modest, calm, conditions, laid).
  DERIVED. THE GIVEN ROWS OF THIS SEAT. 7 by the template 'for every input the law returns true; each argument reads behind the call as it read before'; 0 by the template 'total and deterministic' (their statements: YtebgkmfecmlanaaTotals.lean).
  GIVEN WITH THE SEED: the statements are not yours to turn. If you find one false, say at which input.
  Laid BY PROGRAM, IN A SANDBOX (cutbox-rows.mjs): the forced cells as the released guide's own fill.sh prints them over the translation 064be8e776ecd22d… (all of the seat's roots in one cut). By AI agents, Wed Nov 11 2026. No macro, syntax, notation, axiom, sorry.
-/
import Derived.Test.YtebgkmfecmlanaaChecked
import GoSem.Claim
import GoSem.ClaimJoined
import GoSem.ClaimMapViews
import Derived.JoinedTies
import Derived.KernelRfl
namespace Go.Proofs.Ytebgkmfecmlanaa
/- THE CELL 'sum', in the pinned program and in every row, IS THE sha256 OF THE DUMP (.gsa) THAT YtebgkmfecmlanaaProg.lean LOADS. Nothing in Lean hashes anything: it is a label: what it is worth is what the hold of that sum in a sandbox is worth. -/
noncomputable def Try.pinned : Pinned := { name := "ytebgkmfecmlanaa", sum := "064be8e776ecd22dc5c88dad563779398497be40284f487a399e2f895703ad4c", checked := Try.checked }
namespace Rows
def none {H : Type} : Left H := { results := [], args := [] }

/-- 'wharfingerlaw07.DeltaMakes': WHATEVER THE INPUT: true; the input reads as it did. -/
def deltaMakesSpec : ChangeSpec := { name := "deltaMakes", fn := fun _ => fun
  | [d1, d2, d3] => { results := [.lit (.bool true)], args := [d1, d2, d3] }
  | _ => none }
def deltaMakesRow : OpenClaim := { program := "ytebgkmfecmlanaa", sum := "064be8e776ecd22dc5c88dad563779398497be40284f487a399e2f895703ad4c", func := "wharfinger/wharfingerlaw07.DeltaMakes", spec := "deltaMakes", apart := false }
def DeltaMakesSaid : Prop := deltaMakesRow.holds Try.pinned (OpenSpec.ofChange deltaMakesSpec)

/-- ITS FALSE NEIGHBOUR: 'it returns false'. Refute it at one input. -/
def deltaMakesWrong : ChangeSpec := { name := "deltaMakes", fn := fun _ => fun
  | [d1, d2, d3] => { results := [.lit (.bool false)], args := [d1, d2, d3] }
  | _ => none }
def DeltaMakesWrongFalsely : Prop := deltaMakesRow.holds Try.pinned (OpenSpec.ofChange deltaMakesWrong)

/-- 'wharfingerlaw07.DeltaRaw': WHATEVER THE INPUT: true; the input reads as it did. -/
def deltaRawSpec : ChangeSpec := { name := "deltaRaw", fn := fun _ => fun
  | [d1, d2] => { results := [.lit (.bool true)], args := [d1, d2] }
  | _ => none }
def deltaRawRow : OpenClaim := { program := "ytebgkmfecmlanaa", sum := "064be8e776ecd22dc5c88dad563779398497be40284f487a399e2f895703ad4c", func := "wharfinger/wharfingerlaw07.DeltaRaw", spec := "deltaRaw", apart := false }
def DeltaRawSaid : Prop := deltaRawRow.holds Try.pinned (OpenSpec.ofChange deltaRawSpec)

/-- ITS FALSE NEIGHBOUR: 'it returns false'. Refute it at one input. -/
def deltaRawWrong : ChangeSpec := { name := "deltaRaw", fn := fun _ => fun
  | [d1, d2] => { results := [.lit (.bool false)], args := [d1, d2] }
  | _ => none }
def DeltaRawWrongFalsely : Prop := deltaRawRow.holds Try.pinned (OpenSpec.ofChange deltaRawWrong)

/-- 'wharfingerlaw07.DeltaJoined': WHATEVER THE INPUT: true; the input reads as it did. -/
def deltaJoinedSpec : ChangeSpec := { name := "deltaJoined", fn := fun _ => fun
  | [d1, d2, d3] => { results := [.lit (.bool true)], args := [d1, d2, d3] }
  | _ => none }
def deltaJoinedRow : OpenClaim := { program := "ytebgkmfecmlanaa", sum := "064be8e776ecd22dc5c88dad563779398497be40284f487a399e2f895703ad4c", func := "wharfinger/wharfingerlaw07.DeltaJoined", spec := "deltaJoined", apart := false }
def DeltaJoinedSaid : Prop := deltaJoinedRow.holds Try.pinned (OpenSpec.ofChange deltaJoinedSpec)

/-- ITS FALSE NEIGHBOUR: 'it returns false'. Refute it at one input. -/
def deltaJoinedWrong : ChangeSpec := { name := "deltaJoined", fn := fun _ => fun
  | [d1, d2, d3] => { results := [.lit (.bool false)], args := [d1, d2, d3] }
  | _ => none }
def DeltaJoinedWrongFalsely : Prop := deltaJoinedRow.holds Try.pinned (OpenSpec.ofChange deltaJoinedWrong)

/-- 'wharfingerlaw07.DeltaFinds': WHATEVER THE INPUT: true; the input reads as it did. -/
def deltaFindsSpec : ChangeSpec := { name := "deltaFinds", fn := fun _ => fun
  | [d1, d2, d3] => { results := [.lit (.bool true)], args := [d1, d2, d3] }
  | _ => none }
def deltaFindsRow : OpenClaim := { program := "ytebgkmfecmlanaa", sum := "064be8e776ecd22dc5c88dad563779398497be40284f487a399e2f895703ad4c", func := "wharfinger/wharfingerlaw07.DeltaFinds", spec := "deltaFinds", apart := false }
def DeltaFindsSaid : Prop := deltaFindsRow.holds Try.pinned (OpenSpec.ofChange deltaFindsSpec)

/-- ITS FALSE NEIGHBOUR: 'it returns false'. Refute it at one input. -/
def deltaFindsWrong : ChangeSpec := { name := "deltaFinds", fn := fun _ => fun
  | [d1, d2, d3] => { results := [.lit (.bool false)], args := [d1, d2, d3] }
  | _ => none }
def DeltaFindsWrongFalsely : Prop := deltaFindsRow.holds Try.pinned (OpenSpec.ofChange deltaFindsWrong)

/-- 'wharfingerlaw07.DeltaWhole': WHATEVER THE INPUT: true; the input reads as it did. -/
def deltaWholeSpec : ChangeSpec := { name := "deltaWhole", fn := fun _ => fun
  | [d] => { results := [.lit (.bool true)], args := [d] }
  | _ => none }
def deltaWholeRow : OpenClaim := { program := "ytebgkmfecmlanaa", sum := "064be8e776ecd22dc5c88dad563779398497be40284f487a399e2f895703ad4c", func := "wharfinger/wharfingerlaw07.DeltaWhole", spec := "deltaWhole", apart := false }
def DeltaWholeSaid : Prop := deltaWholeRow.holds Try.pinned (OpenSpec.ofChange deltaWholeSpec)

/-- ITS FALSE NEIGHBOUR: 'it returns false'. Refute it at one input. -/
def deltaWholeWrong : ChangeSpec := { name := "deltaWhole", fn := fun _ => fun
  | [d] => { results := [.lit (.bool false)], args := [d] }
  | _ => none }
def DeltaWholeWrongFalsely : Prop := deltaWholeRow.holds Try.pinned (OpenSpec.ofChange deltaWholeWrong)

/-- 'wharfingerlaw07.DeltaBytes': WHATEVER THE INPUT: true; the input reads as it did. -/
def deltaBytesSpec : ChangeSpec := { name := "deltaBytes", fn := fun _ => fun
  | [d] => { results := [.lit (.bool true)], args := [d] }
  | _ => none }
def deltaBytesRow : OpenClaim := { program := "ytebgkmfecmlanaa", sum := "064be8e776ecd22dc5c88dad563779398497be40284f487a399e2f895703ad4c", func := "wharfinger/wharfingerlaw07.DeltaBytes", spec := "deltaBytes", apart := false }
def DeltaBytesSaid : Prop := deltaBytesRow.holds Try.pinned (OpenSpec.ofChange deltaBytesSpec)

/-- ITS FALSE NEIGHBOUR: 'it returns false'. Refute it at one input. -/
def deltaBytesWrong : ChangeSpec := { name := "deltaBytes", fn := fun _ => fun
  | [d] => { results := [.lit (.bool false)], args := [d] }
  | _ => none }
def DeltaBytesWrongFalsely : Prop := deltaBytesRow.holds Try.pinned (OpenSpec.ofChange deltaBytesWrong)

/-- 'wharfingerlaw07.DeltaOwn': WHATEVER THE INPUT: true; the input reads as it did. -/
def deltaOwnSpec : ChangeSpec := { name := "deltaOwn", fn := fun _ => fun
  | [d] => { results := [.lit (.bool true)], args := [d] }
  | _ => none }
def deltaOwnRow : OpenClaim := { program := "ytebgkmfecmlanaa", sum := "064be8e776ecd22dc5c88dad563779398497be40284f487a399e2f895703ad4c", func := "wharfinger/wharfingerlaw07.DeltaOwn", spec := "deltaOwn", apart := false }
def DeltaOwnSaid : Prop := deltaOwnRow.holds Try.pinned (OpenSpec.ofChange deltaOwnSpec)

/-- ITS FALSE NEIGHBOUR: 'it returns false'. Refute it at one input. -/
def deltaOwnWrong : ChangeSpec := { name := "deltaOwn", fn := fun _ => fun
  | [d] => { results := [.lit (.bool false)], args := [d] }
  | _ => none }
def DeltaOwnWrongFalsely : Prop := deltaOwnRow.holds Try.pinned (OpenSpec.ofChange deltaOwnWrong)

/- THE SECOND FORM. 'bulk': how many values and letters a reading holds, each counted each time it is reached (what is shared counts as often as it is met; a slice's spare places count too). A statement '..UptoSaid' is the law's where the arguments, and the package variables that the reading takes, are together of bulk at most 1048576: NARROWER than '..Said'. Prove '..Said' where nothing that the law and all that it calls make is longer than what came in: it says more and counts as full. Else prove '..UptoSaid'. A law counts once. -/
mutual
def uptoBulk {H : Type} : DataW H → Nat
  | .lit (.string bytes) => bytes.length + 1
  | .lit _ => 1
  | .nil => 1
  | .ptr d => uptoBulk d + 1
  | .slice elems spare => uptoBulkAll elems + uptoBulkAll spare + 1
  | .agg parts => uptoBulkAll parts + 1
  | .iface _ d => uptoBulk d + 1
  | .map entries => uptoBulkEntries entries + 1
  | .held _ => 1
def uptoBulkAll {H : Type} : List (DataW H) → Nat
  | [] => 0
  | d :: r => uptoBulk d + uptoBulkAll r
def uptoBulkEntries {H : Type} : List (Lit × DataW H) → Nat
  | [] => 0
  | x :: r => uptoBulkEntry x + uptoBulkEntries r
def uptoBulkEntry {H : Type} : Lit × DataW H → Nat
  | (.string bytes, d) => bytes.length + uptoBulk d + 1
  | (_, d) => uptoBulk d + 1
 end
def uptoSmall : (H : Type) → List (DataW H) → Bool := fun _ ds => decide (uptoBulkAll ds ≤ 1048576)
def OpenSpec.upto (s : _root_.Go.ChangeSpec) : _root_.Go.OpenSpec := { _root_.Go.OpenSpec.ofChange s with cond := some uptoSmall }

/-- 'wharfingerlaw07.DeltaMakes', WHERE WHAT IT READS IS OF BULK AT MOST 1048576: true; the input reads as it did. -/
def deltaMakesUptoRow : OpenClaim := { program := "ytebgkmfecmlanaa", sum := "064be8e776ecd22dc5c88dad563779398497be40284f487a399e2f895703ad4c", func := "wharfinger/wharfingerlaw07.DeltaMakes", spec := "deltaMakes", apart := false, narrowed := true }
def DeltaMakesUptoSaid : Prop := deltaMakesUptoRow.holds Try.pinned (OpenSpec.upto deltaMakesSpec)

/-- 'wharfingerlaw07.DeltaRaw', WHERE WHAT IT READS IS OF BULK AT MOST 1048576: true; the input reads as it did. -/
def deltaRawUptoRow : OpenClaim := { program := "ytebgkmfecmlanaa", sum := "064be8e776ecd22dc5c88dad563779398497be40284f487a399e2f895703ad4c", func := "wharfinger/wharfingerlaw07.DeltaRaw", spec := "deltaRaw", apart := false, narrowed := true }
def DeltaRawUptoSaid : Prop := deltaRawUptoRow.holds Try.pinned (OpenSpec.upto deltaRawSpec)

/-- 'wharfingerlaw07.DeltaJoined', WHERE WHAT IT READS IS OF BULK AT MOST 1048576: true; the input reads as it did. -/
def deltaJoinedUptoRow : OpenClaim := { program := "ytebgkmfecmlanaa", sum := "064be8e776ecd22dc5c88dad563779398497be40284f487a399e2f895703ad4c", func := "wharfinger/wharfingerlaw07.DeltaJoined", spec := "deltaJoined", apart := false, narrowed := true }
def DeltaJoinedUptoSaid : Prop := deltaJoinedUptoRow.holds Try.pinned (OpenSpec.upto deltaJoinedSpec)

/-- 'wharfingerlaw07.DeltaFinds', WHERE WHAT IT READS IS OF BULK AT MOST 1048576: true; the input reads as it did. -/
def deltaFindsUptoRow : OpenClaim := { program := "ytebgkmfecmlanaa", sum := "064be8e776ecd22dc5c88dad563779398497be40284f487a399e2f895703ad4c", func := "wharfinger/wharfingerlaw07.DeltaFinds", spec := "deltaFinds", apart := false, narrowed := true }
def DeltaFindsUptoSaid : Prop := deltaFindsUptoRow.holds Try.pinned (OpenSpec.upto deltaFindsSpec)

/-- 'wharfingerlaw07.DeltaWhole', WHERE WHAT IT READS IS OF BULK AT MOST 1048576: true; the input reads as it did. -/
def deltaWholeUptoRow : OpenClaim := { program := "ytebgkmfecmlanaa", sum := "064be8e776ecd22dc5c88dad563779398497be40284f487a399e2f895703ad4c", func := "wharfinger/wharfingerlaw07.DeltaWhole", spec := "deltaWhole", apart := false, narrowed := true }
def DeltaWholeUptoSaid : Prop := deltaWholeUptoRow.holds Try.pinned (OpenSpec.upto deltaWholeSpec)

/-- 'wharfingerlaw07.DeltaBytes', WHERE WHAT IT READS IS OF BULK AT MOST 1048576: true; the input reads as it did. -/
def deltaBytesUptoRow : OpenClaim := { program := "ytebgkmfecmlanaa", sum := "064be8e776ecd22dc5c88dad563779398497be40284f487a399e2f895703ad4c", func := "wharfinger/wharfingerlaw07.DeltaBytes", spec := "deltaBytes", apart := false, narrowed := true }
def DeltaBytesUptoSaid : Prop := deltaBytesUptoRow.holds Try.pinned (OpenSpec.upto deltaBytesSpec)

/-- 'wharfingerlaw07.DeltaOwn', WHERE WHAT IT READS IS OF BULK AT MOST 1048576: true; the input reads as it did. -/
def deltaOwnUptoRow : OpenClaim := { program := "ytebgkmfecmlanaa", sum := "064be8e776ecd22dc5c88dad563779398497be40284f487a399e2f895703ad4c", func := "wharfinger/wharfingerlaw07.DeltaOwn", spec := "deltaOwn", apart := false, narrowed := true }
def DeltaOwnUptoSaid : Prop := deltaOwnUptoRow.holds Try.pinned (OpenSpec.upto deltaOwnSpec)

end Rows
end Go.Proofs.Ytebgkmfecmlanaa
