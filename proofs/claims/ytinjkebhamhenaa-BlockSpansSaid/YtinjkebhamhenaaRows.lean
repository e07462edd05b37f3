/-
  No cell of these rows narrows 'for every input' (looked for: loops, veiled, ifaces, maps, wideKeys, modest, calm, conditions, laid).
  DERIVED. THE GIVEN ROWS OF THIS SEAT. 6 by the template 'for every input the law returns true; each argument reads behind the call as it read before'; 0 by the template 'total and deterministic' (their statements: YtinjkebhamhenaaTotals.lean).
  GIVEN WITH THE SEED: the statements are not yours to turn. If you find one false, say at which input.
  Laid BY PROGRAM, IN A SANDBOX (cutbox-rows.mjs): the forced cells as the released guide's own fill.sh prints them over the translation 96e9de57c77eea04… (all of the seat's roots in one cut). By AI agents, Wed Nov 11 2026. No macro, syntax, notation, axiom, sorry.
-/
import Derived.Test.YtinjkebhamhenaaChecked
import GoSem.Claim
import GoSem.ClaimJoined
import GoSem.ClaimMapViews
import Derived.JoinedTies
import Derived.KernelRfl
namespace Go.Proofs.Ytinjkebhamhenaa
/- THE CELL 'sum', in the pinned program and in every row, IS THE sha256 OF THE DUMP (.gsa) THAT YtinjkebhamhenaaProg.lean LOADS. Nothing in Lean hashes anything: it is a label: what it is worth is what the hold of that sum in a sandbox is worth. -/
noncomputable def Try.pinned : Pinned := { name := "ytinjkebhamhenaa", sum := "96e9de57c77eea04174e8667458e440d7476823996f76d3c023f2a6fc33d5a32", checked := Try.checked }
namespace Rows
def none {H : Type} : Left H := { results := [], args := [] }

/-- 'wharfingerlaw06.BlockMakes': WHATEVER THE INPUT: true; the input reads as it did. -/
def blockMakesSpec : ChangeSpec := { name := "blockMakes", fn := fun _ => fun
  | [d1, d2, d3] => { results := [.lit (.bool true)], args := [d1, d2, d3] }
  | _ => none }
def blockMakesRow : OpenClaim := { program := "ytinjkebhamhenaa", sum := "96e9de57c77eea04174e8667458e440d7476823996f76d3c023f2a6fc33d5a32", func := "wharfinger/wharfingerlaw06.BlockMakes", spec := "blockMakes", apart := false }
def BlockMakesSaid : Prop := blockMakesRow.holds Try.pinned (OpenSpec.ofChange blockMakesSpec)

/-- ITS FALSE NEIGHBOUR: 'it returns false'. Refute it at one input. -/
def blockMakesWrong : ChangeSpec := { name := "blockMakes", fn := fun _ => fun
  | [d1, d2, d3] => { results := [.lit (.bool false)], args := [d1, d2, d3] }
  | _ => none }
def BlockMakesWrongFalsely : Prop := blockMakesRow.holds Try.pinned (OpenSpec.ofChange blockMakesWrong)

/-- 'wharfingerlaw06.BlockFinds': WHATEVER THE INPUT: true; the input reads as it did. -/
def blockFindsSpec : ChangeSpec := { name := "blockFinds", fn := fun _ => fun
  | [d1, d2, d3] => { results := [.lit (.bool true)], args := [d1, d2, d3] }
  | _ => none }
def blockFindsRow : OpenClaim := { program := "ytinjkebhamhenaa", sum := "96e9de57c77eea04174e8667458e440d7476823996f76d3c023f2a6fc33d5a32", func := "wharfinger/wharfingerlaw06.BlockFinds", spec := "blockFinds", apart := false }
def BlockFindsSaid : Prop := blockFindsRow.holds Try.pinned (OpenSpec.ofChange blockFindsSpec)

/-- ITS FALSE NEIGHBOUR: 'it returns false'. Refute it at one input. -/
def blockFindsWrong : ChangeSpec := { name := "blockFinds", fn := fun _ => fun
  | [d1, d2, d3] => { results := [.lit (.bool false)], args := [d1, d2, d3] }
  | _ => none }
def BlockFindsWrongFalsely : Prop := blockFindsRow.holds Try.pinned (OpenSpec.ofChange blockFindsWrong)

/-- 'wharfingerlaw06.BlockSpans': WHATEVER THE INPUT: true; the input reads as it did. -/
def blockSpansSpec : ChangeSpec := { name := "blockSpans", fn := fun _ => fun
  | [d1, d2, d3] => { results := [.lit (.bool true)], args := [d1, d2, d3] }
  | _ => none }
def blockSpansRow : OpenClaim := { program := "ytinjkebhamhenaa", sum := "96e9de57c77eea04174e8667458e440d7476823996f76d3c023f2a6fc33d5a32", func := "wharfinger/wharfingerlaw06.BlockSpans", spec := "blockSpans", apart := false }
def BlockSpansSaid : Prop := blockSpansRow.holds Try.pinned (OpenSpec.ofChange blockSpansSpec)

/-- ITS FALSE NEIGHBOUR: 'it returns false'. Refute it at one input. -/
def blockSpansWrong : ChangeSpec := { name := "blockSpans", fn := fun _ => fun
  | [d1, d2, d3] => { results := [.lit (.bool false)], args := [d1, d2, d3] }
  | _ => none }
def BlockSpansWrongFalsely : Prop := blockSpansRow.holds Try.pinned (OpenSpec.ofChange blockSpansWrong)

/-- 'wharfingerlaw06.BlockAlike': WHATEVER THE INPUT: true; the input reads as it did. -/
def blockAlikeSpec : ChangeSpec := { name := "blockAlike", fn := fun _ => fun
  | [d1, d2, d3] => { results := [.lit (.bool true)], args := [d1, d2, d3] }
  | _ => none }
def blockAlikeRow : OpenClaim := { program := "ytinjkebhamhenaa", sum := "96e9de57c77eea04174e8667458e440d7476823996f76d3c023f2a6fc33d5a32", func := "wharfinger/wharfingerlaw06.BlockAlike", spec := "blockAlike", apart := false }
def BlockAlikeSaid : Prop := blockAlikeRow.holds Try.pinned (OpenSpec.ofChange blockAlikeSpec)

/-- ITS FALSE NEIGHBOUR: 'it returns false'. Refute it at one input. -/
def blockAlikeWrong : ChangeSpec := { name := "blockAlike", fn := fun _ => fun
  | [d1, d2, d3] => { results := [.lit (.bool false)], args := [d1, d2, d3] }
  | _ => none }
def BlockAlikeWrongFalsely : Prop := blockAlikeRow.holds Try.pinned (OpenSpec.ofChange blockAlikeWrong)

/-- 'wharfingerlaw06.BlockBytes': WHATEVER THE INPUT: true; the input reads as it did. -/
def blockBytesSpec : ChangeSpec := { name := "blockBytes", fn := fun _ => fun
  | [d] => { results := [.lit (.bool true)], args := [d] }
  | _ => none }
def blockBytesRow : OpenClaim := { program := "ytinjkebhamhenaa", sum := "96e9de57c77eea04174e8667458e440d7476823996f76d3c023f2a6fc33d5a32", func := "wharfinger/wharfingerlaw06.BlockBytes", spec := "blockBytes", apart := false }
def BlockBytesSaid : Prop := blockBytesRow.holds Try.pinned (OpenSpec.ofChange blockBytesSpec)

/-- ITS FALSE NEIGHBOUR: 'it returns false'. Refute it at one input. -/
def blockBytesWrong : ChangeSpec := { name := "blockBytes", fn := fun _ => fun
  | [d] => { results := [.lit (.bool false)], args := [d] }
  | _ => none }
def BlockBytesWrongFalsely : Prop := blockBytesRow.holds Try.pinned (OpenSpec.ofChange blockBytesWrong)

/-- 'wharfingerlaw06.BlockCuts': WHATEVER THE INPUT: true; the input reads as it did. -/
def blockCutsSpec : ChangeSpec := { name := "blockCuts", fn := fun _ => fun
  | [d1, d2, d3] => { results := [.lit (.bool true)], args := [d1, d2, d3] }
  | _ => none }
def blockCutsRow : OpenClaim := { program := "ytinjkebhamhenaa", sum := "96e9de57c77eea04174e8667458e440d7476823996f76d3c023f2a6fc33d5a32", func := "wharfinger/wharfingerlaw06.BlockCuts", spec := "blockCuts", apart := false }
def BlockCutsSaid : Prop := blockCutsRow.holds Try.pinned (OpenSpec.ofChange blockCutsSpec)

/-- ITS FALSE NEIGHBOUR: 'it returns false'. Refute it at one input. -/
def blockCutsWrong : ChangeSpec := { name := "blockCuts", fn := fun _ => fun
  | [d1, d2, d3] => { results := [.lit (.bool false)], args := [d1, d2, d3] }
  | _ => none }
def BlockCutsWrongFalsely : Prop := blockCutsRow.holds Try.pinned (OpenSpec.ofChange blockCutsWrong)

/- THE SECOND FORM. 'bulk': how many values and letters a reading holds, each counted each time it is reached (what is shared counts as often as it is met; a slice's spare places count too). A statement '..UptoSaid' is the law's where the arguments, and the package variables that the reading takes, are together of bulk at most 1048576: NARROWER than '..Said'. Prove '..Said' where nothing that the law and all that it calls make is longer than what came in: it says more and counts as full. Else prove '..UptoSaid'. A law counts once. -/
mutual
def uptoBulk {H : Type} : DataW H → Nat
  | .lit (.string bytes) => bytes.length + 1
  | .lit _ => 1
  | .nil => 1
  | .ptr d => uptoBulk d + 1
  | .slice elems spare => uptoBulkAll elems + uptoBulkAll spare + 1
  | .agg parts => uptoBulkAll parts + 1
  | .iface _ d => uptoBulk d + 1
  | .map entries => uptoBulkEntries entries + 1
  | .held _ => 1
def uptoBulkAll {H : Type} : List (DataW H) → Nat
  | [] => 0
  | d :: r => uptoBulk d + uptoBulkAll r
def uptoBulkEntries {H : Type} : List (Lit × DataW H) → Nat
  | [] => 0
  | x :: r => uptoBulkEntry x + uptoBulkEntries r
def uptoBulkEntry {H : Type} : Lit × DataW H → Nat
  | (.string bytes, d) => bytes.length + uptoBulk d + 1
  | (_, d) => uptoBulk d + 1
 end
def uptoSmall : (H : Type) → List (DataW H) → Bool := fun _ ds => decide (uptoBulkAll ds ≤ 1048576)
def OpenSpec.upto (s : _root_.Go.ChangeSpec) : _root_.Go.OpenSpec := { _root_.Go.OpenSpec.ofChange s with cond := some uptoSmall }

/-- 'wharfingerlaw06.BlockMakes', WHERE WHAT IT READS IS OF BULK AT MOST 1048576: true; the input reads as it did. -/
def blockMakesUptoRow : OpenClaim := { program := "ytinjkebhamhenaa", sum := "96e9de57c77eea04174e8667458e440d7476823996f76d3c023f2a6fc33d5a32", func := "wharfinger/wharfingerlaw06.BlockMakes", spec := "blockMakes", apart := false, narrowed := true }
def BlockMakesUptoSaid : Prop := blockMakesUptoRow.holds Try.pinned (OpenSpec.upto blockMakesSpec)

/-- 'wharfingerlaw06.BlockFinds', WHERE WHAT IT READS IS OF BULK AT MOST 1048576: true; the input reads as it did. -/
def blockFindsUptoRow : OpenClaim := { program := "ytinjkebhamhenaa", sum := "96e9de57c77eea04174e8667458e440d7476823996f76d3c023f2a6fc33d5a32", func := "wharfinger/wharfingerlaw06.BlockFinds", spec := "blockFinds", apart := false, narrowed := true }
def BlockFindsUptoSaid : Prop := blockFindsUptoRow.holds Try.pinned (OpenSpec.upto blockFindsSpec)

/-- 'wharfingerlaw06.BlockSpans', WHERE WHAT IT READS IS OF BULK AT MOST 1048576: true; the input reads as it did. -/
def blockSpansUptoRow : OpenClaim := { program := "ytinjkebhamhenaa", sum := "96e9de57c77eea04174e8667458e440d7476823996f76d3c023f2a6fc33d5a32", func := "wharfinger/wharfingerlaw06.BlockSpans", spec := "blockSpans", apart := false, narrowed := true }
def BlockSpansUptoSaid : Prop := blockSpansUptoRow.holds Try.pinned (OpenSpec.upto blockSpansSpec)

/-- 'wharfingerlaw06.BlockAlike', WHERE WHAT IT READS IS OF BULK AT MOST 1048576: true; the input reads as it did. -/
def blockAlikeUptoRow : OpenClaim := { program := "ytinjkebhamhenaa", sum := "96e9de57c77eea04174e8667458e440d7476823996f76d3c023f2a6fc33d5a32", func := "wharfinger/wharfingerlaw06.BlockAlike", spec := "blockAlike", apart := false, narrowed := true }
def BlockAlikeUptoSaid : Prop := blockAlikeUptoRow.holds Try.pinned (OpenSpec.upto blockAlikeSpec)

/-- 'wharfingerlaw06.BlockBytes', WHERE WHAT IT READS IS OF BULK AT MOST 1048576: true; the input reads as it did. -/
def blockBytesUptoRow : OpenClaim := { program := "ytinjkebhamhenaa", sum := "96e9de57c77eea04174e8667458e440d7476823996f76d3c023f2a6fc33d5a32", func := "wharfinger/wharfingerlaw06.BlockBytes", spec := "blockBytes", apart := false, narrowed := true }
def BlockBytesUptoSaid : Prop := blockBytesUptoRow.holds Try.pinned (OpenSpec.upto blockBytesSpec)

/-- 'wharfingerlaw06.BlockCuts', WHERE WHAT IT READS IS OF BULK AT MOST 1048576: true; the input reads as it did. -/
def blockCutsUptoRow : OpenClaim := { program := "ytinjkebhamhenaa", sum := "96e9de57c77eea04174e8667458e440d7476823996f76d3c023f2a6fc33d5a32", func := "wharfinger/wharfingerlaw06.BlockCuts", spec := "blockCuts", apart := false, narrowed := true }
def BlockCutsUptoSaid : Prop := blockCutsUptoRow.holds Try.pinned (OpenSpec.upto blockCutsSpec)

end Rows
end Go.Proofs.Ytinjkebhamhenaa
