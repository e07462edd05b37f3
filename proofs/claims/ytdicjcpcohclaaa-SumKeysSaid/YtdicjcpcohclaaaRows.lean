/-
  No cell of these rows narrows 'for every input' (looked for: loops, veiled, ifaces, maps, wideKeys, modest, calm, conditions, laid).
  DERIVED. THE GIVEN ROWS OF THIS SEAT. 17 by the template 'for every input the law returns true; each argument reads behind the call as it read before'; 0 by the template 'total and deterministic' (their statements: YtdicjcpcohclaaaTotals.lean).
  GIVEN WITH THE SEED: the statements are not yours to turn. If you find one false, say at which input.
  Laid BY PROGRAM, IN A SANDBOX (cutbox-rows.mjs): the forced cells as the released guide's own fill.sh prints them over the translation 849684296be75268… (all of the seat's roots in one cut). By AI agents, Wed Nov 11 2026. No macro, syntax, notation, axiom, sorry.
-/
import Derived.Test.YtdicjcpcohclaaaChecked
import GoSem.Claim
import GoSem.ClaimJoined
import GoSem.ClaimMapViews
import Derived.JoinedTies
import Derived.KernelRfl
namespace Go.Proofs.Ytdicjcpcohclaaa
/- THE CELL 'sum', in the pinned program and in every row, IS THE sha256 OF THE DUMP (.gsa) THAT YtdicjcpcohclaaaProg.lean LOADS. Nothing in Lean hashes anything: it is a label: what it is worth is what the hold of that sum in a sandbox is worth. -/
noncomputable def Try.pinned : Pinned := { name := "ytdicjcpcohclaaa", sum := "849684296be7526804b65e7e6d74d1497761d94facf37547f2c0071ae734c365", checked := Try.checked }
namespace Rows
def none {H : Type} : Left H := { results := [], args := [] }

/-- 'wharfingerlaw03.CodeSizes': WHATEVER THE INPUT: true; the input reads as it did. -/
def codeSizesSpec : ChangeSpec := { name := "codeSizes", fn := fun _ => fun
  | [d1, d2] => { results := [.lit (.bool true)], args := [d1, d2] }
  | _ => none }
def codeSizesRow : OpenClaim := { program := "ytdicjcpcohclaaa", sum := "849684296be7526804b65e7e6d74d1497761d94facf37547f2c0071ae734c365", func := "wharfinger/wharfingerlaw03.CodeSizes", spec := "codeSizes", apart := false }
def CodeSizesSaid : Prop := codeSizesRow.holds Try.pinned (OpenSpec.ofChange codeSizesSpec)

/-- ITS FALSE NEIGHBOUR: 'it returns false'. Refute it at one input. -/
def codeSizesWrong : ChangeSpec := { name := "codeSizes", fn := fun _ => fun
  | [d1, d2] => { results := [.lit (.bool false)], args := [d1, d2] }
  | _ => none }
def CodeSizesWrongFalsely : Prop := codeSizesRow.holds Try.pinned (OpenSpec.ofChange codeSizesWrong)

/-- 'wharfingerlaw03.CodeWrites': WHATEVER THE INPUT: true; the input reads as it did. -/
def codeWritesSpec : ChangeSpec := { name := "codeWrites", fn := fun _ => fun
  | [d1, d2, d3] => { results := [.lit (.bool true)], args := [d1, d2, d3] }
  | _ => none }
def codeWritesRow : OpenClaim := { program := "ytdicjcpcohclaaa", sum := "849684296be7526804b65e7e6d74d1497761d94facf37547f2c0071ae734c365", func := "wharfinger/wharfingerlaw03.CodeWrites", spec := "codeWrites", apart := false }
def CodeWritesSaid : Prop := codeWritesRow.holds Try.pinned (OpenSpec.ofChange codeWritesSpec)

/-- ITS FALSE NEIGHBOUR: 'it returns false'. Refute it at one input. -/
def codeWritesWrong : ChangeSpec := { name := "codeWrites", fn := fun _ => fun
  | [d1, d2, d3] => { results := [.lit (.bool false)], args := [d1, d2, d3] }
  | _ => none }
def CodeWritesWrongFalsely : Prop := codeWritesRow.holds Try.pinned (OpenSpec.ofChange codeWritesWrong)

/-- 'wharfingerlaw01.SumOf': WHATEVER THE INPUT: true; the input reads as it did. -/
def sumOfSpec : ChangeSpec := { name := "sumOf", fn := fun _ => fun
  | [d] => { results := [.lit (.bool true)], args := [d] }
  | _ => none }
def sumOfRow : OpenClaim := { program := "ytdicjcpcohclaaa", sum := "849684296be7526804b65e7e6d74d1497761d94facf37547f2c0071ae734c365", func := "wharfinger/wharfingerlaw01.SumOf", spec := "sumOf", apart := false }
def SumOfSaid : Prop := sumOfRow.holds Try.pinned (OpenSpec.ofChange sumOfSpec)

/-- ITS FALSE NEIGHBOUR: 'it returns false'. Refute it at one input. -/
def sumOfWrong : ChangeSpec := { name := "sumOf", fn := fun _ => fun
  | [d] => { results := [.lit (.bool false)], args := [d] }
  | _ => none }
def SumOfWrongFalsely : Prop := sumOfRow.holds Try.pinned (OpenSpec.ofChange sumOfWrong)

/-- 'wharfingerlaw01.SumText': WHATEVER THE INPUT: true; the input reads as it did. -/
def sumTextSpec : ChangeSpec := { name := "sumText", fn := fun _ => fun
  | [d1, d2] => { results := [.lit (.bool true)], args := [d1, d2] }
  | _ => none }
def sumTextRow : OpenClaim := { program := "ytdicjcpcohclaaa", sum := "849684296be7526804b65e7e6d74d1497761d94facf37547f2c0071ae734c365", func := "wharfinger/wharfingerlaw01.SumText", spec := "sumText", apart := false }
def SumTextSaid : Prop := sumTextRow.holds Try.pinned (OpenSpec.ofChange sumTextSpec)

/-- ITS FALSE NEIGHBOUR: 'it returns false'. Refute it at one input. -/
def sumTextWrong : ChangeSpec := { name := "sumText", fn := fun _ => fun
  | [d1, d2] => { results := [.lit (.bool false)], args := [d1, d2] }
  | _ => none }
def SumTextWrongFalsely : Prop := sumTextRow.holds Try.pinned (OpenSpec.ofChange sumTextWrong)

/-- 'wharfingerlaw01.SumEnds': WHATEVER THE INPUT: true; the input reads as it did. -/
def sumEndsSpec : ChangeSpec := { name := "sumEnds", fn := fun _ => fun
  | [d1, d2, d3] => { results := [.lit (.bool true)], args := [d1, d2, d3] }
  | _ => none }
def sumEndsRow : OpenClaim := { program := "ytdicjcpcohclaaa", sum := "849684296be7526804b65e7e6d74d1497761d94facf37547f2c0071ae734c365", func := "wharfinger/wharfingerlaw01.SumEnds", spec := "sumEnds", apart := false }
def SumEndsSaid : Prop := sumEndsRow.holds Try.pinned (OpenSpec.ofChange sumEndsSpec)

/-- ITS FALSE NEIGHBOUR: 'it returns false'. Refute it at one input. -/
def sumEndsWrong : ChangeSpec := { name := "sumEnds", fn := fun _ => fun
  | [d1, d2, d3] => { results := [.lit (.bool false)], args := [d1, d2, d3] }
  | _ => none }
def SumEndsWrongFalsely : Prop := sumEndsRow.holds Try.pinned (OpenSpec.ofChange sumEndsWrong)

/-- 'wharfingerlaw01.SumCut': WHATEVER THE INPUT: true; the input reads as it did. -/
def sumCutSpec : ChangeSpec := { name := "sumCut", fn := fun _ => fun
  | [d1, d2] => { results := [.lit (.bool true)], args := [d1, d2] }
  | _ => none }
def sumCutRow : OpenClaim := { program := "ytdicjcpcohclaaa", sum := "849684296be7526804b65e7e6d74d1497761d94facf37547f2c0071ae734c365", func := "wharfinger/wharfingerlaw01.SumCut", spec := "sumCut", apart := false }
def SumCutSaid : Prop := sumCutRow.holds Try.pinned (OpenSpec.ofChange sumCutSpec)

/-- ITS FALSE NEIGHBOUR: 'it returns false'. Refute it at one input. -/
def sumCutWrong : ChangeSpec := { name := "sumCut", fn := fun _ => fun
  | [d1, d2] => { results := [.lit (.bool false)], args := [d1, d2] }
  | _ => none }
def SumCutWrongFalsely : Prop := sumCutRow.holds Try.pinned (OpenSpec.ofChange sumCutWrong)

/-- 'wharfingerlaw01.SumNested': WHATEVER THE INPUT: true; the input reads as it did. -/
def sumNestedSpec : ChangeSpec := { name := "sumNested", fn := fun _ => fun
  | [d1, d2, d3] => { results := [.lit (.bool true)], args := [d1, d2, d3] }
  | _ => none }
def sumNestedRow : OpenClaim := { program := "ytdicjcpcohclaaa", sum := "849684296be7526804b65e7e6d74d1497761d94facf37547f2c0071ae734c365", func := "wharfinger/wharfingerlaw01.SumNested", spec := "sumNested", apart := false }
def SumNestedSaid : Prop := sumNestedRow.holds Try.pinned (OpenSpec.ofChange sumNestedSpec)

/-- ITS FALSE NEIGHBOUR: 'it returns false'. Refute it at one input. -/
def sumNestedWrong : ChangeSpec := { name := "sumNested", fn := fun _ => fun
  | [d1, d2, d3] => { results := [.lit (.bool false)], args := [d1, d2, d3] }
  | _ => none }
def SumNestedWrongFalsely : Prop := sumNestedRow.holds Try.pinned (OpenSpec.ofChange sumNestedWrong)

/-- 'wharfingerlaw04.FrameWrites': WHATEVER THE INPUT: true; the input reads as it did. -/
def frameWritesSpec : ChangeSpec := { name := "frameWrites", fn := fun _ => fun
  | [d1, d2] => { results := [.lit (.bool true)], args := [d1, d2] }
  | _ => none }
def frameWritesRow : OpenClaim := { program := "ytdicjcpcohclaaa", sum := "849684296be7526804b65e7e6d74d1497761d94facf37547f2c0071ae734c365", func := "wharfinger/wharfingerlaw04.FrameWrites", spec := "frameWrites", apart := false }
def FrameWritesSaid : Prop := frameWritesRow.holds Try.pinned (OpenSpec.ofChange frameWritesSpec)

/-- ITS FALSE NEIGHBOUR: 'it returns false'. Refute it at one input. -/
def frameWritesWrong : ChangeSpec := { name := "frameWrites", fn := fun _ => fun
  | [d1, d2] => { results := [.lit (.bool false)], args := [d1, d2] }
  | _ => none }
def FrameWritesWrongFalsely : Prop := frameWritesRow.holds Try.pinned (OpenSpec.ofChange frameWritesWrong)

/-- 'wharfingerlaw04.FrameRows': WHATEVER THE INPUT: true; the input reads as it did. -/
def frameRowsSpec : ChangeSpec := { name := "frameRows", fn := fun _ => fun
  | [d] => { results := [.lit (.bool true)], args := [d] }
  | _ => none }
def frameRowsRow : OpenClaim := { program := "ytdicjcpcohclaaa", sum := "849684296be7526804b65e7e6d74d1497761d94facf37547f2c0071ae734c365", func := "wharfinger/wharfingerlaw04.FrameRows", spec := "frameRows", apart := false }
def FrameRowsSaid : Prop := frameRowsRow.holds Try.pinned (OpenSpec.ofChange frameRowsSpec)

/-- ITS FALSE NEIGHBOUR: 'it returns false'. Refute it at one input. -/
def frameRowsWrong : ChangeSpec := { name := "frameRows", fn := fun _ => fun
  | [d] => { results := [.lit (.bool false)], args := [d] }
  | _ => none }
def FrameRowsWrongFalsely : Prop := frameRowsRow.holds Try.pinned (OpenSpec.ofChange frameRowsWrong)

/-- 'wharfingerlaw04.FrameOwn': WHATEVER THE INPUT: true; the input reads as it did. -/
def frameOwnSpec : ChangeSpec := { name := "frameOwn", fn := fun _ => fun
  | [d1, d2] => { results := [.lit (.bool true)], args := [d1, d2] }
  | _ => none }
def frameOwnRow : OpenClaim := { program := "ytdicjcpcohclaaa", sum := "849684296be7526804b65e7e6d74d1497761d94facf37547f2c0071ae734c365", func := "wharfinger/wharfingerlaw04.FrameOwn", spec := "frameOwn", apart := false }
def FrameOwnSaid : Prop := frameOwnRow.holds Try.pinned (OpenSpec.ofChange frameOwnSpec)

/-- ITS FALSE NEIGHBOUR: 'it returns false'. Refute it at one input. -/
def frameOwnWrong : ChangeSpec := { name := "frameOwn", fn := fun _ => fun
  | [d1, d2] => { results := [.lit (.bool false)], args := [d1, d2] }
  | _ => none }
def FrameOwnWrongFalsely : Prop := frameOwnRow.holds Try.pinned (OpenSpec.ofChange frameOwnWrong)

/-- 'wharfingerlaw01.SumMac': WHATEVER THE INPUT: true; the input reads as it did. -/
def sumMacSpec : ChangeSpec := { name := "sumMac", fn := fun _ => fun
  | [d1, d2] => { results := [.lit (.bool true)], args := [d1, d2] }
  | _ => none }
def sumMacRow : OpenClaim := { program := "ytdicjcpcohclaaa", sum := "849684296be7526804b65e7e6d74d1497761d94facf37547f2c0071ae734c365", func := "wharfinger/wharfingerlaw01.SumMac", spec := "sumMac", apart := false }
def SumMacSaid : Prop := sumMacRow.holds Try.pinned (OpenSpec.ofChange sumMacSpec)

/-- ITS FALSE NEIGHBOUR: 'it returns false'. Refute it at one input. -/
def sumMacWrong : ChangeSpec := { name := "sumMac", fn := fun _ => fun
  | [d1, d2] => { results := [.lit (.bool false)], args := [d1, d2] }
  | _ => none }
def SumMacWrongFalsely : Prop := sumMacRow.holds Try.pinned (OpenSpec.ofChange sumMacWrong)

/-- 'wharfingerlaw01.SumKeys': WHATEVER THE INPUT: true; the input reads as it did. -/
def sumKeysSpec : ChangeSpec := { name := "sumKeys", fn := fun _ => fun
  | [d1, d2, d3] => { results := [.lit (.bool true)], args := [d1, d2, d3] }
  | _ => none }
def sumKeysRow : OpenClaim := { program := "ytdicjcpcohclaaa", sum := "849684296be7526804b65e7e6d74d1497761d94facf37547f2c0071ae734c365", func := "wharfinger/wharfingerlaw01.SumKeys", spec := "sumKeys", apart := false }
def SumKeysSaid : Prop := sumKeysRow.holds Try.pinned (OpenSpec.ofChange sumKeysSpec)

/-- ITS FALSE NEIGHBOUR: 'it returns false'. Refute it at one input. -/
def sumKeysWrong : ChangeSpec := { name := "sumKeys", fn := fun _ => fun
  | [d1, d2, d3] => { results := [.lit (.bool false)], args := [d1, d2, d3] }
  | _ => none }
def SumKeysWrongFalsely : Prop := sumKeysRow.holds Try.pinned (OpenSpec.ofChange sumKeysWrong)

/-- 'wharfingerlaw14.AuthAnswers': WHATEVER THE INPUT: true; the input reads as it did. -/
def authAnswersSpec : ChangeSpec := { name := "authAnswers", fn := fun _ => fun
  | [d1, d2, d3] => { results := [.lit (.bool true)], args := [d1, d2, d3] }
  | _ => none }
def authAnswersRow : OpenClaim := { program := "ytdicjcpcohclaaa", sum := "849684296be7526804b65e7e6d74d1497761d94facf37547f2c0071ae734c365", func := "wharfinger/wharfingerlaw14.AuthAnswers", spec := "authAnswers", apart := false }
def AuthAnswersSaid : Prop := authAnswersRow.holds Try.pinned (OpenSpec.ofChange authAnswersSpec)

/-- ITS FALSE NEIGHBOUR: 'it returns false'. Refute it at one input. -/
def authAnswersWrong : ChangeSpec := { name := "authAnswers", fn := fun _ => fun
  | [d1, d2, d3] => { results := [.lit (.bool false)], args := [d1, d2, d3] }
  | _ => none }
def AuthAnswersWrongFalsely : Prop := authAnswersRow.holds Try.pinned (OpenSpec.ofChange authAnswersWrong)

/-- 'wharfingerlaw14.AuthChecks': WHATEVER THE INPUT: true; the input reads as it did. -/
def authChecksSpec : ChangeSpec := { name := "authChecks", fn := fun _ => fun
  | [d1, d2, d3] => { results := [.lit (.bool true)], args := [d1, d2, d3] }
  | _ => none }
def authChecksRow : OpenClaim := { program := "ytdicjcpcohclaaa", sum := "849684296be7526804b65e7e6d74d1497761d94facf37547f2c0071ae734c365", func := "wharfinger/wharfingerlaw14.AuthChecks", spec := "authChecks", apart := false }
def AuthChecksSaid : Prop := authChecksRow.holds Try.pinned (OpenSpec.ofChange authChecksSpec)

/-- ITS FALSE NEIGHBOUR: 'it returns false'. Refute it at one input. -/
def authChecksWrong : ChangeSpec := { name := "authChecks", fn := fun _ => fun
  | [d1, d2, d3] => { results := [.lit (.bool false)], args := [d1, d2, d3] }
  | _ => none }
def AuthChecksWrongFalsely : Prop := authChecksRow.holds Try.pinned (OpenSpec.ofChange authChecksWrong)

/-- 'wharfingerlaw14.AuthOwn': WHATEVER THE INPUT: true; the input reads as it did. -/
def authOwnSpec : ChangeSpec := { name := "authOwn", fn := fun _ => fun
  | [d1, d2, d3] => { results := [.lit (.bool true)], args := [d1, d2, d3] }
  | _ => none }
def authOwnRow : OpenClaim := { program := "ytdicjcpcohclaaa", sum := "849684296be7526804b65e7e6d74d1497761d94facf37547f2c0071ae734c365", func := "wharfinger/wharfingerlaw14.AuthOwn", spec := "authOwn", apart := false }
def AuthOwnSaid : Prop := authOwnRow.holds Try.pinned (OpenSpec.ofChange authOwnSpec)

/-- ITS FALSE NEIGHBOUR: 'it returns false'. Refute it at one input. -/
def authOwnWrong : ChangeSpec := { name := "authOwn", fn := fun _ => fun
  | [d1, d2, d3] => { results := [.lit (.bool false)], args := [d1, d2, d3] }
  | _ => none }
def AuthOwnWrongFalsely : Prop := authOwnRow.holds Try.pinned (OpenSpec.ofChange authOwnWrong)

/-- 'wharfingerlaw14.AuthNobody': WHATEVER THE INPUT: true; the input reads as it did. -/
def authNobodySpec : ChangeSpec := { name := "authNobody", fn := fun _ => fun
  | [d1, d2, d3] => { results := [.lit (.bool true)], args := [d1, d2, d3] }
  | _ => none }
def authNobodyRow : OpenClaim := { program := "ytdicjcpcohclaaa", sum := "849684296be7526804b65e7e6d74d1497761d94facf37547f2c0071ae734c365", func := "wharfinger/wharfingerlaw14.AuthNobody", spec := "authNobody", apart := false }
def AuthNobodySaid : Prop := authNobodyRow.holds Try.pinned (OpenSpec.ofChange authNobodySpec)

/-- ITS FALSE NEIGHBOUR: 'it returns false'. Refute it at one input. -/
def authNobodyWrong : ChangeSpec := { name := "authNobody", fn := fun _ => fun
  | [d1, d2, d3] => { results := [.lit (.bool false)], args := [d1, d2, d3] }
  | _ => none }
def AuthNobodyWrongFalsely : Prop := authNobodyRow.holds Try.pinned (OpenSpec.ofChange authNobodyWrong)

/-- 'wharfingerlaw14.AuthParts': WHATEVER THE INPUT: true; the input reads as it did. -/
def authPartsSpec : ChangeSpec := { name := "authParts", fn := fun _ => fun
  | [d1, d2, d3] => { results := [.lit (.bool true)], args := [d1, d2, d3] }
  | _ => none }
def authPartsRow : OpenClaim := { program := "ytdicjcpcohclaaa", sum := "849684296be7526804b65e7e6d74d1497761d94facf37547f2c0071ae734c365", func := "wharfinger/wharfingerlaw14.AuthParts", spec := "authParts", apart := false }
def AuthPartsSaid : Prop := authPartsRow.holds Try.pinned (OpenSpec.ofChange authPartsSpec)

/-- ITS FALSE NEIGHBOUR: 'it returns false'. Refute it at one input. -/
def authPartsWrong : ChangeSpec := { name := "authParts", fn := fun _ => fun
  | [d1, d2, d3] => { results := [.lit (.bool false)], args := [d1, d2, d3] }
  | _ => none }
def AuthPartsWrongFalsely : Prop := authPartsRow.holds Try.pinned (OpenSpec.ofChange authPartsWrong)

/- THE SECOND FORM. 'bulk': how many values and letters a reading holds, each counted each time it is reached (what is shared counts as often as it is met; a slice's spare places count too). A statement '..UptoSaid' is the law's where the arguments, and the package variables that the reading takes, are together of bulk at most 1048576: NARROWER than '..Said'. Prove '..Said' where nothing that the law and all that it calls make is longer than what came in: it says more and counts as full. Else prove '..UptoSaid'. A law counts once. -/
mutual
def uptoBulk {H : Type} : DataW H → Nat
  | .lit (.string bytes) => bytes.length + 1
  | .lit _ => 1
  | .nil => 1
  | .ptr d => uptoBulk d + 1
  | .slice elems spare => uptoBulkAll elems + uptoBulkAll spare + 1
  | .agg parts => uptoBulkAll parts + 1
  | .iface _ d => uptoBulk d + 1
  | .map entries => uptoBulkEntries entries + 1
  | .held _ => 1
def uptoBulkAll {H : Type} : List (DataW H) → Nat
  | [] => 0
  | d :: r => uptoBulk d + uptoBulkAll r
def uptoBulkEntries {H : Type} : List (Lit × DataW H) → Nat
  | [] => 0
  | x :: r => uptoBulkEntry x + uptoBulkEntries r
def uptoBulkEntry {H : Type} : Lit × DataW H → Nat
  | (.string bytes, d) => bytes.length + uptoBulk d + 1
  | (_, d) => uptoBulk d + 1
 end
def uptoSmall : (H : Type) → List (DataW H) → Bool := fun _ ds => decide (uptoBulkAll ds ≤ 1048576)
def OpenSpec.upto (s : _root_.Go.ChangeSpec) : _root_.Go.OpenSpec := { _root_.Go.OpenSpec.ofChange s with cond := some uptoSmall }

/-- 'wharfingerlaw03.CodeSizes', WHERE WHAT IT READS IS OF BULK AT MOST 1048576: true; the input reads as it did. -/
def codeSizesUptoRow : OpenClaim := { program := "ytdicjcpcohclaaa", sum := "849684296be7526804b65e7e6d74d1497761d94facf37547f2c0071ae734c365", func := "wharfinger/wharfingerlaw03.CodeSizes", spec := "codeSizes", apart := false, narrowed := true }
def CodeSizesUptoSaid : Prop := codeSizesUptoRow.holds Try.pinned (OpenSpec.upto codeSizesSpec)

/-- 'wharfingerlaw03.CodeWrites', WHERE WHAT IT READS IS OF BULK AT MOST 1048576: true; the input reads as it did. -/
def codeWritesUptoRow : OpenClaim := { program := "ytdicjcpcohclaaa", sum := "849684296be7526804b65e7e6d74d1497761d94facf37547f2c0071ae734c365", func := "wharfinger/wharfingerlaw03.CodeWrites", spec := "codeWrites", apart := false, narrowed := true }
def CodeWritesUptoSaid : Prop := codeWritesUptoRow.holds Try.pinned (OpenSpec.upto codeWritesSpec)

/-- 'wharfingerlaw01.SumOf', WHERE WHAT IT READS IS OF BULK AT MOST 1048576: true; the input reads as it did. -/
def sumOfUptoRow : OpenClaim := { program := "ytdicjcpcohclaaa", sum := "849684296be7526804b65e7e6d74d1497761d94facf37547f2c0071ae734c365", func := "wharfinger/wharfingerlaw01.SumOf", spec := "sumOf", apart := false, narrowed := true }
def SumOfUptoSaid : Prop := sumOfUptoRow.holds Try.pinned (OpenSpec.upto sumOfSpec)

/-- 'wharfingerlaw01.SumText', WHERE WHAT IT READS IS OF BULK AT MOST 1048576: true; the input reads as it did. -/
def sumTextUptoRow : OpenClaim := { program := "ytdicjcpcohclaaa", sum := "849684296be7526804b65e7e6d74d1497761d94facf37547f2c0071ae734c365", func := "wharfinger/wharfingerlaw01.SumText", spec := "sumText", apart := false, narrowed := true }
def SumTextUptoSaid : Prop := sumTextUptoRow.holds Try.pinned (OpenSpec.upto sumTextSpec)

/-- 'wharfingerlaw01.SumEnds', WHERE WHAT IT READS IS OF BULK AT MOST 1048576: true; the input reads as it did. -/
def sumEndsUptoRow : OpenClaim := { program := "ytdicjcpcohclaaa", sum := "849684296be7526804b65e7e6d74d1497761d94facf37547f2c0071ae734c365", func := "wharfinger/wharfingerlaw01.SumEnds", spec := "sumEnds", apart := false, narrowed := true }
def SumEndsUptoSaid : Prop := sumEndsUptoRow.holds Try.pinned (OpenSpec.upto sumEndsSpec)

/-- 'wharfingerlaw01.SumCut', WHERE WHAT IT READS IS OF BULK AT MOST 1048576: true; the input reads as it did. -/
def sumCutUptoRow : OpenClaim := { program := "ytdicjcpcohclaaa", sum := "849684296be7526804b65e7e6d74d1497761d94facf37547f2c0071ae734c365", func := "wharfinger/wharfingerlaw01.SumCut", spec := "sumCut", apart := false, narrowed := true }
def SumCutUptoSaid : Prop := sumCutUptoRow.holds Try.pinned (OpenSpec.upto sumCutSpec)

/-- 'wharfingerlaw01.SumNested', WHERE WHAT IT READS IS OF BULK AT MOST 1048576: true; the input reads as it did. -/
def sumNestedUptoRow : OpenClaim := { program := "ytdicjcpcohclaaa", sum := "849684296be7526804b65e7e6d74d1497761d94facf37547f2c0071ae734c365", func := "wharfinger/wharfingerlaw01.SumNested", spec := "sumNested", apart := false, narrowed := true }
def SumNestedUptoSaid : Prop := sumNestedUptoRow.holds Try.pinned (OpenSpec.upto sumNestedSpec)

/-- 'wharfingerlaw04.FrameWrites', WHERE WHAT IT READS IS OF BULK AT MOST 1048576: true; the input reads as it did. -/
def frameWritesUptoRow : OpenClaim := { program := "ytdicjcpcohclaaa", sum := "849684296be7526804b65e7e6d74d1497761d94facf37547f2c0071ae734c365", func := "wharfinger/wharfingerlaw04.FrameWrites", spec := "frameWrites", apart := false, narrowed := true }
def FrameWritesUptoSaid : Prop := frameWritesUptoRow.holds Try.pinned (OpenSpec.upto frameWritesSpec)

/-- 'wharfingerlaw04.FrameRows', WHERE WHAT IT READS IS OF BULK AT MOST 1048576: true; the input reads as it did. -/
def frameRowsUptoRow : OpenClaim := { program := "ytdicjcpcohclaaa", sum := "849684296be7526804b65e7e6d74d1497761d94facf37547f2c0071ae734c365", func := "wharfinger/wharfingerlaw04.FrameRows", spec := "frameRows", apart := false, narrowed := true }
def FrameRowsUptoSaid : Prop := frameRowsUptoRow.holds Try.pinned (OpenSpec.upto frameRowsSpec)

/-- 'wharfingerlaw04.FrameOwn', WHERE WHAT IT READS IS OF BULK AT MOST 1048576: true; the input reads as it did. -/
def frameOwnUptoRow : OpenClaim := { program := "ytdicjcpcohclaaa", sum := "849684296be7526804b65e7e6d74d1497761d94facf37547f2c0071ae734c365", func := "wharfinger/wharfingerlaw04.FrameOwn", spec := "frameOwn", apart := false, narrowed := true }
def FrameOwnUptoSaid : Prop := frameOwnUptoRow.holds Try.pinned (OpenSpec.upto frameOwnSpec)

/-- 'wharfingerlaw01.SumMac', WHERE WHAT IT READS IS OF BULK AT MOST 1048576: true; the input reads as it did. -/
def sumMacUptoRow : OpenClaim := { program := "ytdicjcpcohclaaa", sum := "849684296be7526804b65e7e6d74d1497761d94facf37547f2c0071ae734c365", func := "wharfinger/wharfingerlaw01.SumMac", spec := "sumMac", apart := false, narrowed := true }
def SumMacUptoSaid : Prop := sumMacUptoRow.holds Try.pinned (OpenSpec.upto sumMacSpec)

/-- 'wharfingerlaw01.SumKeys', WHERE WHAT IT READS IS OF BULK AT MOST 1048576: true; the input reads as it did. -/
def sumKeysUptoRow : OpenClaim := { program := "ytdicjcpcohclaaa", sum := "849684296be7526804b65e7e6d74d1497761d94facf37547f2c0071ae734c365", func := "wharfinger/wharfingerlaw01.SumKeys", spec := "sumKeys", apart := false, narrowed := true }
def SumKeysUptoSaid : Prop := sumKeysUptoRow.holds Try.pinned (OpenSpec.upto sumKeysSpec)

/-- 'wharfingerlaw14.AuthAnswers', WHERE WHAT IT READS IS OF BULK AT MOST 1048576: true; the input reads as it did. -/
def authAnswersUptoRow : OpenClaim := { program := "ytdicjcpcohclaaa", sum := "849684296be7526804b65e7e6d74d1497761d94facf37547f2c0071ae734c365", func := "wharfinger/wharfingerlaw14.AuthAnswers", spec := "authAnswers", apart := false, narrowed := true }
def AuthAnswersUptoSaid : Prop := authAnswersUptoRow.holds Try.pinned (OpenSpec.upto authAnswersSpec)

/-- 'wharfingerlaw14.AuthChecks', WHERE WHAT IT READS IS OF BULK AT MOST 1048576: true; the input reads as it did. -/
def authChecksUptoRow : OpenClaim := { program := "ytdicjcpcohclaaa", sum := "849684296be7526804b65e7e6d74d1497761d94facf37547f2c0071ae734c365", func := "wharfinger/wharfingerlaw14.AuthChecks", spec := "authChecks", apart := false, narrowed := true }
def AuthChecksUptoSaid : Prop := authChecksUptoRow.holds Try.pinned (OpenSpec.upto authChecksSpec)

/-- 'wharfingerlaw14.AuthOwn', WHERE WHAT IT READS IS OF BULK AT MOST 1048576: true; the input reads as it did. -/
def authOwnUptoRow : OpenClaim := { program := "ytdicjcpcohclaaa", sum := "849684296be7526804b65e7e6d74d1497761d94facf37547f2c0071ae734c365", func := "wharfinger/wharfingerlaw14.AuthOwn", spec := "authOwn", apart := false, narrowed := true }
def AuthOwnUptoSaid : Prop := authOwnUptoRow.holds Try.pinned (OpenSpec.upto authOwnSpec)

/-- 'wharfingerlaw14.AuthNobody', WHERE WHAT IT READS IS OF BULK AT MOST 1048576: true; the input reads as it did. -/
def authNobodyUptoRow : OpenClaim := { program := "ytdicjcpcohclaaa", sum := "849684296be7526804b65e7e6d74d1497761d94facf37547f2c0071ae734c365", func := "wharfinger/wharfingerlaw14.AuthNobody", spec := "authNobody", apart := false, narrowed := true }
def AuthNobodyUptoSaid : Prop := authNobodyUptoRow.holds Try.pinned (OpenSpec.upto authNobodySpec)

/-- 'wharfingerlaw14.AuthParts', WHERE WHAT IT READS IS OF BULK AT MOST 1048576: true; the input reads as it did. -/
def authPartsUptoRow : OpenClaim := { program := "ytdicjcpcohclaaa", sum := "849684296be7526804b65e7e6d74d1497761d94facf37547f2c0071ae734c365", func := "wharfinger/wharfingerlaw14.AuthParts", spec := "authParts", apart := false, narrowed := true }
def AuthPartsUptoSaid : Prop := authPartsUptoRow.holds Try.pinned (OpenSpec.upto authPartsSpec)

end Rows
end Go.Proofs.Ytdicjcpcohclaaa
