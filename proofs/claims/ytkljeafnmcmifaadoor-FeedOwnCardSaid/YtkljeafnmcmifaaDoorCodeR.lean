/- The walks of chapter 03's reference: Num, Text. -/
import Derived.Test.YtkljeafnmcmifaaDoorCodeP
import Derived.Deep.DeepCutAuto
import Derived.Deep.CutBlock
set_option linter.unusedVariables false
set_option linter.unusedSimpArgs false
namespace Go.Proofs.YtkljeafnmcmifaaDoor.CodeR
open Go.RowKit Go.Proofs.YtkljeafnmcmifaaDoorW.PrintWords Go.Proofs.YtkljeafnmcmifaaDoor.B Go.Proofs.YtkljeafnmcmifaaDoor.PB Go.Proofs.YtkljeafnmcmifaaDoor.SCode Go.Proofs.YtkljeafnmcmifaaDoor.Rdr
attribute [local go_sem] B.max2_int B.min2_int B.max_two B.min_two

theorem digit_more (j : Nat) : b8 (((j : Int) % 128 + 128) % 256) = UInt8.ofNat (j % 128 + 128) := by
  unfold b8; congr 1; omega
theorem digit_more' (j : Nat) : b8 ((j : Int) % 128 + 128) = UInt8.ofNat (j % 128 + 128) := by
  unfold b8; congr 1
theorem digit_last (j : Nat) (h : j < 128) : b8 ((j : Int) % 256) = UInt8.ofNat j := by
  unfold b8; congr 1; omega

end Go.Proofs.YtkljeafnmcmifaaDoor.CodeR
