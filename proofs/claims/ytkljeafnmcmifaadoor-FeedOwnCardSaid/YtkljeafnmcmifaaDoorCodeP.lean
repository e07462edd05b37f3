/- The walks of package code's Text and of the head 'reads'. -/
import Derived.Test.YtkljeafnmcmifaaDoorReader
import Derived.Deep.DeepCutAuto
import Derived.Deep.CutBlock
set_option linter.unusedVariables false
set_option linter.unusedSimpArgs false
namespace Go.Proofs.YtkljeafnmcmifaaDoor.CodeR
open Go.RowKit Go.Proofs.YtkljeafnmcmifaaDoorW.PrintWords Go.Proofs.YtkljeafnmcmifaaDoor.B Go.Proofs.YtkljeafnmcmifaaDoor.PB Go.Proofs.YtkljeafnmcmifaaDoor.SCode Go.Proofs.YtkljeafnmcmifaaDoor.Rdr
attribute [local go_sem] B.max2_int B.min2_int B.max_two B.min_two

end Go.Proofs.YtkljeafnmcmifaaDoor.CodeR
