/- What the rows' listed variable gives a walk; a world that meets it. -/
import Derived.Test.YtanbddaecojijaaDoorRows
import Derived.Test.YtanbddaecojijaaDoorErr
import Derived.Test.YtanbddaecojijaaDoorLift
import Derived.ChangeSame
import Derived.ChangeVars
import Derived.JoinedOf
import Derived.LaidLaws
import Derived.LaidHandle
import Derived.Stop.Joined
set_option linter.unusedVariables false
namespace Go.Proofs.YtanbddaecojijaaDoor.Gate
open Go.ChangeShapes Go.WideShapes Go.RowKit Go.Proofs.YtanbddaecojijaaDoor.Err

abbrev listed : List (String × DataW Unit) := [("errors.errorType", Rows.laid_errors_errorType)]
theorem et : Tryd.prog.globalNamed "errors.errorType" = some 0 := by kernel_rfl
theorem rt : (Tryd.prog.cutTypes.find? (·.1 == "internal/reflectlite.rtype")).map (·.2) = some 159 := by kernel_rfl
theorem oneRow : ((List.range 212).filter fun t => Tryd.prog.rowNamed t [101, 114, 114, 111, 114]) = [28] := by kernel_rfl
theorem size : Tryd.prog.types.size = 212 := by kernel_rfl
theorem handle {W : World} (h : laidMetH Tryd.prog listed W) : Gl W := by
  have h' : laidMet Tryd.prog [] W ∧ handlesMet Tryd.prog listed W := h
  obtain ⟨name, u, ty, e1, e2, e3, e4, e5⟩ := h'.2 _ (List.mem_singleton.2 rfl)
  have en : name = [101, 114, 114, 111, 114] := (Option.some.inj e1).symm
  subst en
  obtain rfl := Option.some.inj (rt.symm.trans e2)
  have hm : ty ∈ (List.range 212).filter fun t => Tryd.prog.rowNamed t [101, 114, 114, 111, 114] := List.mem_filter.2 ⟨List.mem_range.2 (by rw [← size]; exact e3), e4⟩
  rw [oneRow] at hm
  obtain rfl := List.mem_singleton.1 hm
  have hh : typeHandle Tryd.prog 28 = .pointer (some ⟨1, 28, none⟩) := by kernel_rfl
  rw [hh] at e5
  unfold Gl
  simpa using World.var?_cell et e5 0
noncomputable def laidWorld (os : Os) : World :=
  let w0 := World.holding Tryd.prog os ⟨#[], #[], []⟩
  { w0 with heap := w0.heap.modify 0 fun
      | .cells _ t frozen => .cells #[.iface 159 (.agg #[.pointer (some ⟨1, 28, none⟩)])] t frozen
      | o => o }
theorem laidWorld_met (os : Os) (args : Array Value) : laidMetH Tryd.prog listed ((laidWorld os).forCall (fun _ _ => 0) ⟨#[], args, []⟩).memory :=
  laidMetH_of_parts (laidMet_nil _ _) (by kernel_rfl)
end Go.Proofs.YtanbddaecojijaaDoor.Gate
