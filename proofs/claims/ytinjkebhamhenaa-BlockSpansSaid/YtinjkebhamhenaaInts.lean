/- A slice of ints that is read. -/
import Derived.Test.YtinjkebhamhenaaPB
import Derived.Test.YtinjkebhamhenaaRowS
set_option linter.unusedVariables false
namespace Go.Proofs.Ytinjkebhamhenaa.PB
open Go.RowKit Go.Proofs.YtinjkebhamhenaaW.PrintWords Go.Proofs.Ytinjkebhamhenaa.B
def vint (z : Int) : Value := .int .i64 z
def fI : Fl Int := Fl.of vint (fun _ => rfl)
theorem fI_cells (xs : List Int) : fI.cells xs = xs.map vint := Fl.of_cells _ _ _
abbrev RdI (w : World) (v : Value) (xs : List Int) : Prop := Rd fI w v xs
/-- The address of an element. -/
theorem ixI {ops : Array Oper} {rest : List Oper} {o : Oper} {a : Act} {Q : Exit → Act → World → Prop} {W : World} (s x : Operand) (ad : Addr) (A : Option Addr) (n c j : Nat) (hgd : o.guard = none) (ho : o.op = .indexAddr 75 s x) (hs : a.eval s = .slice A n c) (hA : A = some ad) (hx : a.eval x = .int .i64 (j : Int)) (hj : j < n)
    (h : wpList Try.prog ops Q rest (a.put o.dst (.pointer (some (ad.add j)))) W) : wpList Try.prog ops Q (o :: rest) a W := by
  subst hA
  refine stepV (.pointer (some (ad.add j))) hgd ?_ h
  obtain ⟨d, hd, hz⟩ := Option.map_eq_some_iff.1 (show (Try.prog.info? 3).map (·.size) = some 1 by kernel_rfl)
  have hu : Try.prog.underlying 75 = some (.slice (Try.prog.elem 75)) := by simp [Program.elem, Try.underlying75]
  have he : Try.prog.elem 75 = 3 := by simp [Program.elem, Try.underlying75]
  unfold execOp
  simp only [ho, hs, hx, Sem.run_bind, Sem.run_pure, run_indexAt_slice _ _ _ _ _ _ _ hu]
  rw [if_pos (by omega), he]
  simp [sizeOf, typeInfo, hd, hz, Result.andThen]
end Go.Proofs.Ytinjkebhamhenaa.PB
