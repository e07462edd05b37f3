/- A slice of ints that is read. -/
import Derived.Test.YtdicjcpcohclaaaDoorPB
import Derived.Test.YtdicjcpcohclaaaDoorRowS
set_option linter.unusedVariables false
namespace Go.Proofs.YtdicjcpcohclaaaDoor.PB
open Go.RowKit Go.Proofs.YtdicjcpcohclaaaDoorW.PrintWords Go.Proofs.YtdicjcpcohclaaaDoor.B
def vint (z : Int) : Value := .int .i64 z
def fI : Fl Int := Fl.of vint (fun _ => rfl)
theorem fI_cells (xs : List Int) : fI.cells xs = xs.map vint := Fl.of_cells _ _ _
abbrev RdI (w : World) (v : Value) (xs : List Int) : Prop := Rd fI w v xs
/-- The address of an element. -/
theorem ixI {ops : Array Oper} {rest : List Oper} {o : Oper} {a : Act} {Q : Exit → Act → World → Prop} {W : World} (s x : Operand) (ad : Addr) (A : Option Addr) (n c j : Nat) (hgd : o.guard = none) (ho : o.op = .indexAddr 36 s x) (hs : a.eval s = .slice A n c) (hA : A = some ad) (hx : a.eval x = .int .i64 (j : Int)) (hj : j < n)
    (h : wpList Tryd.prog ops Q rest (a.put o.dst (.pointer (some (ad.add j)))) W) : wpList Tryd.prog ops Q (o :: rest) a W := by
  subst hA
  refine stepV (.pointer (some (ad.add j))) hgd ?_ h
  obtain ⟨d, hd, hz⟩ := Option.map_eq_some_iff.1 (show (Tryd.prog.info? 3).map (·.size) = some 1 by kernel_rfl)
  have hu : Tryd.prog.underlying 36 = some (.slice (Tryd.prog.elem 36)) := by simp [Program.elem, Tryd.underlying36]
  have he : Tryd.prog.elem 36 = 3 := by simp [Program.elem, Tryd.underlying36]
  unfold execOp
  simp only [ho, hs, hx, Sem.run_bind, Sem.run_pure, run_indexAt_slice _ _ _ _ _ _ _ hu]
  rw [if_pos (by omega), he]
  simp [sizeOf, typeInfo, hd, hz, Result.andThen]
end Go.Proofs.YtdicjcpcohclaaaDoor.PB
