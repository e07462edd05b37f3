/- The address of an element, and what lies there. -/
import Derived.Test.YtanbddaecojijaaDoorRowS
import Derived.Test.YtanbddaecojijaaDoorLd
set_option linter.unusedVariables false
set_option linter.unusedSimpArgs false
namespace Go.Proofs.YtanbddaecojijaaDoor.PB
open Go.RowKit Go.Proofs.YtanbddaecojijaaDoorW.PrintWords Go.Proofs.YtanbddaecojijaaDoor.B
theorem ex_ix {P : Program} {ρ : Operand → Value} {o : Oper} {W : World} (t e : TypeId) (sz : Nat) (s x : Operand) (ad : Addr) (A : Option Addr) (n c j : Nat) (z : Int) (hu : P.underlying t = some (.slice e)) (hi : (P.info? e).map (·.size) = some sz) (ho : o.op = .indexAddr t s x) (hs : ρ s = .slice A n c) (hA : A = some ad) (hx : ρ x = .int .i64 z) (hz : z = (j : Int)) (hj : j < n) :
    (execOp ρ o).run P W = .ok (.value (.pointer (some (ad.add (j * sz))))) W := by
  subst hA
  subst hz
  obtain ⟨d, hd, hz⟩ := Option.map_eq_some_iff.1 hi
  have hu' : P.underlying t = some (.slice (P.elem t)) := by simp [Program.elem, hu]
  have he : P.elem t = e := by simp [Program.elem, hu]
  unfold execOp
  simp only [ho, hs, hx, Sem.run_bind, Sem.run_pure, run_indexAt_slice _ _ _ _ _ _ _ hu']
  rw [if_pos (by omega), he]
  simp [sizeOf, typeInfo, hd, hz, Result.andThen]
theorem lsIx {ops : Array Oper} {rest : List Oper} {o : Oper} {a : Act} {Q : Exit → Act → World → Prop} {W : World} (t e : TypeId) (sz : Nat) (s x : Operand) (ad : Addr) (A : Option Addr) (n c j : Nat) (z : Int) (hu : Tryd.prog.underlying t = some (.slice e)) (hi : (Tryd.prog.info? e).map (·.size) = some sz) (hgd : o.guard = none) (ho : o.op = .indexAddr t s x) (hs : a.eval s = .slice A n c) (hA : A = some ad) (hx : a.eval x = .int .i64 z) (hz : z = (j : Int)) (hj : j < n)
    (h : wpList Tryd.prog ops Q rest (a.put o.dst (.pointer (some (ad.add (j * sz))))) W) : wpList Tryd.prog ops Q (o :: rest) a W :=
  stepV _ hgd (ex_ix t e sz s x ad A n c j z hu hi ho hs hA hx hz hj) h
/-- An element of a slice that is read, whole. -/
theorem rd_elem {α : Type} {f : Fl α} {w : World} {A : Option Addr} {n c : Nat} {xs : List α} (h : Rd f w (.slice A n c) xs) (j : Nat) (x : α) (hx : xs[j]? = some x) : ∃ ad, A = some ad ∧ Cv w (ad.add (j * f.sz)) (f.enc x) := by
  obtain ⟨A', c', he, _, _, hc⟩ := h
  injection he with e1 _ _
  subst e1
  have hj := (List.getElem?_eq_some_iff.1 hx).1
  obtain ⟨ad, rfl, h2⟩ := hc (by omega)
  refine ⟨ad, rfl, fun i v hv => ?_⟩
  rw [add_add]
  have hi : i < f.sz := by have := (List.getElem?_eq_some_iff.1 hv).1; rw [f.len] at this; exact this
  refine h2 _ _ ?_
  rw [f.cells_get xs j x hx i hi]
  exact hv
/-- A load of a whole element, in whatever later world. -/
theorem ld_elem {P : Program} {w : World} {p : Addr} {ty : TypeId} {cs : List Value} {d : TypeDesc} (hc : Cv w p cs) (hu : P.underlying ty = some d) (hd : (match d with | .struct _ | .array _ _ => true | _ => false) = true) (hi : (P.info? ty).map (·.size) = some cs.length) :
    ∀ x, Fr No w x → (loadVar ty p).run P x = .ok (.agg cs.toArray) x := fun x hx => run_loadVar_cells (hc.no hx) hu hd hi
end Go.Proofs.YtanbddaecojijaaDoor.PB
