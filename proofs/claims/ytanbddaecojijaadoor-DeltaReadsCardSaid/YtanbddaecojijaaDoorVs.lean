/- A slice of slices of bytes that is read. -/
import Derived.Test.YtanbddaecojijaaDoorPB
set_option linter.unusedVariables false
set_option linter.unusedSimpArgs false
namespace Go.Proofs.YtanbddaecojijaaDoor.PB
open Go.RowKit Go.Proofs.YtanbddaecojijaaDoorW.PrintWords Go.Proofs.YtanbddaecojijaaDoor.B

/-- A slice's value. -/
structure Sl where
  A : Option Addr
  n : Nat
  c : Nat
def Sl.v (s : Sl) : Value := .slice s.A s.n s.c
def vsl : Fl Sl := Fl.of Sl.v (fun _ => rfl)
theorem vsl_cells (ss : List Sl) : vsl.cells ss = ss.map Sl.v := Fl.of_cells _ _ _
def RdV (w : World) (v : Value) (ps : List (List UInt8)) : Prop :=
  ∃ ss : List Sl, Rd vsl w v ss ∧ ss.length = ps.length ∧ ∀ j s, ss[j]? = some s → RdB w s.v (ps.getD j [])
section
variable {w w' : World} {v : Value} {ps : List (List UInt8)}
theorem RdV.no (h : RdV w v ps) (k : Fr No w w') : RdV w' v ps := by
  obtain ⟨ss, h1, h2, h3⟩ := h
  exact ⟨ss, h1.no k, h2, fun j s hs => (h3 j s hs).no k⟩
theorem RdV.form (h : RdV w v ps) : ∃ A c, v = .slice A ps.length c ∧ ps.length ≤ c := by
  obtain ⟨ss, ⟨A, c, rfl, hc, _⟩, h2, h3⟩ := h
  exact ⟨A, c, by rw [h2], by omega⟩
theorem RdV.len_le (h : RdV w v ps) : ps.length ≤ 9223372036854775807 := by
  obtain ⟨ss, h1, h2, h3⟩ := h
  rw [← h2]
  exact h1.len_le
theorem RdV.at_ {A : Option Addr} {n c : Nat} (h : RdV w (.slice A n c) ps) (j : Nat) (hj : j < ps.length) : ∃ ad A' c', A = some ad ∧ w.cell? (ad.add j) = some (.slice A' (ps.getD j []).length c') ∧ RdB w (.slice A' (ps.getD j []).length c') (ps.getD j []) := by
  obtain ⟨ss, ⟨A', c', he, hc, hm, hcell⟩, h2, h3⟩ := h
  injection he with e1 _ _
  subst e1
  obtain ⟨ad, rfl, hc2⟩ := hcell (by omega)
  have hs : ss[j]? = some ss[j] := List.getElem?_eq_getElem (by omega)
  have hb := h3 j _ hs
  obtain ⟨A2, c2, hv, _⟩ := id hb
  rw [hv] at hb
  exact ⟨ad, A2, c2, rfl, hc2 j _ (by rw [vsl_cells, List.getElem?_map, hs]; simp [hv]), hb⟩
end
end Go.Proofs.YtanbddaecojijaaDoor.PB
