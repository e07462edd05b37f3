/- A slice of ints that came in. -/
import Derived.Test.YtebgkmfecmlanaaLift
import Derived.Test.YtebgkmfecmlanaaTab
set_option linter.unusedVariables false
namespace Go.Proofs.Ytebgkmfecmlanaa.Lift
open Go.ChangeShapes Go.WideShapes Go.ChangeAt Go.RowKit Go.Proofs.Ytebgkmfecmlanaa.B Go.Proofs.Ytebgkmfecmlanaa.PB
section
variable {H : Type} {enc : TypeId × Value → H} {W : World} {base : Nat} {v : Value} {d : DataW H} {ps : List MemPlace}
set_option maxRecDepth 100000 in
theorem open_intl (hv : Value.okWide Try.prog W .any base 47 v) (h : DataW.Trod enc Try.prog W 0 (fun _ => true) true 47 v d ps) :
    ∃ xs : List Int, RdI W v xs ∧ ∀ x ∈ xs, (Lit.int .i64 x).wf = true := by
  obtain ⟨a, len, cap, rfl⟩ := okWide_slice Try.underlying47 hv
  obtain ⟨fuel, hf⟩ := h
  rcases open_ints Try.underlying47 Try.underlying3 (by kernel_rfl) hf with ⟨hcs, _⟩ | ⟨x, l, c, zs, hcs, _, hl, hm, hz, hx, hcell, hwz⟩
  · simp [Value.cells] at hcs
    obtain ⟨rfl, rfl, rfl⟩ := hcs
    exact ⟨[], Rd.nil _ _, fun x hx => by cases hx⟩
  · simp [Value.cells] at hcs
    obtain ⟨rfl, rfl, rfl⟩ := hcs
    have hz' : zs.length = cap := by simpa using hz
    have hlen : (zs.take len).length = len := by simp; omega
    refine ⟨zs.take len, ⟨some x, cap, by rw [hlen], by rw [hlen]; exact hl, hm, fun _ => ⟨x, rfl, fun i u hu => ?_⟩⟩, fun z hz => hwz z (List.mem_of_mem_take hz)⟩
    rw [fI_cells, List.getElem?_map] at hu
    obtain ⟨z, hzz, rfl⟩ := Option.map_eq_some_iff.1 hu
    have hi : i < len := by
      have := (List.getElem?_eq_some_iff.1 hzz).1
      omega
    rw [List.getElem?_take, if_pos hi] at hzz
    rw [hcell i (by omega)]
    simp [List.getD, hzz, vint]
end
end Go.Proofs.Ytebgkmfecmlanaa.Lift
