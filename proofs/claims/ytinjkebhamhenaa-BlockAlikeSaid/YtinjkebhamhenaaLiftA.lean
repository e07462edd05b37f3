/- An array of bytes that came in. -/
import Derived.Test.YtinjkebhamhenaaLift
import Derived.Test.YtinjkebhamhenaaArr
set_option linter.unusedVariables false
set_option linter.unusedSimpArgs false
namespace Go.Proofs.Ytinjkebhamhenaa.Lift
open Go.ChangeShapes Go.WideShapes Go.ChangeAt Go.RowKit Go.Proofs.YtinjkebhamhenaaW.PrintWords Go.Proofs.Ytinjkebhamhenaa.B Go.Proofs.Ytinjkebhamhenaa.PB
section
variable {H : Type} {enc : TypeId × Value → H} {W : World} {base : Nat} {v : Value} {d : DataW H} {ps : List MemPlace}
theorem okWide_array {P : Program} {r : Reach} {t e : TypeId} {n : Nat} (ht : P.underlying t = some (.array n e)) (h : Value.okWide P W r base t v) : ∃ cs, v = .agg cs ∧ cs.size = P.cellsOf t := by
  simp only [Value.okWide, ht] at h
  obtain ⟨cs, h1, h2, _⟩ := h
  exact ⟨cs, h1, h2⟩
/-- Numbers as bytes. -/
theorem list_vu8 : ∀ (cs : List Value), (∀ c ∈ cs, ∃ z, c = .int .u8 z ∧ (Lit.int .u8 z).wf = true) → ∃ a : List UInt8, cs = a.map vu8
  | [], _ => ⟨[], rfl⟩
  | c :: cs, h => by
    obtain ⟨z, rfl, hz⟩ := h c List.mem_cons_self
    obtain ⟨a, rfl⟩ := list_vu8 cs (fun c hc => h c (List.mem_cons_of_mem _ hc))
    exact ⟨UInt8.ofNat z.toNat :: a, by rw [List.map_cons, byte_wf hz]⟩
set_option maxRecDepth 100000 in
theorem cells_arr {n : Nat} {t : TypeId} (ht : Try.prog.underlying t = some (.array n 5)) (hc : Try.prog.cellsOf t = n) {fuel : Nat} {cs : List Value} {x : DataW H × List MemPlace} (h : DataW.trod enc Try.prog W 0 (fun _ => true) true fuel t cs = some x) :
    ∃ a : List UInt8, cs = a.map vu8 ∧ a.length = n := by
  obtain ⟨xs, m, _, _, hl, hxl, hx⟩ := DataW.trod_array ht h
  have c1 : Try.prog.cellsOf 5 = 1 := by kernel_rfl
  rw [hc] at hl
  obtain ⟨a, ha⟩ := list_vu8 cs (fun c hcm => by
    obtain ⟨i, hi⟩ := List.getElem?_of_mem hcm
    have hil := (List.getElem?_eq_some_iff.1 hi).1
    have h1 := hx i (by omega)
    rw [c1, Nat.mul_one, List.getElem?_eq_getElem (by omega : i < xs.length)] at h1
    have : (cs.drop i).take 1 = [c] := by
      rw [List.take_one, List.head?_drop, hi]
      rfl
    rw [this] at h1
    obtain ⟨z, e0, _, hw⟩ := DataW.trod_int Try.underlying5 h1
    simp at e0
    exact ⟨z, e0, hw⟩)
  exact ⟨a, ha, by rw [← hl, ha, List.length_map]⟩
set_option maxRecDepth 100000 in
theorem open_arr {n : Nat} {t : TypeId} (ht : Try.prog.underlying t = some (.array n 5)) (hc : Try.prog.cellsOf t = n) (hv : Value.okWide Try.prog W .any base t v) (h : DataW.Trod enc Try.prog W 0 (fun _ => true) true t v d ps) :
    ∃ a : List UInt8, v = Arr.av a ∧ a.length = n := by
  obtain ⟨cs, rfl, hs⟩ := okWide_array ht hv
  obtain ⟨fuel, hf⟩ := h
  obtain ⟨a, ha, hl⟩ := cells_arr ht hc hf
  refine ⟨a, ?_, hl⟩
  unfold Arr.av
  rw [← ha]
  rfl
end
end Go.Proofs.Ytinjkebhamhenaa.Lift
