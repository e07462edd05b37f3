/- A [][]byte that came in. -/
import Derived.Test.YtdicjcpcohclaaaDoorLift
import Derived.Test.YtdicjcpcohclaaaDoorVs
import Derived.Deep.Matrix
set_option linter.unusedVariables false
set_option linter.unusedSimpArgs false
namespace Go.Proofs.YtdicjcpcohclaaaDoor.Lift
open Go.ChangeShapes Go.WideShapes Go.ChangeAt Go.RowKit Go.Proofs.YtdicjcpcohclaaaDoorW.PrintWords Go.Proofs.YtdicjcpcohclaaaDoor.B Go.Proofs.YtdicjcpcohclaaaDoor.PB
section
variable {H : Type} {enc : TypeId × Value → H} {W : World} {base : Nat} {v : Value} {d : DataW H} {ps : List MemPlace}
/-- One row of numbers as bytes. -/
theorem row_bytes {A : Option Addr} {L C : Nat} {zs : List Int} (hl : L ≤ C) (hm : C ≤ maxLen) (hz : zs.length = C) (hw : ∀ n ∈ zs, (Lit.int .u8 n).wf = true) (hn : A = none → C = 0) (hc : ∀ a', A = some a' → ∀ c, c < C → W.cell? (a'.add c) = some (.int .u8 (zs.getD c 0))) :
    RdB W (.slice A L C) ((zs.take L).map fun z => UInt8.ofNat z.toNat) := by
  have hlen : ((zs.take L).map fun z => UInt8.ofNat z.toNat).length = L := by simp; omega
  refine ⟨A, C, by rw [hlen], by rw [hlen]; exact hl, hm, fun h0 => ?_⟩
  cases A with
  | none =>
    have := hn rfl
    rw [hlen] at h0
    omega
  | some x =>
    refine ⟨x, rfl, fun i u hu => ?_⟩
    rw [u8_cells, List.map_map] at hu
    rw [List.getElem?_map] at hu
    obtain ⟨z, hzz, rfl⟩ := Option.map_eq_some_iff.1 hu
    have hi : i < L := by
      have := (List.getElem?_eq_some_iff.1 hzz).1
      simp at this
      omega
    rw [List.getElem?_take, if_pos hi] at hzz
    have hzm : z ∈ zs := List.mem_of_getElem? hzz
    rw [hc x rfl i (by omega)]
    simp only [Function.comp]
    rw [byte_wf (hw z hzm)]
    simp [List.getD, hzz]
set_option maxRecDepth 100000 in
theorem open_rows (hv : Value.okWide Tryd.prog W .any base 73 v) (h : DataW.Trod enc Tryd.prog W 0 (fun _ => true) true 73 v d ps) :
    ∃ xs : List (List UInt8), RdV W v xs := by
  obtain ⟨a, len, cap, rfl⟩ := okWide_slice Tryd.underlying73 hv
  obtain ⟨fuel, hf⟩ := h
  rcases Deep.open_int_rows Tryd.underlying73 Tryd.underlying22 Tryd.underlying5 (by kernel_rfl) (by kernel_rfl) hf with ⟨hcs, _⟩ | ⟨x, l, c, A, L, C, Z, hcs, _, hl, hm, _, hrow⟩
  · simp [Value.cells] at hcs
    obtain ⟨rfl, rfl, rfl⟩ := hcs
    exact ⟨[], [], Rd.nil _ _, rfl, fun j s hs => by simp at hs⟩
  · simp [Value.cells] at hcs
    obtain ⟨rfl, rfl, rfl⟩ := hcs
    refine ⟨(List.range len).map fun r => ((Z r).take (L r)).map fun z => UInt8.ofNat z.toNat, (List.range len).map fun r => ⟨A r, L r, C r⟩, ⟨some x, cap, by simp, by simpa using hl, hm, fun h0 => ⟨x, rfl, fun i u hu => ?_⟩⟩, by simp, fun j s hs => ?_⟩
    · rw [vsl_cells, List.map_map, List.getElem?_map] at hu
      obtain ⟨r, hr, rfl⟩ := Option.map_eq_some_iff.1 hu
      have hrl : i < len := by
        have := (List.getElem?_eq_some_iff.1 hr).1
        simpa using this
      rw [List.getElem?_range hrl] at hr
      injection hr with hr
      subst hr
      exact (hrow i (by omega)).1
    · rw [List.getElem?_map] at hs
      obtain ⟨r, hr, rfl⟩ := Option.map_eq_some_iff.1 hs
      have hrl : j < len := by
        have := (List.getElem?_eq_some_iff.1 hr).1
        simpa using this
      rw [List.getElem?_range hrl] at hr
      injection hr with hr
      subst hr
      obtain ⟨_, q1, q2, q3, q4, q5, q6⟩ := hrow j (by omega)
      have : ((List.range len).map fun r => ((Z r).take (L r)).map fun z => UInt8.ofNat z.toNat).getD j [] = ((Z j).take (L j)).map fun z => UInt8.ofNat z.toNat := by
        simp [List.getD, hrl]
      rw [this]
      exact row_bytes q1 q2 q3 q4 q5 (fun a' ha => (q6 a' ha).2)
end
end Go.Proofs.YtdicjcpcohclaaaDoor.Lift
