/- The head 'reads' of the frame's laws. -/
import Derived.Test.YtkljeafnmcmifaaDoorFrameD
import Derived.Lib.SlBytesConst
set_option linter.unusedVariables false
set_option linter.unusedSimpArgs false
namespace Go.Proofs.YtkljeafnmcmifaaDoor.Frm
open Go.RowKit Go.Proofs.YtkljeafnmcmifaaDoorW.PrintWords Go.Proofs.YtkljeafnmcmifaaDoor.B Go.Proofs.YtkljeafnmcmifaaDoor.PB Go.Proofs.YtkljeafnmcmifaaDoor.SCode Go.Proofs.YtkljeafnmcmifaaDoor.Rdr
attribute [local go_sem] B.max2_int B.min2_int B.max_two B.min_two

theorem frame_x : frameB 3 2 [120] = [26, 1, 120] := by
  rw [frameB, numI, show clampN (([120] : List UInt8).length : Int) = 1 from rfl, numB_small 1 (by omega)]; rfl
theorem read_x : readS [26, 1, 120] = (3, 2, [120], 3, none) := by decide +kernel

/-- A literal's row, marked or not. -/
theorem rd_lit (W : World) (xs : List UInt8) (e : Nat) (fz : Nat × Nat) (hm : xs.length ≤ maxLen) : RdB (W.alloc (.cells (xs.map vu8).toArray e fz)) (.slice (some ⟨W.heap.size, 0, none⟩) xs.length xs.length) xs := by
  refine ⟨_, xs.length, rfl, Nat.le_refl _, hm, fun _ => ⟨_, rfl, fun i u hu => ?_⟩⟩
  rw [u8_cells] at hu
  rw [add_plain]
  have := (List.getElem?_eq_some_iff.1 hu).1
  simpa [World.cell?, World.alloc, -World.alloc_eq] using hu

end Go.Proofs.YtkljeafnmcmifaaDoor.Frm
