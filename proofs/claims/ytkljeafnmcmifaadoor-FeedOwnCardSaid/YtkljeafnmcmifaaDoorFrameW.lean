/- The document's Write of a frame. -/
import Derived.Test.YtkljeafnmcmifaaDoorFrame
set_option linter.unusedVariables false
set_option linter.unusedSimpArgs false
namespace Go.Proofs.YtkljeafnmcmifaaDoor.Frm
open Go.RowKit Go.Proofs.YtkljeafnmcmifaaDoorW.PrintWords Go.Proofs.YtkljeafnmcmifaaDoor.B Go.Proofs.YtkljeafnmcmifaaDoor.PB Go.Proofs.YtkljeafnmcmifaaDoor.SCode Go.Proofs.YtkljeafnmcmifaaDoor.Rdr
attribute [local go_sem] B.max2_int B.min2_int B.max_two B.min_two

theorem sum_head (k s : Int) (h1 : 1 ≤ k) (h2 : k ≤ 31) (h3 : 0 ≤ s) (h4 : s ≤ 7) : IntKind.u8.wrap (IntKind.i64.wrap (IntKind.i64.wrap (k * 8) + s)) = ((headB k s).toNat : Int) := by
  obtain ⟨k, rfl⟩ := Int.eq_ofNat_of_zero_le (Int.le_trans (by decide) h1)
  obtain ⟨s, rfl⟩ := Int.eq_ofNat_of_zero_le h3
  have : ∀ k, k < 32 → ∀ s, s < 8 → IntKind.u8.wrap (IntKind.i64.wrap (IntKind.i64.wrap (((k : Nat) : Int) * 8) + (s : Nat))) = ((headB k s).toNat : Int) := by decide +kernel
  exact this k (by omega) s (by omega)
theorem rd_box (W : World) (x : UInt8) : RdB (W.alloc (.cells #[vu8 x] 5)) (.slice (some ⟨W.heap.size, 0, none⟩) 1 1) [x] :=
  ⟨_, 1, rfl, by simp, by simp [maxLen], fun _ => ⟨_, rfl, fun i u hu => by
    rw [u8_cells] at hu
    exact heap_new_cells W [vu8 x] 5 i u hu⟩⟩

end Go.Proofs.YtkljeafnmcmifaaDoor.Frm
