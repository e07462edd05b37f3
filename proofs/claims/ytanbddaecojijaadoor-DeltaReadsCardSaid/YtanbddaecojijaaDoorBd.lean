/- Bytes in a block of memory of their own. -/
import Derived.Test.YtanbddaecojijaaDoorPB
set_option linter.unusedVariables false
set_option linter.unusedSimpArgs false
namespace Go.Proofs.YtanbddaecojijaaDoor.PB
open Go.RowKit Go.Proofs.YtanbddaecojijaaDoorW.PrintWords Go.Proofs.YtanbddaecojijaaDoor.B
def Bd (w : World) (g : Nat) (t : Nat) (xs : List UInt8) : Prop := w.heap[g]? = some (.cells (xs.map vu8).toArray t (0, 0))
section
variable {w w' : World} {g t : Nat} {xs : List UInt8}
theorem Bd.cell (h : Bd w g t xs) (i : Nat) (hi : i < xs.length) : w.cell? ⟨g, i, none⟩ = some (vu8 (xs.getD i 0)) := by
  rw [blk_cell h]
  simp [hi]
theorem Bd.frozen (h : Bd w g t xs) (i : Nat) : w.frozen? ⟨g, i, none⟩ = false := blk_frozen h i
theorem Bd.fr {S : Nat → Prop} (h : Bd w g t xs) (k : Fr S w w') (hs : ¬ S g) : Bd w' g t xs := k.heap h hs
theorem Bd.no (h : Bd w g t xs) (k : Fr No w w') : Bd w' g t xs := h.fr k id
theorem Bd.set (h : Bd w g t xs) (i : Nat) (x : UInt8) : Bd (w.setCell ⟨g, i, none⟩ (vu8 x)) g t (xs.set i x) := by
  have := blk_set h i (vu8 x)
  unfold Bd
  rw [this]
  simp
theorem Bd.lt (h : Bd w g t xs) : g < w.heap.size := blk_lt h
theorem Bd.cell? (h : Bd w g t xs) (i : Nat) : w.cell? ⟨g, i, none⟩ = (xs[i]?).map vu8 := by
  rw [blk_cell h]
  simp
/-- A slice of it. -/
theorem Bd.rd (h : Bd w g t xs) (o n c : Nat) (hn : o + n ≤ xs.length) (hc : n ≤ c) (hm : c ≤ maxLen) : RdB w (.slice (some ⟨g, o, none⟩) n c) ((xs.drop o).take n) := by
  have hl : ((xs.drop o).take n).length = n := by simp; omega
  refine ⟨_, c, by rw [hl], by omega, hm, fun _ => ⟨_, rfl, fun i u hu => ?_⟩⟩
  rw [u8_cells, List.getElem?_map] at hu
  rw [add_at, h.cell?]
  rw [List.getElem?_take] at hu
  split at hu
  · rw [List.getElem?_drop] at hu
    exact hu
  · cases hu
end
theorem set_pre (xs : List UInt8) (n i : Nat) (hl : xs.length = n) (hi : i < n) : (xs.take i ++ List.replicate (n - i) 0).set i (xs.getD i 0) = xs.take (i + 1) ++ List.replicate (n - (i + 1)) 0 := by
  have h1 : (xs.take i).length = i := by simp; omega
  rw [List.set_append_right _ _ (by omega), h1, Nat.sub_self, show n - i = (n - (i + 1)) + 1 by omega, List.replicate_succ, List.set_cons_zero, List.take_succ_eq_append_getElem (by omega), List.append_assoc]
  simp [List.getD, show i < xs.length by omega]
end Go.Proofs.YtanbddaecojijaaDoor.PB
