/- The document's sum as a text, and its digits. -/
import Derived.Test.YtebgkmfecmlanaaShaS
import Derived.Test.YtebgkmfecmlanaaArr
set_option linter.unusedVariables false
set_option linter.unusedSimpArgs false
namespace Go.Proofs.Ytebgkmfecmlanaa.Sha
open Go.RowKit Go.Proofs.YtebgkmfecmlanaaW.PrintWords Go.Proofs.Ytebgkmfecmlanaa.B Go.Proofs.Ytebgkmfecmlanaa.PB

theorem b8_u8 (x : UInt8) : b8 (x.toNat : Int) = x := by rw [b8_nat]; simp
theorem box_u8 (x : UInt8) (W : World) : (convert 22 9 (.slice (some ⟨W.heap.size, 0, none⟩) 1 1)).run Try.prog (W.alloc (.cells #[vu8 x] 5)) = .ok (.string (bstr [x])) (W.alloc (.cells #[vu8 x] 5)) := by
  have := str_box W (x.toNat : Int)
  rw [b8_u8] at this
  exact this
theorem box2_u8 (x y : UInt8) (W : World) : (convert 22 9 (.slice (some ⟨W.heap.size, 0, none⟩) 2 2)).run Try.prog (W.alloc (.cells #[vu8 x, vu8 y] 5)) = .ok (.string (bstr [x, y])) (W.alloc (.cells #[vu8 x, vu8 y] 5)) := by
  have := str_box2 W (x.toNat : Int) (y.toNat : Int)
  rw [b8_u8, b8_u8] at this
  exact this
theorem data_bstr (xs : List UInt8) : (bstr xs).data.toList = xs := rfl
theorem size_bstr (xs : List UInt8) : (bstr xs).size = xs.length := bstr_size xs
theorem take_snoc (xs : List UInt8) (i : Nat) (hi : i < xs.length) : xs.take (i + 1) = xs.take i ++ [xs.getD i 0] := by
  rw [List.take_succ_eq_append_getElem hi]
  simp [List.getD, hi]

end Go.Proofs.Ytebgkmfecmlanaa.Sha
