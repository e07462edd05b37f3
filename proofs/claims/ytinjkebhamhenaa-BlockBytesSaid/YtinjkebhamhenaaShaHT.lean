/- The document's sum as a text, and its digits. -/
import Derived.Test.YtinjkebhamhenaaShaS
import Derived.Test.YtinjkebhamhenaaArr
set_option linter.unusedVariables false
set_option linter.unusedSimpArgs false
namespace Go.Proofs.Ytinjkebhamhenaa.Sha
open Go.RowKit Go.Proofs.YtinjkebhamhenaaW.PrintWords Go.Proofs.Ytinjkebhamhenaa.B Go.Proofs.Ytinjkebhamhenaa.PB

theorem b8_u8 (x : UInt8) : b8 (x.toNat : Int) = x := by rw [b8_nat]; simp
theorem box_u8 (x : UInt8) (W : World) : (convert 22 9 (.slice (some ⟨W.heap.size, 0, none⟩) 1 1)).run Try.prog (W.alloc (.cells #[vu8 x] 5)) = .ok (.string (bstr [x])) (W.alloc (.cells #[vu8 x] 5)) := by
  have := str_box W (x.toNat : Int)
  rw [b8_u8] at this
  exact this
theorem box2_u8 (x y : UInt8) (W : World) : (convert 22 9 (.slice (some ⟨W.heap.size, 0, none⟩) 2 2)).run Try.prog (W.alloc (.cells #[vu8 x, vu8 y] 5)) = .ok (.string (bstr [x, y])) (W.alloc (.cells #[vu8 x, vu8 y] 5)) := by
  have := str_box2 W (x.toNat : Int) (y.toNat : Int)
  rw [b8_u8, b8_u8] at this
  exact this
theorem data_bstr (xs : List UInt8) : (bstr xs).data.toList = xs := rfl
theorem size_bstr (xs : List UInt8) : (bstr xs).size = xs.length := bstr_size xs
theorem take_snoc (xs : List UInt8) (i : Nat) (hi : i < xs.length) : xs.take (i + 1) = xs.take i ++ [xs.getD i 0] := by
  rw [List.take_succ_eq_append_getElem hi]
  simp [List.getD, hi]

set_option maxHeartbeats 8000000 in
set_option maxRecDepth 100000 in
theorem ref_bytes_calls (bs : List UInt8) (hl : bs.length = 32) (w : World) : Calls Try.prog 34 #[Arr.av bs] w fun e w' => e = .returned (.string (bstr bs)) ∧ Fr No w w' := by
  unfold Arr.av
  have HL := Aside0.mk hl
  clear hl
  go_enter Try.func34, Try.ntmps34
  go_wp2_with fail
  have B0 : Aside0 (Bd (w.alloc (.cells (bs.map vu8).toArray 53)) w.heap.size 53 bs) := ⟨bd_new w _ _ rfl bs⟩
  have F0 : Aside0 (Fr No w (w.alloc (.cells (bs.map vu8).toArray 53))) := ⟨(Fr.refl _ _).alloc _⟩
  generalize w.alloc (.cells (bs.map vu8).toArray 53) = w0 at B0 F0 ⊢
  go_loopw [3, 4] (fun v3 v4 wr => ∃ i : Nat, v4 = .int .i64 i ∧ i ≤ 32 ∧ v3 = .string (bstr (bs.take i)) ∧ Aside0 (Bd wr w.heap.size 53 bs) ∧ Aside0 (Fr No w wr)) (fun _ v4 _ => 32 - (intOf v4).toNat)
  case atStart => exact ⟨0, rfl, by omega, rfl, B0, F0⟩
  case round =>
    clear B0 F0
    obtain ⟨i, rfl, hi, rfl, HB, HF⟩ := hrel
    by_cases hi32 : i < 32
    · have hI : (i : Int) < 32 := by omega
      obtain ⟨x, hx⟩ : ∃ x, bs.getD i 0 = x := ⟨_, rfl⟩
      have hc := HB.out.cell i (by rw [HL.out]; exact hi32)
      have hts := take_snoc bs i (by rw [HL.out]; exact hi32)
      rw [hx] at hc hts
      have hbx := box_u8 x
      have HTS := Aside0.mk hts
      clear hts hx
      go_wp2
      rw [← HTS.out]
      go_roundw
      case rel => exact ⟨i + 1, by go_num, by omega, rfl, ⟨HB.out.alloc _⟩, ⟨HF.out.alloc _⟩⟩
      case measure => simp [intOf]; omega
    · have hI : ¬ (i : Int) < 32 := by omega
      obtain rfl : i = 32 := by omega
      go_wp2
      go_ret
      rw [List.take_of_length_le (by rw [HL.out]; exact Nat.le_refl _)]
      exact ⟨rfl, HF.out⟩
end Go.Proofs.Ytinjkebhamhenaa.Sha
