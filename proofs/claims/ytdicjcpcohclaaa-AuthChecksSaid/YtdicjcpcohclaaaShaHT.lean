/- The document's sum as a text, and its digits. -/
import Derived.Test.YtdicjcpcohclaaaShaS
import Derived.Test.YtdicjcpcohclaaaShaM
import Derived.Test.YtdicjcpcohclaaaShaT
set_option linter.unusedVariables false
set_option linter.unusedSimpArgs false
namespace Go.Proofs.Ytdicjcpcohclaaa.Sha
open Go.RowKit Go.Proofs.YtdicjcpcohclaaaW.PrintWords Go.Proofs.Ytdicjcpcohclaaa.B Go.Proofs.Ytdicjcpcohclaaa.PB

theorem b8_u8 (x : UInt8) : b8 (x.toNat : Int) = x := by rw [b8_nat]; simp
theorem box_u8 (x : UInt8) (W : World) : (convert 23 9 (.slice (some ⟨W.heap.size, 0, none⟩) 1 1)).run Try.prog (W.alloc (.cells #[vu8 x] 5)) = .ok (.string (bstr [x])) (W.alloc (.cells #[vu8 x] 5)) := by
  have := str_box W (x.toNat : Int)
  rw [b8_u8] at this
  exact this
theorem box2_u8 (x y : UInt8) (W : World) : (convert 23 9 (.slice (some ⟨W.heap.size, 0, none⟩) 2 2)).run Try.prog (W.alloc (.cells #[vu8 x, vu8 y] 5)) = .ok (.string (bstr [x, y])) (W.alloc (.cells #[vu8 x, vu8 y] 5)) := by
  have := str_box2 W (x.toNat : Int) (y.toNat : Int)
  rw [b8_u8, b8_u8] at this
  exact this
theorem data_bstr (xs : List UInt8) : (bstr xs).data.toList = xs := rfl
theorem size_bstr (xs : List UInt8) : (bstr xs).size = xs.length := bstr_size xs
theorem take_snoc (xs : List UInt8) (i : Nat) (hi : i < xs.length) : xs.take (i + 1) = xs.take i ++ [xs.getD i 0] := by
  rw [List.take_succ_eq_append_getElem hi]
  simp [List.getD, hi]

set_option maxHeartbeats 8000000 in
set_option maxRecDepth 100000 in
theorem ref_bytes_calls (bs : List UInt8) (hl : bs.length = 32) (w : World) : Calls Try.prog 56 #[Arr.av bs] w fun e w' => e = .returned (.string (bstr bs)) ∧ Fr No w w' := by
  unfold Arr.av
  have HL := Aside0.mk hl
  clear hl
  go_enter Try.func56, Try.ntmps56
  go_wp2_with fail
  have B0 : Aside0 (Bd (w.alloc (.cells (bs.map vu8).toArray 34)) w.heap.size 34 bs) := ⟨bd_new w _ _ rfl bs⟩
  have F0 : Aside0 (Fr No w (w.alloc (.cells (bs.map vu8).toArray 34))) := ⟨(Fr.refl _ _).alloc _⟩
  generalize w.alloc (.cells (bs.map vu8).toArray 34) = w0 at B0 F0 ⊢
  go_loopw [3, 4] (fun v3 v4 wr => ∃ i : Nat, v4 = .int .i64 i ∧ i ≤ 32 ∧ v3 = .string (bstr (bs.take i)) ∧ Aside0 (Bd wr w.heap.size 34 bs) ∧ Aside0 (Fr No w wr)) (fun _ v4 _ => 32 - (intOf v4).toNat)
  case atStart => exact ⟨0, rfl, by omega, rfl, B0, F0⟩
  case round =>
    clear B0 F0
    obtain ⟨i, rfl, hi, rfl, HB, HF⟩ := hrel
    by_cases hi32 : i < 32
    · have hI : (i : Int) < 32 := by omega
      obtain ⟨x, hx⟩ : ∃ x, bs.getD i 0 = x := ⟨_, rfl⟩
      have hc := HB.out.cell i (by rw [HL.out]; exact hi32)
      have hts := take_snoc bs i (by rw [HL.out]; exact hi32)
      rw [hx] at hc hts
      have hbx := box_u8 x
      have HTS := Aside0.mk hts
      clear hts hx
      go_wp2
      rw [← HTS.out]
      go_roundw
      case rel => exact ⟨i + 1, by go_num, by omega, rfl, ⟨HB.out.alloc _⟩, ⟨HF.out.alloc _⟩⟩
      case measure => simp [intOf]; omega
    · have hI : ¬ (i : Int) < 32 := by omega
      obtain rfl : i = 32 := by omega
      go_wp2
      go_ret
      rw [List.take_of_length_le (by rw [HL.out]; exact Nat.le_refl _)]
      exact ⟨rfl, HF.out⟩
theorem dig_index64 (k : Nat) (hk : k < 16) (W : World) : (Instr.index 9 (.string ⟨#[48, 49, 50, 51, 52, 53, 54, 55, 56, 57, 97, 98, 99, 100, 101, 102]⟩) (.int .i64 (k : Int))).run Try.prog W = .ok (vu8 (hexd k)) W := by
  rcases (by omega : k = 0 ∨ k = 1 ∨ k = 2 ∨ k = 3 ∨ k = 4 ∨ k = 5 ∨ k = 6 ∨ k = 7 ∨ k = 8 ∨ k = 9 ∨ k = 10 ∨ k = 11 ∨ k = 12 ∨ k = 13 ∨ k = 14 ∨ k = 15) with rfl | rfl | rfl | rfl | rfl | rfl | rfl | rfl | rfl | rfl | rfl | rfl | rfl | rfl | rfl | rfl <;> kernel_rfl
set_option maxHeartbeats 8000000 in
set_option maxRecDepth 100000 in
theorem ref_text_calls (bs : List UInt8) (hl : bs.length = 32) (w : World) : Calls Try.prog 30 #[Arr.av bs] w fun e w' => e = .returned (.string (bstr (hex bs))) ∧ Fr No w w' := by
  unfold Arr.av
  have HL := Aside0.mk hl
  clear hl
  go_enter Try.func30, Try.ntmps30
  go_wp2_with fail
  have B0 : Aside0 (Bd (w.alloc (.cells (bs.map vu8).toArray 34)) w.heap.size 34 bs) := ⟨bd_new w _ _ rfl bs⟩
  have F0 : Aside0 (Fr No w (w.alloc (.cells (bs.map vu8).toArray 34))) := ⟨(Fr.refl _ _).alloc _⟩
  generalize w.alloc (.cells (bs.map vu8).toArray 34) = w0 at B0 F0 ⊢
  go_loopw [4, 5] (fun v4 v5 wr => ∃ i : Nat, v5 = .int .i64 i ∧ i ≤ 32 ∧ v4 = .string (bstr (hex (bs.take i))) ∧ Aside0 (Bd wr w.heap.size 34 bs) ∧ Aside0 (Fr No w wr)) (fun _ v5 _ => 32 - (intOf v5).toNat)
  case atStart => exact ⟨0, rfl, by omega, rfl, B0, F0⟩
  case round =>
    clear B0 F0
    obtain ⟨i, rfl, hi, rfl, HB, HF⟩ := hrel
    by_cases hi32 : i < 32
    · have hI : (i : Int) < 32 := by omega
      obtain ⟨y, hx⟩ : ∃ y, bs.getD i 0 = y := ⟨_, rfl⟩
      have hc := HB.out.cell i (by rw [HL.out]; exact hi32)
      have hts := take_snoc bs i (by rw [HL.out]; exact hi32)
      rw [hx] at hc hts
      have hxs := hex_snoc (bs.take i) y
      rw [← hts] at hxs
      have hxl := y.toNat_lt
      have hln : (hex (bs.take i)).length ≤ 64 := by have := HL.out; rw [hex_length, List.length_take]; omega
      have hxz : (0 : Int) ≤ (y.toNat : Int) := Int.natCast_nonneg _
      have hxm : (y.toNat : Int) ≤ 255 := by omega
      have hw16 : IntKind.i64.wrap ((y.toNat : Int) / 16) = (y.toNat : Int) / 16 := by rw [IntKind.wrap_i64]; omega
      have ht16 : ((y.toNat : Int)).tmod 16 = (y.toNat : Int) % 16 := rfl
      have hw17 : IntKind.i64.wrap ((y.toNat : Int) % 16) = (y.toNat : Int) % 16 := by rw [IntKind.wrap_i64]; omega
      have HXS := Aside0.mk hxs
      have D1 := fun W => dig_index64 (y.toNat / 16) (by omega) W
      have D2 := fun W => dig_index64 (y.toNat % 16) (by omega) W
      rw [show ((y.toNat / 16 : Nat) : Int) = (y.toNat : Int) / 16 from rfl] at D1
      rw [show ((y.toNat % 16 : Nat) : Int) = (y.toNat : Int) % 16 from rfl] at D2
      have hbx := box2_u8 (hexd (y.toNat / 16)) (hexd (y.toNat % 16))
      clear hts hx hxs
      go_wp2_with fail
      refine Rg.start (fun _ _ => True) (by kernel_rfl) (by kernel_rfl) [9] [[6, 7, 5, 8, 2, 3, 1, 4, 9]] (by kernel_rfl) (.q 0 1 (.q 1 0 (.q 2 0 (.q 3 0 (.q 4 0 (.q 5 0 (.q 6 0 (.q 7 0 (.q 8 0 (.e 9 1 (.q 10 1 (.q 11 1 (.q 12 1 (.done)))))))))))))) (by kernel_rfl) ?_ ?_
      · exact fun _ => trivial
      repeat (first
        | (refine Rg.q (o := ?_) (v := ?_) ?_ ?_ ?_ ?_ ?_
           rotate_left 2
           · (simp only [List.getElem?_toArray, List.getElem?_cons_succ, List.getElem?_cons_zero]; rfl)
           · exact fun _ _ _ h => h
           · first | rfl | (go_simp; done)
           · (intro x_ hx; (try dsimp only at hx); (clear hx); go_simp; (try rw [if_neg (by omega)]); (try rw [if_pos (by omega)]); (try go_simp); try with_reducible rfl)
           try simp only [Act.put, List.setIfInBounds_toArray, List.set_cons_zero, List.set_cons_succ])
        | (refine Rg.skip (o := ?_) ?_ ?_ ?_ ?_
           rotate_left 1
           · (simp only [List.getElem?_toArray, List.getElem?_cons_succ, List.getElem?_cons_zero]; rfl)
           · exact fun _ _ _ h => h
           · first | rfl | (go_simp; done)
           try simp only [Act.put, List.setIfInBounds_toArray, List.set_cons_zero, List.set_cons_succ]))
      refine Rg.e (o := ?_) ?_ ?_
      rotate_left 1
      · (simp only [List.getElem?_toArray, List.getElem?_cons_succ, List.getElem?_cons_zero]; rfl)
      intro K hK
      go_simp
      refine hK.out _ _ (fun _ x => (convert 23 9 (.slice (some ⟨wr.heap.size, 0, Option.none⟩) 2 2)).run Try.prog x = .ok (.string (bstr [hexd (y.toNat / 16), hexd (y.toNat % 16)])) x) (fun k x hk h => trivial) ?_ ?_
      · exact fun _ _ => hbx wr.drew
      try simp only [Act.put, List.setIfInBounds_toArray, List.set_cons_zero, List.set_cons_succ]
      repeat (first
        | (refine Rg.q (o := ?_) (v := ?_) ?_ ?_ ?_ ?_ ?_
           rotate_left 2
           · (simp only [List.getElem?_toArray, List.getElem?_cons_succ, List.getElem?_cons_zero]; rfl)
           · exact fun _ _ _ h => h
           · first | rfl | (go_simp; done)
           · (intro x_ hx; (try dsimp only at hx); (have q0 := hx; clear hx); go_simp; (try rw [if_neg (by omega)]); (try rw [if_pos (by omega)]); (try go_simp); try with_reducible rfl)
           try simp only [Act.put, List.setIfInBounds_toArray, List.set_cons_zero, List.set_cons_succ])
        | (refine Rg.skip (o := ?_) ?_ ?_ ?_ ?_
           rotate_left 1
           · (simp only [List.getElem?_toArray, List.getElem?_cons_succ, List.getElem?_cons_zero]; rfl)
           · exact fun _ _ _ h => h
           · first | rfl | (go_simp; done)
           try simp only [Act.put, List.setIfInBounds_toArray, List.set_cons_zero, List.set_cons_succ]))
      refine Rg.done ?_
      go_simp
      clear D1 D2 hbx
      go_wp2
      rw [← HXS.out]
      go_roundw
      case rel => exact ⟨i + 1, by go_num, by omega, rfl, ⟨(HB.out.alloc _)⟩, ⟨(HF.out.alloc _).drew⟩⟩
      case measure => simp [intOf]; omega
    · have hI : ¬ (i : Int) < 32 := by omega
      obtain rfl : i = 32 := by omega
      go_wp2
      go_ret
      rw [List.take_of_length_le (by rw [HL.out]; exact Nat.le_refl _)]
      exact ⟨rfl, HF.out⟩
end Go.Proofs.Ytdicjcpcohclaaa.Sha
