/- The program's digits of a sum. -/
import Derived.Test.YtdicjcpcohclaaaShaR
import Derived.Test.YtdicjcpcohclaaaArr
import Derived.Test.YtdicjcpcohclaaaRowS
import Derived.Test.YtdicjcpcohclaaaBd
import Derived.Test.YtdicjcpcohclaaaRegion
set_option linter.unusedVariables false
set_option linter.unusedSimpArgs false
namespace Go.Proofs.Ytdicjcpcohclaaa.Sha
open Go.RowKit Go.Proofs.YtdicjcpcohclaaaW.PrintWords Go.Proofs.Ytdicjcpcohclaaa.B Go.Proofs.Ytdicjcpcohclaaa.PB

theorem dig_index (k : Nat) (hk : k < 16) (W : World) : (Instr.index 9 (.string ⟨#[48, 49, 50, 51, 52, 53, 54, 55, 56, 57, 97, 98, 99, 100, 101, 102]⟩) (.int .u8 (k : Int))).run Try.prog W = .ok (vu8 (hexd k)) W := by
  rcases (by omega : k = 0 ∨ k = 1 ∨ k = 2 ∨ k = 3 ∨ k = 4 ∨ k = 5 ∨ k = 6 ∨ k = 7 ∨ k = 8 ∨ k = 9 ∨ k = 10 ∨ k = 11 ∨ k = 12 ∨ k = 13 ∨ k = 14 ∨ k = 15) with rfl | rfl | rfl | rfl | rfl | rfl | rfl | rfl | rfl | rfl | rfl | rfl | rfl | rfl | rfl | rfl <;> kernel_rfl
theorem and15 (x : UInt8) : bits .and .u8 (x.toNat : Int) 15 = (x.toNat : Int) % 16 := by
  have h := (bits_nat3 .u8 8 (by decide) (fun n h0 h1 => by rw [IntKind.wrap_u8]; omega) x.toNat 15 x.toNat_lt (by decide)).1
  rw [show ((15 : Nat) : Int) = 15 from rfl] at h
  rw [h, show x.toNat &&& 15 = x.toNat % 16 from Nat.and_two_pow_sub_one_eq_mod x.toNat 4]
  rfl
theorem hex_snoc (xs : List UInt8) (x : UInt8) : hex (xs ++ [x]) = hex xs ++ [hexd (x.toNat / 16), hexd (x.toNat % 16)] := by simp [hex]
theorem hex_length (xs : List UInt8) : (hex xs).length = 2 * xs.length := by
  induction xs with
  | nil => rfl
  | cons x xs ih => simp only [hex, List.flatMap_cons, List.length_append, List.length_cons, List.length_nil] at *; omega
set_option maxHeartbeats 8000000 in
set_option maxRecDepth 100000 in
theorem text_calls (bs : List UInt8) (hl : bs.length = 32) (w : World) : Calls Try.prog 29 #[Arr.av bs] w fun e w' => e = .returned (.string (bstr (hex bs))) ∧ Fr No w w' := by
  unfold Arr.av
  generalize hcs : (bs.map vu8).toArray = cs
  have hsz : cs.size = 32 := by rw [← hcs]; simp [hl]
  have HCS := Aside0.mk hcs; have HL := Aside0.mk hl; have HSZ := Aside0.mk hsz
  clear hcs hl hsz
  go_enter Try.func29, Try.ntmps29
  go_wp2_with (refine PB.ldRow (.tmp 1) 34 w.heap.size 34 cs (0, 0) _ rfl rfl rfl (heap_alloc_new w _) Try.underlying34 ⟨_, _, rfl⟩ (by rw [HSZ.out]; kernel_rfl) ?_)
  have F0 : Aside0 (Fr No w (w.alloc (.cells cs 34))) := ⟨(Fr.refl _ _).alloc _⟩
  generalize w.alloc (.cells cs 34) = w0 at F0 ⊢
  have O0 : Aside0 (OwB w0 (.slice none 0 0) []) := ⟨Ow.nil _ _ _⟩
  go_loopw [3, 7] (fun v3 v7 wr => ∃ i : Nat, v7 = .int .i64 i ∧ i ≤ 32 ∧ Aside0 (OwB wr v3 (hex (bs.take i))) ∧ Aside0 (Fr No w wr) ∧ Aside0 (∀ k, w.heap.size > k → ¬ blk v3 k)) (fun _ v7 _ => 32 - (intOf v7).toNat)
  case atStart => exact ⟨0, rfl, by omega, O0, F0, ⟨fun k _ h => by simp [blk, Value.ownBlock] at h⟩⟩
  case round =>
    obtain ⟨i, rfl, hi, HO, HF, HK⟩ := hrel
    by_cases hi32 : i < 32
    · have hI : (i : Int) < 32 := by omega
      obtain ⟨x, hx⟩ : ∃ x, bs.getD i 0 = x := ⟨_, rfl⟩
      have hbl := HL.out
      have hix : cs[i]? = some (vu8 x) := by rw [← HCS.out, ← hx]; simp [List.getD, show i < bs.length by omega]
      have hidx := fun W => Arr.run_index Try.underlying34 (by kernel_rfl) (by kernel_rfl) cs i (vu8 x) hi32 hix W
      have hts : bs.take (i + 1) = bs.take i ++ [x] := by
        rw [List.take_succ_eq_append_getElem (by omega), ← hx]
        simp [List.getD, show i < bs.length by omega]
      have hln : (hex (bs.take i)).length ≤ 64 := by rw [hex_length, List.length_take]; omega
      have HTS := Aside0.mk hts
      have hxl := x.toNat_lt
      have D1 := fun W => dig_index (x.toNat / 16) (by omega) W
      have D2 := fun W => dig_index (x.toNat % 16) (by omega) W
      rw [show ((x.toNat / 16 : Nat) : Int) = (x.toNat : Int) / 16 from rfl] at D1
      rw [show ((x.toNat % 16 : Nat) : Int) = (x.toNat : Int) % 16 from rfl] at D2
      have hb15 := and15 x
      clear hx hix hts hbl
      go_wp2_with fail
      clear hidx
      refine Rg.start (fun _ _ => True) (by kernel_rfl) (by kernel_rfl) [7, 8] [[4, 5, 6, 1, 2, 3, 7], [4, 5, 6, 1, 2, 3, 7, 0, 8]] (by kernel_rfl) (.q 0 1 (.q 1 0 (.q 2 0 (.q 3 0 (.q 4 0 (.q 5 0 (.q 6 0 (.e 7 1 (.e 8 2 (.q 9 2 (.done))))))))))) (by kernel_rfl) ?_ ?_
      · exact fun _ => trivial
      repeat (first
        | (refine Rg.q (o := ?_) (v := ?_) ?_ ?_ ?_ ?_ ?_
           rotate_left 2
           · (simp only [List.getElem?_toArray, List.getElem?_cons_succ, List.getElem?_cons_zero]; rfl)
           · exact fun _ _ _ h => h
           · first | rfl | (go_simp; done)
           · (intro x_ hx; (try dsimp only at hx); (clear hx); go_simp; (try rw [if_neg (by omega)]); (try rw [if_pos (by omega)]); (try go_simp); try with_reducible rfl)
           try simp only [Act.put, List.setIfInBounds_toArray, List.set_cons_zero, List.set_cons_succ])
        | (refine Rg.skip (o := ?_) ?_ ?_ ?_ ?_
           rotate_left 1
           · (simp only [List.getElem?_toArray, List.getElem?_cons_succ, List.getElem?_cons_zero]; rfl)
           · exact fun _ _ _ h => h
           · first | rfl | (go_simp; done)
           try simp only [Act.put, List.setIfInBounds_toArray, List.set_cons_zero, List.set_cons_succ]))
      refine Rg.e (o := ?_) ?_ ?_
      rotate_left 1
      · (simp only [List.getElem?_toArray, List.getElem?_cons_succ, List.getElem?_cons_zero]; rfl)
      intro K hK
      go_simp
      refine hK.out _ _ (fun _ _ => True) (fun k x hk h => trivial) ?_ ?_
      · exact fun _ _ => trivial
      try simp only [Act.put, List.setIfInBounds_toArray, List.set_cons_zero, List.set_cons_succ]
      refine Rg.e (o := ?_) ?_ ?_
      rotate_left 1
      · (simp only [List.getElem?_toArray, List.getElem?_cons_succ, List.getElem?_cons_zero]; rfl)
      intro K hK
      rw [if_pos (by first | rfl | (go_simp; done))]
      have hfr : Fr No wr (wr.drew.alloc (.cells #[vu8 (hexd (x.toNat / 16)), vu8 (hexd (x.toNat % 16))] 5)) := ((Fr.refl _ _).drew).alloc _
      have hrd : RdB (wr.drew.alloc (.cells #[vu8 (hexd (x.toNat / 16)), vu8 (hexd (x.toNat % 16))] 5)) (.slice (some ⟨wr.heap.size, 0, none⟩) 2 2) [hexd (x.toNat / 16), hexd (x.toNat % 16)] := Bd.rd (heap_alloc_new wr.drew _ : Bd _ _ _ [hexd (x.toNat / 16), hexd (x.toNat % 16)]) 0 2 2 (by simp) (by simp) (by simp [maxLen])
      refine opBs _ (hex (bs.take i)) (.slice (some ⟨wr.heap.size, 0, none⟩) 2 2) [hexd (x.toNat / 16), hexd (x.toNat % 16)] (.tmp 10) (.tmp 17) rfl rfl rfl (HO.out.no hfr) hrd (by simp only [List.length_cons, List.length_nil]; omega) ?_
      intro v2 w2 h1 h2 h3 h4
      rw [← hex_snoc, ← HTS.out] at h1
      have hsz : w.heap.size ≤ wr.heap.size := HF.out.size
      have HK2 : Aside0 (∀ k, w.heap.size > k → ¬ blk v2 k) := ⟨fun k hk hb => HK.out k hk (h3.back hb (Nat.lt_of_lt_of_le (Nat.lt_of_lt_of_le hk hsz) hfr.size))⟩
      have HF2 : Aside0 (Fr No w w2) := ⟨(HF.out.none hfr).trans h2 (fun k hk hb => HK.out k hk hb)⟩
      have HO2 := Aside0.mk h1
      clear h1 h2 h3 h4 hfr hrd HO HF HK D1 D2 hsz
      refine hK.out _ _ (fun _ _ => True) (fun k x hk h => trivial) ?_ ?_
      · exact fun _ _ => trivial
      try simp only [Act.put, List.setIfInBounds_toArray, List.set_cons_zero, List.set_cons_succ]
      repeat (first
        | (refine Rg.q (o := ?_) (v := ?_) ?_ ?_ ?_ ?_ ?_
           rotate_left 2
           · (simp only [List.getElem?_toArray, List.getElem?_cons_succ, List.getElem?_cons_zero]; rfl)
           · exact fun _ _ _ h => h
           · first | rfl | (go_simp; done)
           · (intro x_ hx; (try dsimp only at hx); (clear hx); go_simp; (try rw [if_neg (by omega)]); (try rw [if_pos (by omega)]); (try go_simp); try with_reducible rfl)
           try simp only [Act.put, List.setIfInBounds_toArray, List.set_cons_zero, List.set_cons_succ])
        | (refine Rg.skip (o := ?_) ?_ ?_ ?_ ?_
           rotate_left 1
           · (simp only [List.getElem?_toArray, List.getElem?_cons_succ, List.getElem?_cons_zero]; rfl)
           · exact fun _ _ _ h => h
           · first | rfl | (go_simp; done)
           try simp only [Act.put, List.setIfInBounds_toArray, List.set_cons_zero, List.set_cons_succ]))
      refine Rg.done ?_
      go_simp
      go_wp2
      go_roundw
      case rel => exact ⟨i + 1, by go_num, by omega, HO2, HF2, HK2⟩
      case measure => simp [intOf]; omega
    · have hI : ¬ (i : Int) < 32 := by omega
      obtain rfl : i = 32 := by omega
      have hst := str_of_rd HO.out.rd
      go_wp2
      go_ret
      rw [List.take_of_length_le (by rw [HL.out]; exact Nat.le_refl _)]
      exact ⟨rfl, HF.out⟩
end Go.Proofs.Ytdicjcpcohclaaa.Sha
