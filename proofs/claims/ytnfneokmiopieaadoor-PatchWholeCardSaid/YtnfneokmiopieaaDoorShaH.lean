/- The document's sum as a text, and its digits. The document's sum: cut, with a key. -/
import Derived.Test.YtnfneokmiopieaaDoorShaS
import Derived.Test.YtnfneokmiopieaaDoorArr
import Derived.Test.YtnfneokmiopieaaDoorShaG
import Derived.Test.YtnfneokmiopieaaDoorShaC
set_option linter.unusedVariables false
set_option linter.unusedSimpArgs false
namespace Go.Proofs.YtnfneokmiopieaaDoor.Sha
open Go.RowKit Go.Proofs.YtnfneokmiopieaaDoorW.PrintWords Go.Proofs.YtnfneokmiopieaaDoor.B Go.Proofs.YtnfneokmiopieaaDoor.PB

theorem b8_u8 (x : UInt8) : b8 (x.toNat : Int) = x := by rw [b8_nat]; simp
theorem box_u8 (x : UInt8) (W : World) : (convert 22 9 (.slice (some ⟨W.heap.size, 0, none⟩) 1 1)).run Tryd.prog (W.alloc (.cells #[vu8 x] 5)) = .ok (.string (bstr [x])) (W.alloc (.cells #[vu8 x] 5)) := by
  have := str_box W (x.toNat : Int)
  rw [b8_u8] at this
  exact this
theorem box2_u8 (x y : UInt8) (W : World) : (convert 22 9 (.slice (some ⟨W.heap.size, 0, none⟩) 2 2)).run Tryd.prog (W.alloc (.cells #[vu8 x, vu8 y] 5)) = .ok (.string (bstr [x, y])) (W.alloc (.cells #[vu8 x, vu8 y] 5)) := by
  have := str_box2 W (x.toNat : Int) (y.toNat : Int)
  rw [b8_u8, b8_u8] at this
  exact this
theorem data_bstr (xs : List UInt8) : (bstr xs).data.toList = xs := rfl
theorem size_bstr (xs : List UInt8) : (bstr xs).size = xs.length := bstr_size xs
theorem take_snoc (xs : List UInt8) (i : Nat) (hi : i < xs.length) : xs.take (i + 1) = xs.take i ++ [xs.getD i 0] := by
  rw [List.take_succ_eq_append_getElem hi]
  simp [List.getD, hi]

end Go.Proofs.YtnfneokmiopieaaDoor.Sha
namespace Go.Proofs.YtnfneokmiopieaaDoor.Sha
open Go.RowKit Go.Proofs.YtnfneokmiopieaaDoorW.PrintWords Go.Proofs.YtnfneokmiopieaaDoor.B Go.Proofs.YtnfneokmiopieaaDoor.PB

/-! ### Cut -/
def cutAt (b : List UInt8) (k i : Nat) : List UInt8 := (sha b).take k ++ List.replicate (min i 32 - k) 0 ++ (sha b).drop (min i 32)
theorem cutAt_length (b : List UInt8) (k i : Nat) (hk : k ≤ min i 32) : (cutAt b k i).length = 32 := by
  simp [cutAt, sha_length]; omega
theorem cutAt_start (b : List UInt8) (i : Nat) : cutAt b (min i 32) i = sha b := by simp [cutAt]
theorem cutAt_step (b : List UInt8) (k i : Nat) (hk : k ≤ i) (hi : i < 32) : (cutAt b k i).set i 0 = cutAt b k (i + 1) := by
  have h1 : min i 32 = i := by omega
  have h2 : min (i + 1) 32 = i + 1 := by omega
  have hl : ((sha b).take k ++ List.replicate (i - k) (0 : UInt8)).length = i := by simp [sha_length]; omega
  unfold cutAt
  rw [h1, h2, List.set_append_right _ _ (by omega), hl, Nat.sub_self, List.drop_eq_getElem_cons (by rw [sha_length]; exact hi), List.set_cons_zero, show i + 1 - k = (i - k) + 1 by omega, List.replicate_succ']
  simp
theorem cutAt_end (n : Int) (b : List UInt8) (i : Nat) (hi : 32 ≤ i) : cutAt b (cutK n) i = cut n b := by
  have h1 : min i 32 = 32 := by omega
  unfold cutAt cut
  rw [h1, List.drop_of_length_le (by rw [sha_length]; exact Nat.le_refl _), List.append_nil]
set_option maxHeartbeats 8000000 in
set_option maxRecDepth 100000 in
theorem ref_cut_calls (n : Int) (s : ByteArray) (w : World) (hs : s.size ≤ 100000000) (hn1 : -9223372036854775808 ≤ n) (hn2 : n ≤ 9223372036854775807) : Calls Tryd.prog 27 #[.int .i64 n, .string s] w fun e w' => e = .returned (Arr.av (cut n s.data.toList)) ∧ Fr No w w' := by
  obtain ⟨b, hb⟩ : ∃ b, s.data.toList = b := ⟨_, rfl⟩
  rw [hb]
  have HB := Aside0.mk hb
  clear hb
  obtain ⟨k, hk⟩ : ∃ k, cutK n = k := ⟨_, rfl⟩
  obtain ⟨f, hf⟩ : ∃ f : Nat, (if n < 0 then 0 else n.toNat) = f := ⟨_, rfl⟩
  have hkf : k = min f 32 := by
    rw [← hk, ← hf]
    unfold cutK
    split <;> omega
  have HK := Aside0.mk hk; have HKF := Aside0.mk hkf
  clear hk
  by_cases h0 : n < 0
  case' pos => have hf0 : f = 0 := by rw [← hf, if_pos h0]
  case' neg => have hfn : n = (f : Int) := by rw [← hf, if_neg h0]; omega
  all_goals have hfb : (f : Int) ≤ 9223372036854775807 := by omega
  all_goals have HF0 := Aside0.mk hf
  case' pos =>
    have HF00 := Aside0.mk hf0
    clear hf hkf hf0
  case' neg =>
    clear hf hkf
    subst hfn
  all_goals
    go_enter Tryd.func27, Tryd.ntmps27
    go_wp2_with fail
    refine (ref_of_calls s _ hs).mono ?_
    rintro e w3 ⟨rfl, hF3⟩
    rw [HB.out]
    have B4 : Aside0 (Bd (w3.alloc (.cells ((sha b).map vu8).toArray 38)) w.heap.size 38 (List.replicate 32 0)) := ⟨((bd_new w _ _ rfl (List.replicate 32 0)).no hF3).alloc _⟩
    have B5 : Aside0 (Bd (w3.alloc (.cells ((sha b).map vu8).toArray 38)) w3.heap.size 38 (sha b)) := ⟨bd_new w3 _ _ rfl _⟩
    have F3 : Aside0 (Fr No w (w3.alloc (.cells ((sha b).map vu8).toArray 38))) := ⟨(((Fr.refl _ _).alloc _).none hF3).alloc _⟩
    have hlt : w.heap.size < w3.heap.size := ((bd_new w _ _ rfl (List.replicate 32 0)).no hF3).lt
    clear hF3
    go_wp2_with (refine PB.stRow (.tmp 5) (.tmp 9) 38 w3.heap.size 38 _ ((sha b).map vu8).toArray rfl rfl rfl rfl (heap_alloc_new w3 _) (by kernel_rfl) (by kernel_rfl) (by kernel_rfl) ?_)
    rw [World.setRow_alloc_new]
    generalize w3.alloc (.cells ((sha b).map vu8).toArray 38) = w4 at B4 B5 F3 ⊢
    generalize w3.heap.size = g5 at B5 hlt ⊢
    have C5 : Aside0 (Bd w4 g5 38 (cutAt b k f)) := ⟨by rw [HKF.out, cutAt_start]; exact B5.out⟩
    clear B5
    go_loopw [7] (fun v7 wr => ∃ i : Nat, v7 = .int .i64 (i : Int) ∧ f ≤ i ∧ i ≤ 9223372036854775807 ∧ Aside0 (Bd wr g5 38 (cutAt b k i)) ∧ Aside0 (Bd wr w.heap.size 38 (List.replicate 32 0)) ∧ Aside0 (Fr No w wr)) (fun v7 _ => 32 - (intOf v7).toNat)
    case atStart => exact ⟨f, by first | rfl | (rw [HF00.out]; rfl), Nat.le_refl _, by omega, C5, B4, F3⟩
    case round =>
      clear C5 B4 F3
      obtain ⟨i, rfl, hfi, hi9, HB, H4, HF⟩ := hrel
      by_cases hi32 : i < 32
      · have hI : (i : Int) < 32 := by omega
        have hki : k ≤ min i 32 := by rw [HKF.out]; omega
        have hcl := cutAt_length b k i hki
        have hc := HB.out.cell i (by rw [hcl]; exact hi32)
        have hfz := HB.out.frozen i
        have HB2 : Aside0 (Bd (wr.setCell ⟨g5, i, Option.none⟩ (vu8 0)) g5 38 (cutAt b k (i + 1))) := ⟨by
          have h := HB.out.set i 0
          rw [cutAt_step b k i (by omega) hi32] at h
          exact h⟩
        have H42 : Aside0 (Bd (wr.setCell ⟨g5, i, Option.none⟩ (vu8 0)) w.heap.size 38 (List.replicate 32 0)) := ⟨H4.out.fr (fr_one_set wr g5 i _) (fun e => by have e' : w.heap.size = g5 := e; omega)⟩
        have HF2 : Aside0 (Fr No w (wr.setCell ⟨g5, i, Option.none⟩ (vu8 0))) := ⟨HF.out.setCell (p := ⟨g5, i, Option.none⟩) (.inr (Nat.le_of_lt hlt)) _⟩
        clear hki hcl HB H4 HF
        go_wp2
        go_roundw
        case rel => exact ⟨i + 1, by go_num, by omega, by omega, HB2, H42, HF2⟩
        case measure => simp [intOf]; omega
      · have hI : ¬ (i : Int) < 32 := by omega
        have hce := cutAt_end
        obtain ⟨C, hC⟩ : ∃ C, cutAt b k i = C := ⟨_, rfl⟩
        have hcl := cut_length
        rw [hC] at HB
        have hCl : C.length = 32 := by rw [← hC]; exact cutAt_length b k i (by rw [HKF.out]; omega)
        have hCn := cutAt_end
        have HC := Aside0.mk hC; have HCL := Aside0.mk hCl
        clear hC hCl hce hcl hCn
        go_wp2_with (first
          | (refine PB.ldRow (.tmp 5) 38 g5 38 (C.map vu8).toArray (0, 0) _ rfl rfl rfl HB.out Tryd.underlying38 ⟨_, _, rfl⟩ (by rw [show (C.map vu8).toArray.size = 32 by simp [HCL.out]]; kernel_rfl) ?_)
          | (refine PB.stRow (.tmp 4) (.tmp 20) 38 w.heap.size 38 _ (C.map vu8).toArray rfl rfl rfl rfl H4.out (by rw [show (C.map vu8).toArray.size = 32 by simp [HCL.out]]; kernel_rfl) (by simp [HCL.out]) (by rw [Array.all_eq_true]; intro i hi; simp [Value.oneCell']) ?_))
        refine bodyPost_ret (results_cell_row (P := Tryd.prog) (fn := Tryd.f27) (p := 4) (ty := 38) rfl _ _ w.heap.size 38 (C.map vu8).toArray (0, 0) _ rfl (setRow_heap _ _ _ _ _ _ H4.out) Tryd.underlying38 rfl (by rw [show (C.map vu8).toArray.size = 32 by simp [HCL.out]]; kernel_rfl)) rfl ⟨?_, fr_setRow HF.out (.inr (Nat.le_refl _)) _⟩
        rw [← HC.out, ← HK.out, cutAt_end _ b i (by omega)]
        rfl
/-! ### Mac -/
end Go.Proofs.YtnfneokmiopieaaDoor.Sha
