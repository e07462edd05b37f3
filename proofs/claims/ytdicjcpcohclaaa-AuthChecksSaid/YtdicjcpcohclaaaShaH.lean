/- The document's sum: cut, with a key. -/
import Derived.Test.YtdicjcpcohclaaaShaG
import Derived.Test.YtdicjcpcohclaaaShaHT
set_option linter.unusedVariables false
set_option linter.unusedSimpArgs false
namespace Go.Proofs.Ytdicjcpcohclaaa.Sha
open Go.RowKit Go.Proofs.YtdicjcpcohclaaaW.PrintWords Go.Proofs.Ytdicjcpcohclaaa.B Go.Proofs.Ytdicjcpcohclaaa.PB

/-! ### Cut -/
def cutAt (b : List UInt8) (k i : Nat) : List UInt8 := (sha b).take k ++ List.replicate (min i 32 - k) 0 ++ (sha b).drop (min i 32)
theorem cutAt_length (b : List UInt8) (k i : Nat) (hk : k ≤ min i 32) : (cutAt b k i).length = 32 := by
  simp [cutAt, sha_length]; omega
theorem cutAt_start (b : List UInt8) (i : Nat) : cutAt b (min i 32) i = sha b := by simp [cutAt]
theorem cutAt_step (b : List UInt8) (k i : Nat) (hk : k ≤ i) (hi : i < 32) : (cutAt b k i).set i 0 = cutAt b k (i + 1) := by
  have h1 : min i 32 = i := by omega
  have h2 : min (i + 1) 32 = i + 1 := by omega
  have hl : ((sha b).take k ++ List.replicate (i - k) (0 : UInt8)).length = i := by simp [sha_length]; omega
  unfold cutAt
  rw [h1, h2, List.set_append_right _ _ (by omega), hl, Nat.sub_self, List.drop_eq_getElem_cons (by rw [sha_length]; exact hi), List.set_cons_zero, show i + 1 - k = (i - k) + 1 by omega, List.replicate_succ']
  simp
theorem cutAt_end (n : Int) (b : List UInt8) (i : Nat) (hi : 32 ≤ i) : cutAt b (cutK n) i = cut n b := by
  have h1 : min i 32 = 32 := by omega
  unfold cutAt cut
  rw [h1, List.drop_of_length_le (by rw [sha_length]; exact Nat.le_refl _), List.append_nil]
set_option maxHeartbeats 8000000 in
set_option maxRecDepth 100000 in
theorem ref_cut_calls (n : Int) (s : ByteArray) (w : World) (hs : s.size ≤ 100000000) (hn1 : -9223372036854775808 ≤ n) (hn2 : n ≤ 9223372036854775807) : Calls Try.prog 32 #[.int .i64 n, .string s] w fun e w' => e = .returned (Arr.av (cut n s.data.toList)) ∧ Fr No w w' := by
  obtain ⟨b, hb⟩ : ∃ b, s.data.toList = b := ⟨_, rfl⟩
  rw [hb]
  have HB := Aside0.mk hb
  clear hb
  obtain ⟨k, hk⟩ : ∃ k, cutK n = k := ⟨_, rfl⟩
  obtain ⟨f, hf⟩ : ∃ f : Nat, (if n < 0 then 0 else n.toNat) = f := ⟨_, rfl⟩
  have hkf : k = min f 32 := by
    rw [← hk, ← hf]
    unfold cutK
    split <;> omega
  have HK := Aside0.mk hk; have HKF := Aside0.mk hkf
  clear hk
  by_cases h0 : n < 0
  case' pos => have hf0 : f = 0 := by rw [← hf, if_pos h0]
  case' neg => have hfn : n = (f : Int) := by rw [← hf, if_neg h0]; omega
  all_goals have hfb : (f : Int) ≤ 9223372036854775807 := by omega
  all_goals have HF0 := Aside0.mk hf
  case' pos =>
    have HF00 := Aside0.mk hf0
    clear hf hkf hf0
  case' neg =>
    clear hf hkf
    subst hfn
  all_goals
    go_enter Try.func32, Try.ntmps32
    go_wp2_with fail
    refine (ref_of_calls s _ hs).mono ?_
    rintro e w3 ⟨rfl, hF3⟩
    rw [HB.out]
    have B4 : Aside0 (Bd (w3.alloc (.cells ((sha b).map vu8).toArray 34)) w.heap.size 34 (List.replicate 32 0)) := ⟨((bd_new w _ _ rfl (List.replicate 32 0)).no hF3).alloc _⟩
    have B5 : Aside0 (Bd (w3.alloc (.cells ((sha b).map vu8).toArray 34)) w3.heap.size 34 (sha b)) := ⟨bd_new w3 _ _ rfl _⟩
    have F3 : Aside0 (Fr No w (w3.alloc (.cells ((sha b).map vu8).toArray 34))) := ⟨(((Fr.refl _ _).alloc _).none hF3).alloc _⟩
    have hlt : w.heap.size < w3.heap.size := ((bd_new w _ _ rfl (List.replicate 32 0)).no hF3).lt
    clear hF3
    go_wp2_with (refine PB.stRow (.tmp 5) (.tmp 9) 34 w3.heap.size 34 _ ((sha b).map vu8).toArray rfl rfl rfl rfl (heap_alloc_new w3 _) (by kernel_rfl) (by kernel_rfl) (by kernel_rfl) ?_)
    rw [World.setRow_alloc_new]
    generalize w3.alloc (.cells ((sha b).map vu8).toArray 34) = w4 at B4 B5 F3 ⊢
    generalize w3.heap.size = g5 at B5 hlt ⊢
    have C5 : Aside0 (Bd w4 g5 34 (cutAt b k f)) := ⟨by rw [HKF.out, cutAt_start]; exact B5.out⟩
    clear B5
    go_loopw [7] (fun v7 wr => ∃ i : Nat, v7 = .int .i64 (i : Int) ∧ f ≤ i ∧ i ≤ 9223372036854775807 ∧ Aside0 (Bd wr g5 34 (cutAt b k i)) ∧ Aside0 (Bd wr w.heap.size 34 (List.replicate 32 0)) ∧ Aside0 (Fr No w wr)) (fun v7 _ => 32 - (intOf v7).toNat)
    case atStart => exact ⟨f, by first | rfl | (rw [HF00.out]; rfl), Nat.le_refl _, by omega, C5, B4, F3⟩
    case round =>
      clear C5 B4 F3
      obtain ⟨i, rfl, hfi, hi9, HB, H4, HF⟩ := hrel
      by_cases hi32 : i < 32
      · have hI : (i : Int) < 32 := by omega
        have hki : k ≤ min i 32 := by rw [HKF.out]; omega
        have hcl := cutAt_length b k i hki
        have hc := HB.out.cell i (by rw [hcl]; exact hi32)
        have hfz := HB.out.frozen i
        have HB2 : Aside0 (Bd (wr.setCell ⟨g5, i, Option.none⟩ (vu8 0)) g5 34 (cutAt b k (i + 1))) := ⟨by
          have h := HB.out.set i 0
          rw [cutAt_step b k i (by omega) hi32] at h
          exact h⟩
        have H42 : Aside0 (Bd (wr.setCell ⟨g5, i, Option.none⟩ (vu8 0)) w.heap.size 34 (List.replicate 32 0)) := ⟨H4.out.fr (fr_one_set wr g5 i _) (fun e => by have e' : w.heap.size = g5 := e; omega)⟩
        have HF2 : Aside0 (Fr No w (wr.setCell ⟨g5, i, Option.none⟩ (vu8 0))) := ⟨HF.out.setCell (p := ⟨g5, i, Option.none⟩) (.inr (Nat.le_of_lt hlt)) _⟩
        clear hki hcl HB H4 HF
        go_wp2
        go_roundw
        case rel => exact ⟨i + 1, by go_num, by omega, by omega, HB2, H42, HF2⟩
        case measure => simp [intOf]; omega
      · have hI : ¬ (i : Int) < 32 := by omega
        have hce := cutAt_end
        obtain ⟨C, hC⟩ : ∃ C, cutAt b k i = C := ⟨_, rfl⟩
        have hcl := cut_length
        rw [hC] at HB
        have hCl : C.length = 32 := by rw [← hC]; exact cutAt_length b k i (by rw [HKF.out]; omega)
        have hCn := cutAt_end
        have HC := Aside0.mk hC; have HCL := Aside0.mk hCl
        clear hC hCl hce hcl hCn
        go_wp2_with (first
          | (refine PB.ldRow (.tmp 5) 34 g5 34 (C.map vu8).toArray (0, 0) _ rfl rfl rfl HB.out Try.underlying34 ⟨_, _, rfl⟩ (by rw [show (C.map vu8).toArray.size = 32 by simp [HCL.out]]; kernel_rfl) ?_)
          | (refine PB.stRow (.tmp 4) (.tmp 20) 34 w.heap.size 34 _ (C.map vu8).toArray rfl rfl rfl rfl H4.out (by rw [show (C.map vu8).toArray.size = 32 by simp [HCL.out]]; kernel_rfl) (by simp [HCL.out]) (by rw [Array.all_eq_true]; intro i hi; simp [Value.oneCell']) ?_))
        refine bodyPost_ret (results_cell_row (P := Try.prog) (fn := Try.f32) (p := 4) (ty := 34) rfl _ _ w.heap.size 34 (C.map vu8).toArray (0, 0) _ rfl (setRow_heap _ _ _ _ _ _ H4.out) Try.underlying34 rfl (by rw [show (C.map vu8).toArray.size = 32 by simp [HCL.out]]; kernel_rfl)) rfl ⟨?_, fr_setRow HF.out (.inr (Nat.le_refl _)) _⟩
        rw [← HC.out, ← HK.out, cutAt_end _ b i (by omega)]
        rfl
/-! ### Mac -/
theorem str_index (xs : List UInt8) (i : Nat) (hi : i < xs.length) (W : World) : (Instr.index 9 (.string (bstr xs)) (.int .i64 (i : Int))).run Try.prog W = .ok (vu8 (xs.getD i 0)) W := by
  have hg : (bstr xs)[i]? = some (xs.getD i 0) := by
    have hs : i < (bstr xs).size := by rw [bstr_size]; exact hi
    rw [getElem?_pos (bstr xs) i hs]
    simp only [List.getD, List.getElem?_eq_getElem hi, Option.getD_some]
    rfl
  simp [Instr.index, run_underlying Try.underlying9, asIntOf, hg]
def strLen : Value → Nat
  | .string s => s.size
  | _ => 0
set_option maxHeartbeats 8000000 in
set_option maxRecDepth 100000 in
theorem ref_mac_calls (key m : List UInt8) (w : World) (hk : key.length ≤ 100000) (hm : m.length ≤ 1000000) : Calls Try.prog 40 #[.string (bstr key), .string (bstr m)] w fun e w' => e = .returned (Arr.av (mac key m)) ∧ Fr No w w' := by
  obtain ⟨k1, hk1⟩ : ∃ k1, keyOf key = k1 := ⟨_, rfl⟩
  have HK1 := Aside0.mk hk1
  obtain ⟨R, hR⟩ : ∃ R, mac key m = R := ⟨_, rfl⟩
  have HR := Aside0.mk hR
  rw [hR]
  clear hR
  have hk1l : k1.length ≤ 64 := by rw [← hk1]; exact keyOf_le key
  by_cases h64 : 64 < key.length
  case' pos =>
    have hI : (64 : Int) < (key.length : Int) := by omega
    have hk2 : sha key = k1 := by rw [← hk1, keyOf, if_pos h64]
    have HK2 := Aside0.mk hk2
    clear hk1 hk2
    go_enter Try.func40, Try.ntmps40
    go_wp2_with fail
    refine (ref_of_calls (bstr key) _ (by rw [size_bstr]; omega)).mono ?_
    rintro e w3 ⟨rfl, hF3⟩
    rw [data_bstr, HK2.out]
    go_wp2_with fail
    refine (ref_bytes_calls k1 (by rw [← HK2.out]; exact sha_length _) _).mono ?_
    rintro e w4 ⟨rfl, hF4⟩
    go_wp2_with fail
    have B4 : Aside0 (Bd w4 w.heap.size 34 (List.replicate 32 0)) := ⟨((bd_new w _ _ rfl (List.replicate 32 0)).no hF3).no hF4⟩
    have F4 : Aside0 (Fr No w w4) := ⟨(((Fr.refl _ _).alloc _).none hF3).none hF4⟩
    clear hF3 hF4 HK2
  case' neg =>
    have hI : ¬ (64 : Int) < (key.length : Int) := by omega
    have hk2 : key = k1 := by rw [← hk1, keyOf, if_neg h64]
    rw [hk2]
    have hI2 : ¬ (64 : Int) < (k1.length : Int) := by omega
    have HK2 := Aside0.mk hk2
    clear hk1 hk2
    go_enter Try.func40, Try.ntmps40
    go_wp2_with fail
    have B4 : Aside0 (Bd (w.alloc (.cells ((List.replicate 32 (0 : UInt8)).map vu8).toArray 34)) w.heap.size 34 (List.replicate 32 0)) := ⟨bd_new w _ _ rfl _⟩
    have F4 : Aside0 (Fr No w (w.alloc (.cells ((List.replicate 32 (0 : UInt8)).map vu8).toArray 34))) := ⟨(Fr.refl _ _).alloc _⟩
    change Code.wp _ _ _ _ (w.alloc (.cells ((List.replicate 32 (0 : UInt8)).map vu8).toArray 34))
    generalize w.alloc (.cells ((List.replicate 32 (0 : UInt8)).map vu8).toArray 34) = w4 at B4 F4 ⊢
  all_goals
    go_loopw [0] (fun v0 wr => ∃ z : Nat, z ≤ 64 - k1.length ∧ v0 = .string (bstr (k1 ++ List.replicate z 0)) ∧ Aside0 (Bd wr w.heap.size 34 (List.replicate 32 0)) ∧ Aside0 (Fr No w wr)) (fun v0 _ => 64 - strLen v0)
    case atStart => exact ⟨0, Nat.zero_le _, by rw [List.replicate_zero, List.append_nil], B4, F4⟩
    case round =>
      clear B4 F4
      obtain ⟨z, hz, rfl, B4, F4⟩ := hrel
      obtain ⟨X, hX⟩ : ∃ X, k1 ++ List.replicate z 0 = X := ⟨_, rfl⟩
      have hXl : X.length = k1.length + z := by rw [← hX]; simp
      have hX1 : X ++ [0] = k1 ++ List.replicate (z + 1) 0 := by rw [← hX, List.replicate_succ', List.append_assoc]
      rw [hX]
      by_cases hlt : X.length < 64
      · have hI3 : (X.length : Int) < 64 := by omega
        have hz1 : z + 1 ≤ 64 - k1.length := by omega
        have HX1 := Aside0.mk hX1
        clear hX hXl hX1
        go_wp2
        have hcat : bstr X ++ (⟨#[0]⟩ : ByteArray) = bstr (X ++ [0]) := bstr_append X [0]
        rw [hcat]
        go_roundw
        case rel => exact ⟨z + 1, hz1, by rw [HX1.out], B4, F4⟩
        case measure => simp only [strLen, size_bstr, List.length_append, List.length_cons, List.length_nil]; omega
      · have hI3 : ¬ (X.length : Int) < 64 := by omega
        have hXp : X = pad64 k1 := by
          rw [← hX, pad64]
          congr 2
          omega
        have hXl2 : X.length = 64 := by omega
        have HXP := Aside0.mk hXp; have HXL := Aside0.mk hXl2
        clear hX hXl hX1 hXp hXl2
        go_wp2_with fail
        go_loopw [5, 6, 7] (fun v5 v6 v7 wr => ∃ i : Nat, v7 = .int .i64 (i : Int) ∧ i ≤ 64 ∧ v5 = .string (bstr (xorAll 54 (X.take i))) ∧ v6 = .string (bstr (xorAll 92 (X.take i))) ∧ Aside0 (Bd wr w.heap.size 34 (List.replicate 32 0)) ∧ Aside0 (Fr No w wr)) (fun _ _ v7 _ => 64 - (intOf v7).toNat)
        case atStart => exact ⟨0, rfl, by omega, rfl, rfl, B4, F4⟩
        case round =>
          clear B4 F4
          obtain ⟨i, rfl, hi, rfl, rfl, H4, HF⟩ := hrel
          by_cases hi64 : i < 64
          · have hI4 : (i : Int) < 64 := by omega
            obtain ⟨x, hx⟩ : ∃ x, X.getD i 0 = x := ⟨_, rfl⟩
            have hidx := str_index X i (by rw [HXL.out]; exact hi64)
            have hts := take_snoc X i (by rw [HXL.out]; exact hi64)
            rw [hx] at hidx hts
            have e5 : xorAll 54 (X.take (i + 1)) = xorAll 54 (X.take i) ++ [x ^^^ 54] := by rw [hts, xorAll, xorAll, List.map_append]; rfl
            have e9 : xorAll 92 (X.take (i + 1)) = xorAll 92 (X.take i) ++ [x ^^^ 92] := by rw [hts, xorAll, xorAll, List.map_append]; rfl
            have hl5 : (xorAll 54 (X.take i)).length ≤ 64 := by simp [xorAll]; omega
            have hl9 : (xorAll 92 (X.take i)).length ≤ 64 := by simp [xorAll]; omega
            have y54 : x.toNat ^^^ 54 = (x ^^^ 54).toNat := (UInt8.toNat_xor x 54).symm
            have y92 : x.toNat ^^^ 92 = (x ^^^ 92).toNat := (UInt8.toNat_xor x 92).symm
            have x54 := xor_u8 x 54
            have x92 := xor_u8 x 92
            rw [show ((54 : UInt8).toNat : Int) = 54 from rfl] at x54
            rw [show ((92 : UInt8).toNat : Int) = 92 from rfl] at x92
            obtain ⟨p5, hp5⟩ : ∃ p, x ^^^ 54 = p := ⟨_, rfl⟩
            obtain ⟨p9, hp9⟩ : ∃ p, x ^^^ 92 = p := ⟨_, rfl⟩
            rw [hp5] at y54 x54 e5
            rw [hp9] at y92 x92 e9
            have b5 := box_u8 p5
            have b9 := box_u8 p9 (wr.alloc (.cells #[vu8 p5] 5))
            rw [show (wr.alloc (.cells #[vu8 p5] 5)).heap.size = wr.heap.size + 1 by simp] at b9
            clear hp5 hp9
            have E5 := Aside0.mk e5; have E9 := Aside0.mk e9
            clear hx hts e5 e9
            go_wp2
            rw [← E5.out, ← E9.out]
            clear y54 y92 x54 x92 b5 b9 hidx
            go_roundw
            case rel => exact ⟨i + 1, by go_num, by omega, rfl, rfl, ⟨(H4.out.alloc _).alloc _⟩, ⟨(HF.out.alloc _).alloc _⟩⟩
            case measure => simp [intOf]; omega
          · have hI4 : ¬ (i : Int) < 64 := by omega
            obtain rfl : i = 64 := by omega
            obtain ⟨I, hI1⟩ : ∃ I, xorAll 54 X = I := ⟨_, rfl⟩
            obtain ⟨O, hO1⟩ : ∃ O, xorAll 92 X = O := ⟨_, rfl⟩
            rw [List.take_of_length_le (by rw [HXL.out]; exact Nat.le_refl _), hI1, hO1]
            have hIl : I.length = 64 := by rw [← hI1]; simp [xorAll, HXL.out]
            have hOl : O.length = 64 := by rw [← hO1]; simp [xorAll, HXL.out]
            have HI1 := Aside0.mk hI1; have HO1 := Aside0.mk hO1
            have hIm : I.length ≤ 64 := by omega
            have hOm : O.length ≤ 64 := by omega
            have HIL := Aside0.mk hIl; have HOL := Aside0.mk hOl
            clear hI1 hO1 hIl hOl
            go_wp2_with fail
            refine (ref_of_calls (bstr (I ++ m)) _ (by rw [size_bstr, List.length_append]; omega)).mono ?_
            rintro e w5 ⟨rfl, hF5⟩
            rw [data_bstr]
            obtain ⟨S, hS⟩ : ∃ S, sha (I ++ m) = S := ⟨_, rfl⟩
            rw [hS]
            have hSl : S.length = 32 := by rw [← hS]; exact sha_length _
            have HS1 := Aside0.mk hS; have HSL := Aside0.mk hSl
            have hSm : S.length ≤ 32 := by omega
            clear hS hSl
            go_wp2_with fail
            refine (ref_bytes_calls S HSL.out _).mono ?_
            rintro e w6 ⟨rfl, hF6⟩
            go_wp2_with fail
            refine (ref_of_calls (bstr (O ++ S)) _ (by rw [size_bstr, List.length_append]; omega)).mono ?_
            rintro e w7 ⟨rfl, hF7⟩
            rw [data_bstr]
            have hfin : sha (O ++ S) = R := by
              rw [← HR.out, mac, HK1.out, ← HXP.out, HI1.out, HO1.out, HS1.out]
            rw [hfin]
            have hRl : R.length = 32 := by rw [← hfin]; exact sha_length _
            have HRL := Aside0.mk hRl
            have K4 := Aside0.mk (((H4.out.no hF5).no hF6).no hF7)
            have FK := Aside0.mk (((HF.out.none hF5).none hF6).none hF7)
            clear hfin hRl hF5 hF6 hF7 H4 HF
            go_wp2_with (refine PB.stRow (.tmp 4) (.tmp 46) 34 w.heap.size 34 _ (R.map vu8).toArray rfl rfl rfl rfl K4.out (by rw [show (R.map vu8).toArray.size = 32 by simp [HRL.out]]; kernel_rfl) (by simp [HRL.out]) (by rw [Array.all_eq_true]; intro i hi; simp [Value.oneCell']) ?_)
            refine bodyPost_ret (results_cell_row (P := Try.prog) (fn := Try.f40) (p := 4) (ty := 34) rfl _ _ w.heap.size 34 (R.map vu8).toArray (0, 0) _ rfl (setRow_heap _ _ _ _ _ _ K4.out) Try.underlying34 rfl (by rw [show (R.map vu8).toArray.size = 32 by simp [HRL.out]]; kernel_rfl)) rfl ⟨rfl, fr_setRow FK.out (.inr (Nat.le_refl _)) _⟩
end Go.Proofs.Ytdicjcpcohclaaa.Sha
