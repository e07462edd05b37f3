/- The walk of the law BlockCuts. -/
import Derived.Test.YtinjkebhamhenaaSums6
import Derived.Test.YtinjkebhamhenaaBlkB
import Derived.OpenShut
set_option linter.unusedVariables false
set_option linter.unusedSimpArgs false
namespace Go.Proofs.Ytinjkebhamhenaa.LBlockCuts
open Go.ChangeShapes Go.RowKit Go.IntWalk Go.Proofs.YtinjkebhamhenaaW.PrintWords Go.Proofs.Ytinjkebhamhenaa.B Go.Proofs.Ytinjkebhamhenaa.PB Go.Proofs.Ytinjkebhamhenaa.SWeak Go.Proofs.Ytinjkebhamhenaa.Bk Go.Proofs.Ytinjkebhamhenaa.SBlk Go.Proofs.Ytinjkebhamhenaa.Blk Go.Proofs.Ytinjkebhamhenaa.L6

set_option maxHeartbeats 8000000 in
set_option maxRecDepth 100000 in
theorem walk_out (vb : Value) (b : List UInt8) (size cut : Int) (w : World) (hb : RdB w vb b) (hout : 200 < b.length ∨ cut < 0 ∨ 31 < cut) : Calls Try.prog 8 #[vb, .int .i64 size, .int .i64 cut] w fun e w' => e = .returned (.bool true) ∧ Fr No w w' := by
  obtain ⟨A, c, rfl, _⟩ := id hb
  clear hb
  have hc : (200 : Int) < (b.length : Int) ∨ (¬ (200 : Int) < (b.length : Int) ∧ cut < 0) ∨ (¬ (200 : Int) < (b.length : Int) ∧ ¬ cut < 0 ∧ 31 < cut) := by omega
  clear hout
  rcases hc with h1 | ⟨h1, h2⟩ | ⟨h1, h2, h3⟩
  all_goals
    go_enter Try.func8, Try.ntmps8
    go_wp2_with fail
    refine (sums_calls _).mono ?_
    rintro e w1 ⟨rfl, hf⟩
    have F1 := Aside0.mk hf
    clear hf
    go_wp2
    go_ret
    exact ⟨rfl, F1.out⟩

set_option maxHeartbeats 8000000 in
set_option maxRecDepth 100000 in
theorem walk_bad (vb : Value) (b : List UInt8) (size : Int) (d : Nat) (w : World) (hb : RdB w vb b) (hs2 : size ≤ 9223372036854775807) (h1 : ¬ (200 : Int) < (b.length : Int)) (hd : d ≤ 31) (hE : makeE b.length size (d : Int) ≠ 0) : Calls Try.prog 8 #[vb, .int .i64 size, .int .i64 (d : Int)] w fun e w' => e = .returned (.bool true) ∧ Fr No w w' := by
  obtain ⟨A, c, rfl, hbc, _⟩ := id hb
  have hdI : ¬ (d : Int) < 0 := by omega
  have hdJ : ¬ 31 < (d : Int) := by omega
  have h1m := fun W hW => make_calls (.slice A b.length c) b size (d : Int) W hW (by omega) hs2
  have h2m := fun W hW => make_calls (.slice A b.length c) b size ((d + 1 : Nat) : Int) W hW (by omega) hs2
  rw [makeE_cut _ _ _ hd] at h2m
  obtain ⟨E, hEE⟩ : ∃ E, makeE b.length size (d : Int) = E := ⟨_, rfl⟩
  obtain ⟨S1, hS1⟩ : ∃ S, makeS b size (d : Int) = S := ⟨_, rfl⟩
  obtain ⟨S2, hS2⟩ : ∃ S, makeS b size ((d + 1 : Nat) : Int) = S := ⟨_, rfl⟩
  rw [hEE, hS1] at h1m
  rw [hEE, hS2] at h2m
  rw [hEE] at hE
  have hE0 : (E == 0) = false := by rw [beq_eq_false_iff_ne]; exact hE
  have HB := Aside0.mk hb; have H1 := Aside0.mk h1m; have H2 := Aside0.mk h2m
  clear hb h1m h2m hEE hS1 hS2
  go_enter Try.func8, Try.ntmps8
  go_wp2_with fail
  refine (sums_calls _).mono ?_
  rintro e w1 ⟨rfl, hf⟩
  have F1 := Aside0.mk hf
  clear hf
  go_wp2_with fail
  refine (H1.out w1 (HB.out.no F1.out)).mono ?_
  rintro e w2 ⟨sl, rfl, hO, hf⟩
  obtain ⟨A1, c1, rfl⟩ := hO.1.form
  have F2 : Aside0 (Fr No w w2) := ⟨F1.out.none hf⟩
  clear hO hf
  go_upto_region 6 with fail
  have F3 : Aside0 (Fr No w (w2.alloc (.cells (sgC S1.size S1.cut S1.len (.slice A1 S1.bs.length c1)) 26))) := ⟨F2.out.alloc _⟩
  change Code.wp _ _ _ _ (w2.alloc (.cells (sgC S1.size S1.cut S1.len (.slice A1 S1.bs.length c1)) 26))
  generalize w2.alloc (.cells (sgC S1.size S1.cut S1.len (.slice A1 S1.bs.length c1)) 26) = w3 at F3 ⊢
  go_wp2_with fail
  refine (H2.out w3 (HB.out.no F3.out)).mono ?_
  rintro e w4 ⟨sl, rfl, hO, hf⟩
  obtain ⟨A2, c2, rfl⟩ := hO.1.form
  have F4 : Aside0 (Fr No w w4) := ⟨F3.out.none hf⟩
  clear hO hf
  go_wp2
  go_ret
  exact ⟨rfl, F4.out.alloc _⟩

set_option maxHeartbeats 8000000 in
set_option maxRecDepth 100000 in
theorem walk_ok (vb : Value) (b : List UInt8) (s d : Nat) (w : World) (hb : RdB w vb b) (h1 : ¬ (200 : Int) < (b.length : Int)) (hs : 1 ≤ s) (hs2 : s ≤ 4096) (hd : d ≤ 31) (hE : makeE b.length s (d : Int) = 0) : Calls Try.prog 8 #[vb, .int .i64 (s : Int), .int .i64 (d : Int)] w fun e w' => e = .returned (.bool true) ∧ Fr No w w' := by
  obtain ⟨A, c, rfl, hbc, _⟩ := id hb
  have hdI : ¬ (d : Int) < 0 := by omega
  have hdJ : ¬ 31 < (d : Int) := by omega
  have h1m := fun W hW => make_calls (.slice A b.length c) b (s : Int) (d : Int) W hW (by omega) (by omega)
  have h2m := fun W hW => make_calls (.slice A b.length c) b (s : Int) ((d + 1 : Nat) : Int) W hW (by omega) (by omega)
  have hE2 : makeE b.length s ((d + 1 : Nat) : Int) = 0 := by rw [makeE_cut _ _ _ hd]; exact hE
  have m1 : makeS b s (d : Int) = ⟨s, d, b.length, blocks s d b (cnt b.length s)⟩ := by unfold makeS; rw [if_pos hE, Int.toNat_natCast]
  have m2 : makeS b s ((d + 1 : Nat) : Int) = ⟨s, (d + 1 : Nat), b.length, blocks s ((d + 1 : Nat) : Int) b (cnt b.length s)⟩ := by unfold makeS; rw [if_pos hE2, Int.toNat_natCast]
  have hk1 := chk_made hE
  have hk2 := chk_made hE2
  obtain ⟨n, hn⟩ : ∃ n, cnt b.length s = n := ⟨_, rfl⟩
  have hnl : n ≤ b.length := by rw [← hn]; exact cnt_le _ _ hs
  rw [m1, hE, hn] at h1m
  rw [m2, hE2, hn] at h2m
  rw [Int.toNat_natCast, hn] at hk1 hk2
  dsimp only at h1m h2m
  have hlen := sgB_one (s : Int) d n s b hd b.length
  have hb1 := fun sl W hW => bytes_calls s d b.length sl (blocks s (d : Int) b n) W hW (by omega) (by omega)
  have hb2 := fun sl W hW => bytes_calls s ((d + 1 : Nat) : Int) b.length sl (blocks s ((d + 1 : Nat) : Int) b n) W hW (by omega) (by omega)
  rw [hk1, if_pos rfl] at hb1
  rw [hk2, if_pos rfl] at hb2
  obtain ⟨P, hP⟩ : ∃ P, sgB s d b.length (blocks s (d : Int) b n) = P := ⟨_, rfl⟩
  obtain ⟨Q, hQ⟩ : ∃ Q, sgB s ((d + 1 : Nat) : Int) b.length (blocks s ((d + 1 : Nat) : Int) b n) = Q := ⟨_, rfl⟩
  have hPl := sgB_length_le s d b.length (blocks s (d : Int) b n)
  rw [hP, hQ] at hlen
  rw [hP] at hb1 hPl
  rw [hQ] at hb2
  rw [blocks_length] at hPl
  have hsub : (Q.length : Int) - (P.length : Int) = (n : Int) := by omega
  have hwn : wrap64 (n : Int) = (n : Int) := wrap64_in _ (by omega)
  have hl1 := blocks_length s (d : Int) b n
  have hl2 := blocks_length s ((d + 1 : Nat) : Int) b n
  have HB := Aside0.mk hb; have H1 := Aside0.mk h1m; have H2 := Aside0.mk h2m; have HB1 := Aside0.mk hb1; have HB2 := Aside0.mk hb2
  have hg1 := blocks_get s (d : Int) b n
  have hg2 := blocks_get s ((d + 1 : Nat) : Int) b n
  have HG1 := Aside0.mk hg1; have HG2 := Aside0.mk hg2; have HL1 := Aside0.mk hl1; have HL2 := Aside0.mk hl2
  have HSUB := Aside0.mk hsub; have HWN := Aside0.mk hwn
  clear hb h1m h2m hE hE2 m1 m2 hk1 hk2 hn hb1 hb2 hP hQ hg1 hg2 hl1 hl2 hlen hsub hwn
  go_enter Try.func8, Try.ntmps8
  go_wp2_with fail
  refine (sums_calls _).mono ?_
  rintro e w1 ⟨rfl, hf⟩
  have F1 := Aside0.mk hf
  clear hf
  go_wp2_with fail
  refine (H1.out w1 (HB.out.no F1.out)).mono ?_
  rintro e w2 ⟨sl, rfl, hO, hf⟩
  obtain ⟨A1, c1, rfl⟩ := hO.1.form
  rw [HL1.out] at hO ⊢
  have F2 : Aside0 (Fr No w w2) := ⟨F1.out.none hf⟩
  have HO1 := Aside0.mk hO
  clear hO hf
  go_upto_region 6 with fail
  have X1 : Aside0 ((w2.alloc (.cells (sgC s d b.length (.slice A1 n c1)) 26)).heap[w2.heap.size]? = some (.cells (sgC s d b.length (.slice A1 n c1)) 26 (0, 0))) := ⟨heap_alloc_new w2 _⟩
  have F3 : Aside0 (Fr No w2 (w2.alloc (.cells (sgC s d b.length (.slice A1 n c1)) 26))) := ⟨(Fr.refl _ _).alloc _⟩
  change Code.wp _ _ _ _ (w2.alloc (.cells (sgC s d b.length (.slice A1 n c1)) 26))
  generalize w2.alloc (.cells (sgC s d b.length (.slice A1 n c1)) 26) = w3 at X1 F3 ⊢
  obtain ⟨ga, hga⟩ : ∃ g, w2.heap.size = g := ⟨_, rfl⟩
  rw [hga] at X1 ⊢
  go_wp2_with fail
  refine (H2.out w3 ((HB.out.no F2.out).no F3.out)).mono ?_
  rintro e w4 ⟨sl, rfl, hO, hf⟩
  obtain ⟨A2, c2, rfl⟩ := hO.1.form
  rw [HL2.out] at hO ⊢
  have F4 : Aside0 (Fr No w2 w4) := ⟨F3.out.none hf⟩
  have X14 : Aside0 (w4.heap[ga]? = some (.cells (sgC s d b.length (.slice A1 n c1)) 26 (0, 0))) := ⟨hf.heap X1.out id⟩
  have HO2 := Aside0.mk hO
  clear hO hf
  go_upto_region 7 with fail
  have X2 : Aside0 ((w4.alloc (.cells (sgC s ((d : Int) + 1) b.length (.slice A2 n c2)) 26)).heap[w4.heap.size]? = some (.cells (sgC s ((d : Int) + 1) b.length (.slice A2 n c2)) 26 (0, 0))) := ⟨heap_alloc_new w4 _⟩
  have F5 : Aside0 (Fr No w4 (w4.alloc (.cells (sgC s ((d : Int) + 1) b.length (.slice A2 n c2)) 26))) := ⟨(Fr.refl _ _).alloc _⟩
  change Code.wp _ _ _ _ (w4.alloc (.cells (sgC s ((d : Int) + 1) b.length (.slice A2 n c2)) 26))
  generalize w4.alloc (.cells (sgC s ((d : Int) + 1) b.length (.slice A2 n c2)) 26) = w5 at X2 F5 ⊢
  obtain ⟨gb, hgb⟩ : ∃ g, w4.heap.size = g := ⟨_, rfl⟩
  rw [hgb] at X2 ⊢
  have X15 : Aside0 (w5.heap[ga]? = some (.cells (sgC s d b.length (.slice A1 n c1)) 26 (0, 0))) := ⟨F5.out.heap X14.out id⟩
  have R1 : Aside0 (Rd (fBk .u32) w5 (.slice A1 n c1) (blocks s (d : Int) b n)) := ⟨(HO1.out.1.rd.no F4.out).no F5.out⟩
  have R2 : Aside0 (Rd (fBk .u32) w5 (.slice A2 n c2) (blocks s ((d + 1 : Nat) : Int) b n)) := ⟨HO2.out.1.rd.no F5.out⟩
  have FW : Aside0 (Fr No w w5) := ⟨(F2.out.none F4.out).none F5.out⟩
  clear hga hgb HO1 HO2 X1 X14 F3 F4 F5
  have c3 : w5.cell? ⟨ga, 3, Option.none⟩ = some (.slice A1 n c1) := by rw [blk_cell X15.out]; rfl
  go_wp2
  clear c3
  go_loopw [57] (fun v57 wr => ∃ i : Nat, v57 = .int .i64 (i : Int) ∧ i ≤ n ∧ Aside0 (Fr No w5 wr)) (fun v57 _ => n - (intOf v57).toNat)
  case atStart => exact ⟨0, rfl, Nat.zero_le _, ⟨Fr.refl _ _⟩⟩
  case round =>
    obtain ⟨i, rfl, hi, HF⟩ := hrel
    by_cases hil : i < n
    · have hiI : (i : Int) < (n : Int) := by omega
      obtain ⟨p, hp⟩ : ∃ p, piece s b i = p := ⟨_, rfl⟩
      have e1 := HG1.out i hil
      have e2 := HG2.out i hil
      rw [hp] at e1 e2
      obtain ⟨ad1, hA1, hcv1⟩ := rd_at R1.out i _ e1
      obtain ⟨ad2, hA2, hcv2⟩ := rd_at R2.out i _ e2
      have LB1 : ∀ x, Fr No w5 x → (loadVar 55 (ad1.add (i * 33))).run Try.prog x = .ok (.agg (bkC .u32 (sums d p))) x := ld_elem hcv1 Try.underlying55 rfl (by rw [bkL_length]; kernel_rfl)
      have LB2 : ∀ x, Fr No w5 x → (loadVar 55 (ad2.add (i * 33))).run Try.prog x = .ok (.agg (bkC .u32 (sums ((d + 1 : Nat) : Int) p))) x := ld_elem hcv2 Try.underlying55 rfl (by rw [bkL_length]; kernel_rfl)
      have HA1 := Aside0.mk hA1; have HA2 := Aside0.mk hA2
      have c3 : wr.cell? ⟨gb, 3, Option.none⟩ = some (.slice A2 n c2) := by rw [blk_cell (HF.out.heap X2.out id)]; rfl
      clear hp e1 e2 hA1 hA2 hcv1 hcv2
      have BS := bkC_set .u32 (sums ((d + 1 : Nat) : Int) p) (sums (d : Int) p) d rfl (cut_set d p hd).symm
      obtain ⟨B1, hB1⟩ : ∃ B1, sums (d : Int) p = B1 := ⟨_, rfl⟩
      obtain ⟨B2, hB2⟩ : ∃ B2, sums ((d + 1 : Nat) : Int) p = B2 := ⟨_, rfl⟩
      rw [hB1] at LB1 BS
      rw [hB2] at LB2 BS
      have HBS := Aside0.mk BS
      clear hB1 hB2 BS
      go_upto_region 13 with (first
        | (refine lsIx 24 55 33 (.tmp 61) (.tmp 62) ad2 A2 n c2 i _ Try.underlying24 (by kernel_rfl) rfl rfl rfl HA2.out rfl rfl hil ?_)
        | (refine ldG (.tmp 63) 55 _ _ rfl rfl (LB2 _ HF.out) (by first | rfl | (go_simp; done)) ?_)
        | (refine PB.stRow (.tmp 12) (.tmp 64) 55 wr.heap.size 55 _ (bkC .u32 B2) rfl rfl rfl rfl (heap_alloc_new wr _) (by rw [bkC_size]; kernel_rfl) (by rw [bkC_size]; rfl) (bkC_one _ _) ?_; rw [World.setRow_alloc_new]))
      change Code.wp _ _ _ _ (wr.alloc (.cells (bkC .u32 B2) 55))
      have XB : Aside0 ((wr.alloc (.cells (bkC .u32 B2) 55)).heap[wr.heap.size]? = some (.cells (bkC .u32 B2) 55 (0, 0))) := ⟨heap_alloc_new wr _⟩
      have XF : Aside0 (Fr No w5 (wr.alloc (.cells (bkC .u32 B2) 55))) := ⟨HF.out.alloc _⟩
      generalize wr.alloc (.cells (bkC .u32 B2) 55) = wx at XB XF ⊢
      have HG : Aside0 (w5.heap.size ≤ wr.heap.size) := ⟨HF.out.size⟩
      obtain ⟨g, hg⟩ : ∃ g, wr.heap.size = g := ⟨_, rfl⟩
      rw [hg] at XB HG ⊢
      clear hg c3 LB2
      have y1 : wx.cell? ⟨g, 1 + d, Option.none⟩ = some (vu8 (B2.st.getD d 0)) := by
        rw [blk_cell XB.out, show 1 + d = d + 1 by omega]
        simp [bkC, bkL, List.getD, B2.h, show d < 32 by omega]
      have y2 : wx.frozen? ⟨g, 1 + d, Option.none⟩ = false := blk_frozen XB.out _
      go_upto_region 14 with fail
      have XB2 : Aside0 ((wx.setCell ⟨g, 1 + d, none⟩ (.int .u8 0)).heap[g]? = some (.cells (bkC .u32 B1) 55 (0, 0))) := ⟨by rw [← HBS.out]; exact blk_set XB.out (1 + d) _⟩
      have XF2 : Aside0 (Fr No w5 (wx.setCell ⟨g, 1 + d, none⟩ (.int .u8 0))) := ⟨XF.out.setCell (p := ⟨g, 1 + d, none⟩) (.inr HG.out) _⟩
      generalize wx.setCell ⟨g, 1 + d, none⟩ (.int .u8 0) = wy at XB2 XF2 ⊢
      clear y1 y2
      have LBX := ld_all (P := Try.prog) (ty := 55) XB2.out Try.underlying55 rfl (by rw [bkC_size]; kernel_rfl)
      have c3 : wy.cell? ⟨ga, 3, Option.none⟩ = some (.slice A1 n c1) := by rw [blk_cell (XF2.out.heap X15.out id)]; rfl
      have qn : ∀ W, (binOp .neq 55 (.agg (bkC .u32 B1)) (.agg (bkC .u32 B1))).run Try.prog W = .ok (.bool false) W := fun W => by rw [neqP]; simp
      have qg := fun x y W => run_eqGuard_agg (P := Try.prog) W .neq 55 x y (bkC .u32 B1) (bkC .u32 B1) (by kernel_rfl)
      go_wp2
      refine Rg.start (fun _ x => Fr No wy x) (by kernel_rfl) (by kernel_rfl) [] [] (by kernel_rfl) (.q 0 0 (.q 1 0 (.q 2 0 (.q 3 0 (.q 4 0 (.q 5 0 (.q 6 0 (.done)))))))) (by kernel_rfl) ?_ ?_
      · exact fun _ => (Fr.refl _ _).drew
      repeat (first
        | (refine Rg.q (o := ?_) (v := ?_) ?_ ?_ ?_ ?_ ?_
           rotate_left 2
           · (simp only [List.getElem?_toArray, List.getElem?_cons_succ, List.getElem?_cons_zero]; rfl)
           · exact fun _ _ _ h => h
           · first | rfl | (go_simp; done)
           · (intro x_ hx; (try dsimp only at hx); first | ((refine (ex_ix 24 55 33 _ _ ad1 A1 n c1 i _ Try.underlying24 (by kernel_rfl) rfl rfl HA1.out rfl rfl hil).trans ?_; with_reducible rfl)) | (first|(refine (ex_ld rfl rfl (LB1 _ (XF2.out.none hx))).trans ?_; with_reducible rfl)|(refine (ex_ld rfl rfl (LBX _ hx)).trans ?_; with_reducible rfl)) | (have q3 := hx.cell c3 id; (try clear hx); go_simp; (try rw [if_neg (by omega)]); (try rw [if_pos (by omega)]); (try go_simp); try with_reducible rfl))
           try simp only [Act.put, List.setIfInBounds_toArray, List.set_cons_zero, List.set_cons_succ])
        | (refine Rg.skip (o := ?_) ?_ ?_ ?_ ?_
           rotate_left 1
           · (simp only [List.getElem?_toArray, List.getElem?_cons_succ, List.getElem?_cons_zero]; rfl)
           · exact fun _ _ _ h => h
           · first | rfl | (go_simp; done)
           try simp only [Act.put, List.setIfInBounds_toArray, List.set_cons_zero, List.set_cons_succ]))
      refine Rg.done ?_
      go_simp
      clear c3 LB1 LBX qn qg
      go_wp2
      go_roundw
      case rel => exact ⟨i + 1, by go_num, by omega, ⟨XF2.out.drew⟩⟩
      case measure => simp [intOf]; omega
    · have hiI : ¬ (i : Int) < (n : Int) := by omega
      have LD1 := ld_all (P := Try.prog) (ty := 26) (HF.out.heap X15.out id) Try.underlying26 rfl (by kernel_rfl)
      go_wp2_with (first
        | (refine ldG (.tmp 7) 26 _ _ rfl rfl (LD1 _ (Fr.refl _ _)) (by first | rfl | (go_simp; done)) ?_)
        | fail)
      refine (HB1.out _ wr (R1.out.no HF.out)).mono ?_
      rintro e w6 ⟨v1, rfl, hN1⟩
      obtain ⟨Ap, cp, rfl⟩ := hN1.own.form
      have F6 : Aside0 (Fr No w5 w6) := ⟨HF.out.none hN1.fr⟩
      clear hN1 LD1
      have LD2 := ld_all (P := Try.prog) (ty := 26) (F6.out.heap X2.out id) Try.underlying26 rfl (by kernel_rfl)
      go_wp2_with (first
        | (refine ldG (.tmp 9) 26 _ _ rfl rfl (LD2 _ (Fr.refl _ _)) (by first | rfl | (go_simp; done)) ?_)
        | fail)
      refine (HB2.out _ w6 (R2.out.no F6.out)).mono ?_
      rintro e w7 ⟨v2, rfl, hN2⟩
      obtain ⟨Aq, cq, rfl⟩ := hN2.own.form
      have F7 : Aside0 (Fr No w5 w7) := ⟨F6.out.none hN2.fr⟩
      clear hN2 LD2
      have c3 : w7.cell? ⟨ga, 3, Option.none⟩ = some (.slice A1 n c1) := by rw [blk_cell (F7.out.heap X15.out id)]; rfl
      have c4 : w7.cell? ⟨gb, 3, Option.none⟩ = some (.slice A2 n c2) := by rw [blk_cell (F7.out.heap X2.out id)]; rfl
      have hsub := HSUB.out; have hwn := HWN.out
      go_wp2
      go_ret
      exact ⟨rfl, FW.out.none F7.out⟩
theorem walk (vb : Value) (b : List UInt8) (size cut : Int) (w : World) (hb : RdB w vb b ∧ b.length ≤ reach) (hs : (Lit.int .i64 size).wf = true) (hc : (Lit.int .i64 cut).wf = true) : Calls Try.prog 8 #[vb, .int .i64 size, .int .i64 cut] w fun e w' => e = .returned (.bool true) ∧ Fr No w w' := by
  by_cases h : 200 < b.length ∨ cut < 0 ∨ 31 < cut
  · exact walk_out vb b size cut w hb.1 h
  · obtain ⟨d, rfl⟩ := Int.eq_ofNat_of_zero_le (show 0 ≤ cut by omega)
    by_cases hE : makeE b.length size (d : Int) = 0
    · obtain ⟨s, d', rfl, hd, h1, h2, _⟩ := made hE
      exact walk_ok vb b s d w hb.1 (by omega) h1 h2 (by omega) hE
    · exact walk_bad vb b size d w hb.1 (bounds_i64 hs).2 (by omega) (by omega) hE
end Go.Proofs.Ytinjkebhamhenaa.LBlockCuts
