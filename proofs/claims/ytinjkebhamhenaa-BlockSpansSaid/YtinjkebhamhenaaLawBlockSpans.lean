/- The walk of the law BlockSpans. -/
import Derived.Test.YtinjkebhamhenaaSums6
import Derived.Test.YtinjkebhamhenaaSpecLaw6
import Derived.Test.YtinjkebhamhenaaMk
import Derived.OpenShut
set_option linter.unusedVariables false
set_option linter.unusedSimpArgs false
namespace Go.Proofs.Ytinjkebhamhenaa.LBlockSpans
open Go.ChangeShapes Go.RowKit Go.IntWalk Go.Proofs.YtinjkebhamhenaaW.PrintWords Go.Proofs.Ytinjkebhamhenaa.B Go.Proofs.Ytinjkebhamhenaa.PB Go.Proofs.Ytinjkebhamhenaa.SWeak Go.Proofs.Ytinjkebhamhenaa.Bk Go.Proofs.Ytinjkebhamhenaa.SBlk Go.Proofs.Ytinjkebhamhenaa.Blk Go.Proofs.Ytinjkebhamhenaa.L6

set_option maxHeartbeats 8000000 in
set_option maxRecDepth 100000 in
theorem walk_out (length size other : Int) (w : World) (hl : length ≤ 9223372036854775807) (hs : size ≤ 9223372036854775807) (hout : length < 0 ∨ 300 < length ∨ size < 1 ∨ 4096 < size) : Calls Try.prog 5 #[.int .i64 length, .int .i64 size, .int .i64 other] w fun e w' => e = .returned (.bool true) ∧ Fr No w w' := by
  have hc : length < 0 ∨ (¬ length < 0 ∧ 300 < length) ∨ (¬ length < 0 ∧ ¬ 300 < length ∧ size < 1) ∨ (¬ length < 0 ∧ ¬ 300 < length ∧ ¬ size < 1 ∧ 4096 < size) := by omega
  clear hout
  rcases hc with h1 | ⟨h1, h2⟩ | ⟨h1, h2, h3⟩ | ⟨h1, h2, h3, h4⟩
  all_goals
    go_enter Try.func5, Try.ntmps5
    go_wp2_with fail
    refine (sums_calls _).mono ?_
    rintro e w1 ⟨rfl, hf⟩
    have F1 := Aside0.mk hf
    clear hf
    go_wp2_with fail
    refine (count_calls length size w1 hl hs).mono ?_
    rintro e w2 ⟨rfl, hw2⟩
    subst hw2
    go_wp2_with fail
    refine (refCount_calls length size w1 hl hs).mono ?_
    rintro e w2 ⟨rfl, hw2⟩
    subst hw2
    go_wp2
    go_ret
    exact ⟨rfl, F1.out⟩

theorem made0 (L s : Nat) (h : L ≤ 300) (hs : 1 ≤ s) (hs2 : s ≤ 4096) : makeE L s 0 = 0 := by
  have h1 := countI_nat L s hs
  have h2 := cnt_le L s hs
  have hc := makeE_cases L s 0
  rcases hc with h9 | h9 | h9 | h9 | h9 | h9 <;> omega
theorem span_last (L s n i m k : Nat) (hs : 1 ≤ s) (hsp : ∀ j, j < n ↔ j * s < L) (hm : i * s = m) (hk : min s (L - m) = k) (hi : i < n) : 1 ≤ k ∧ k ≤ s ∧ (k < s → ¬ i + 1 < n) ∧ m + k = min ((i + 1) * s) L ∧ m ≤ 300 * s + L ∧ min (i * s) L = m := by
  have h1 := (hsp i).1 hi
  rw [hm] at h1
  have h2 : (i + 1) * s = m + s := by rw [Nat.add_mul, hm]; omega
  refine ⟨by omega, by omega, fun hks hj => ?_, by omega, by omega, by omega⟩
  have := (hsp (i + 1)).1 hj
  omega

set_option maxHeartbeats 8000000 in
set_option maxRecDepth 100000 in
theorem walk_ok (L s : Nat) (other : Int) (w : World) (hL : L ≤ 300) (hs : 1 ≤ s) (hs2 : s ≤ 4096) : Calls Try.prog 5 #[.int .i64 (L : Int), .int .i64 (s : Int), .int .i64 other] w fun e w' => e = .returned (.bool true) ∧ Fr No w w' := by
  have a1 : ¬ (L : Int) < 0 := by omega
  have a2 : ¬ (300 : Int) < (L : Int) := by omega
  have a3 : ¬ (s : Int) < 1 := by omega
  have a4 : ¬ (4096 : Int) < (s : Int) := by omega
  have hz : (List.replicate L (0 : UInt8)).length = L := List.length_replicate
  obtain ⟨z, hzz⟩ : ∃ z, List.replicate L (0 : UInt8) = z := ⟨_, rfl⟩
  have hmu := fun W => make_u8 L (by omega) W
  rw [hzz] at hz
  simp only [hzz] at hmu
  have hm := fun v W hW => make_calls v z (s : Int) 0 W hW (by omega) (by omega)
  have hE : makeE z.length s 0 = 0 := by rw [hz]; exact made0 L s hL hs hs2
  have hS : makeS z s 0 = ⟨s, 0, L, blocks s 0 z (cnt L s)⟩ := by unfold makeS; rw [if_pos hE, Int.toNat_natCast, hz]
  have hci : countI (L : Int) (s : Int) = (cnt L s : Int) := countI_nat L s hs
  have hsp := cnt_spec L s hs
  have hcl := cnt_le L s hs
  obtain ⟨n, hn⟩ : ∃ n, cnt L s = n := ⟨_, rfl⟩
  rw [hn] at hS hci hsp hcl
  rw [hS, hE] at hm
  dsimp only at hm
  have hbl := blocks_length s 0 z n
  obtain ⟨bs, hbs⟩ : ∃ bs, blocks s 0 z n = bs := ⟨_, rfl⟩
  rw [hbs] at hm hbl
  have hsl := span_last L s n
  have HM := Aside0.mk hm; have HMU := Aside0.mk hmu; have HSP := Aside0.mk hsp; have HBL := Aside0.mk hbl; have HSL := Aside0.mk hsl; have HCI := Aside0.mk hci
  have hnL : n ≤ 300 := by omega
  clear hm hmu hsp hbl hE hS hn hbs hzz hsl hci hcl hz
  go_enter Try.func5, Try.ntmps5
  go_wp2_with fail
  refine (sums_calls _).mono ?_
  rintro e w1 ⟨rfl, hf⟩
  have F1 := Aside0.mk hf
  clear hf
  obtain ⟨w2, hmk, hO, hf⟩ := HMU.out w1
  have F2 : Aside0 (Fr No w w2) := ⟨F1.out.none hf⟩
  have HO := Aside0.mk hO; have HMK := Aside0.mk hmk
  clear hf hO hmk
  go_wp2_with (first | (refine lsX rfl (ex_makeSlice HMK.out rfl rfl rfl) ?_) | fail)
  refine (HM.out _ w2 HO.out.rd).mono ?_
  rintro e w3 ⟨sl, rfl, hO, hf⟩
  obtain ⟨A1, c1, rfl⟩ := hO.1.form
  rw [HBL.out] at hO ⊢
  have F3 : Aside0 (Fr No w w3) := ⟨F2.out.none hf⟩
  clear hf hO
  go_upto_region 6 with fail
  have X1 : Aside0 ((w3.alloc (.cells (sgC s 0 L (.slice A1 n c1)) 26)).heap[w3.heap.size]? = some (.cells (sgC s 0 L (.slice A1 n c1)) 26 (0, 0))) := ⟨heap_alloc_new w3 _⟩
  have F4 : Aside0 (Fr No w (w3.alloc (.cells (sgC s 0 L (.slice A1 n c1)) 26))) := ⟨F3.out.alloc _⟩
  change Code.wp _ _ _ _ (w3.alloc (.cells (sgC s 0 L (.slice A1 n c1)) 26))
  generalize w3.alloc (.cells (sgC s 0 L (.slice A1 n c1)) 26) = w4 at X1 F4 ⊢
  obtain ⟨ga, hga⟩ : ∃ g, w3.heap.size = g := ⟨_, rfl⟩
  rw [hga] at X1 ⊢
  clear hga HM HO HMK HMU
  have c3 : w4.cell? ⟨ga, 3, Option.none⟩ = some (.slice A1 n c1) := by rw [blk_cell X1.out]; rfl
  go_wp2
  clear c3
  go_loopw [9, 50] (fun v9 v50 wr => ∃ i m : Nat, v50 = .int .i64 (i : Int) ∧ v9 = .int .i64 (m : Int) ∧ i ≤ n ∧ Aside0 (m = min (i * s) L) ∧ Aside0 (Fr No w4 wr)) (fun _ v50 _ => n - (intOf v50).toNat)
  case atStart => exact ⟨0, 0, rfl, rfl, Nat.zero_le _, ⟨by simp⟩, ⟨Fr.refl _ _⟩⟩
  case round =>
    obtain ⟨i, m, rfl, rfl, hi, HMM, HF⟩ := hrel
    have c3 : wr.cell? ⟨ga, 3, Option.none⟩ = some (.slice A1 n c1) := by rw [blk_cell (HF.out.heap X1.out id)]; rfl
    have LD := ld_all (P := Try.prog) (ty := 26) (HF.out.heap X1.out id) Try.underlying26 rfl (by kernel_rfl)
    by_cases hil : i < n
    · have hiI : (i : Int) < (n : Int) := by omega
      have hspan := fun W => span_calls s i L 0 A1 n c1 W hil (by omega) hs2 ((HSP.out i).1 hil)
      obtain ⟨m', hm'⟩ : ∃ m, i * s = m := ⟨_, rfl⟩
      obtain ⟨k, hk⟩ : ∃ k, min s (L - m') = k := ⟨_, rfl⟩
      obtain ⟨k1, k2, k3, k4, k5, k6⟩ := HSL.out i m' k hs HSP.out hm' hk hil
      rw [hm', hk] at hspan
      obtain rfl : m' = m := by rw [HMM.out, k6]
      have HN : Aside0 (m' + k = min ((i + 1) * s) L) := ⟨k4⟩
      have K3 := Aside0.mk k3; have HSPAN := Aside0.mk hspan
      have j1 : ¬ (k : Int) < 1 := by omega
      have j2 : ¬ (s : Int) < (k : Int) := by omega
      have hmb : m' ≤ 2000000 := by omega
      clear hm' hk k3 k4 k6 hspan HMM
      go_wp2_with (first
        | (refine ldG (.tmp 7) 26 _ _ rfl rfl (LD _ (Fr.refl _ _)) (by first | rfl | (go_simp; done)) ?_)
        | fail)
      refine (HSPAN.out wr).mono ?_
      rintro e w5 ⟨rfl, hf⟩
      have F5 : Aside0 (Fr No w4 w5) := ⟨HF.out.none hf⟩
      clear hf LD c3
      have c3 : w5.cell? ⟨ga, 3, Option.none⟩ = some (.slice A1 n c1) := by rw [blk_cell (F5.out.heap X1.out id)]; rfl
      by_cases hks : k < s
      · have j3 : (k : Int) < (s : Int) := by omega
        have j4 : ¬ (i : Int) < (n : Int) - 1 := by have := K3.out hks; omega
        go_wp2
        go_roundw
        case rel => exact ⟨i + 1, m' + k, by go_num, by go_num, by omega, HN, F5⟩
        case measure => simp [intOf]; omega
      · have j3 : ¬ (k : Int) < (s : Int) := by omega
        go_wp2
        go_roundw
        case rel => exact ⟨i + 1, m' + k, by go_num, by go_num, by omega, HN, F5⟩
        case measure => simp [intOf]; omega
    · have hiI : ¬ (i : Int) < (n : Int) := by omega
      obtain rfl : i = n := by omega
      have hge : ¬ i * s < L := fun h => by have := (HSP.out i).2 h; omega
      obtain rfl : m = L := by rw [HMM.out]; omega
      clear HMM hge
      have hcI := HCI.out
      by_cases hob : other < 0 ∨ (i : Int) ≤ other
      · go_wp2_with (first
          | (refine ldG (.tmp 7) 26 _ _ rfl rfl (LD _ (Fr.refl _ _)) (by first | rfl | (go_simp; done)) ?_)
          | fail)
        refine (span_out_calls s 0 m other A1 i c1 wr hob).mono ?_
        rintro e w5 ⟨rfl, hf⟩
        have F5 : Aside0 (Fr No w4 w5) := ⟨HF.out.none hf⟩
        clear hf LD c3
        have c3 : w5.cell? ⟨ga, 3, Option.none⟩ = some (.slice A1 i c1) := by rw [blk_cell (F5.out.heap X1.out id)]; rfl
        rcases (by omega : (¬ 0 ≤ other) ∨ (0 ≤ other ∧ ¬ other < (i : Int))) with o1 | ⟨o1, o2⟩
        all_goals
          clear hob
          go_wp2
          refine Rg.start (fun _ x => Fr No w5 x) (by kernel_rfl) (by kernel_rfl) [9] [[8, 1, 0, 2, 3, 7, 9]] (by kernel_rfl) (.q 0 0 (.q 1 0 (.q 2 0 (.q 3 0 (.q 4 1 (.q 5 1 (.q 6 1 (.q 7 0 (.q 8 0 (.e 9 1 (.q 10 1 (.q 11 1 (.q 12 1 (.q 13 1 (.q 14 1 (.q 15 1 (.q 16 1 (.q 17 1 (.q 18 1 (.q 19 1 (.q 20 1 (.q 21 1 (.q 22 1 (.q 23 1 (.q 24 1 (.q 25 1 (.q 26 1 (.q 27 1 (.q 28 1 (.q 29 1 (.q 30 1 (.q 31 1 (.done))))))))))))))))))))))))))))))))) (by kernel_rfl) ?_ ?_
          · exact fun _ => (Fr.refl _ _).drew
          repeat (first
            | (refine Rg.q (o := ?_) (v := ?_) ?_ ?_ ?_ ?_ ?_
               rotate_left 2
               · (simp only [List.getElem?_toArray, List.getElem?_cons_succ, List.getElem?_cons_zero]; rfl)
               · exact fun _ _ _ h => h
               · first | rfl | (go_simp; done)
               · (intro x_ hx; (try dsimp only at hx); (have q3 := hx.cell c3 id); go_simp; (try rw [if_neg (by omega)]); (try rw [if_pos (by omega)]); (try go_simp); try with_reducible rfl)
               try simp only [Act.put, List.setIfInBounds_toArray, List.set_cons_zero, List.set_cons_succ])
            | (refine Rg.skip (o := ?_) ?_ ?_ ?_ ?_
               rotate_left 1
               · (simp only [List.getElem?_toArray, List.getElem?_cons_succ, List.getElem?_cons_zero]; rfl)
               · exact fun _ _ _ h => h
               · first | rfl | (go_simp; done)
               try simp only [Act.put, List.setIfInBounds_toArray, List.set_cons_zero, List.set_cons_succ]))
          refine Rg.e (o := ?_) ?_ ?_
          rotate_left 1
          · (simp only [List.getElem?_toArray, List.getElem?_cons_succ, List.getElem?_cons_zero]; rfl)
          intro K hK
          rw [if_pos (by go_simp)]; go_simp
          refine (count_calls m s _ (by omega) (by omega)).mono ?_
          rw [hcI]
          rintro en x1 ⟨rfl, hx1⟩
          subst hx1
          go_simp
          refine hK.out _ _ (fun _ x => Fr No w5 x) (fun k x hk h => h) ?_ ?_
          · exact fun _ _ => (Fr.refl _ _).drew
          try simp only [Act.put, List.setIfInBounds_toArray, List.set_cons_zero, List.set_cons_succ]
          repeat (first
            | (refine Rg.q (o := ?_) (v := ?_) ?_ ?_ ?_ ?_ ?_
               rotate_left 2
               · (simp only [List.getElem?_toArray, List.getElem?_cons_succ, List.getElem?_cons_zero]; rfl)
               · exact fun _ _ _ h => h
               · first | rfl | (go_simp; done)
               · (intro x_ hx; (try dsimp only at hx); (have q3 := hx.cell c3 id); go_simp; (try rw [if_neg (by omega)]); (try rw [if_pos (by omega)]); (try go_simp); try with_reducible rfl)
               try simp only [Act.put, List.setIfInBounds_toArray, List.set_cons_zero, List.set_cons_succ])
            | (refine Rg.skip (o := ?_) ?_ ?_ ?_ ?_
               rotate_left 1
               · (simp only [List.getElem?_toArray, List.getElem?_cons_succ, List.getElem?_cons_zero]; rfl)
               · exact fun _ _ _ h => h
               · first | rfl | (go_simp; done)
               try simp only [Act.put, List.setIfInBounds_toArray, List.set_cons_zero, List.set_cons_succ]))
          refine Rg.done ?_
          go_simp
          go_wp2
          go_ret
          exact ⟨rfl, F4.out.none F5.out.drew⟩
      · obtain ⟨o, rfl⟩ := Int.eq_ofNat_of_zero_le (show 0 ≤ other by omega)
        have ho : o < i := by omega
        go_wp2_with (first
          | (refine ldG (.tmp 7) 26 _ _ rfl rfl (LD _ (Fr.refl _ _)) (by first | rfl | (go_simp; done)) ?_)
          | fail)
        refine (span_calls s o m 0 A1 i c1 wr ho (by omega) hs2 ((HSP.out o).1 ho)).mono ?_
        rintro e w5 ⟨rfl, hf⟩
        have F5 : Aside0 (Fr No w4 w5) := ⟨HF.out.none hf⟩
        clear hf LD c3
        have c3 : w5.cell? ⟨ga, 3, Option.none⟩ = some (.slice A1 i c1) := by rw [blk_cell (F5.out.heap X1.out id)]; rfl
        have o1 : (0 : Int) ≤ (o : Int) := by omega
        have o2 : (o : Int) < (i : Int) := by omega
        go_wp2
        refine Rg.start (fun _ x => Fr No w5 x) (by kernel_rfl) (by kernel_rfl) [9] [[8, 1, 0, 2, 3, 7, 9]] (by kernel_rfl) (.q 0 0 (.q 1 0 (.q 2 0 (.q 3 0 (.q 4 1 (.q 5 1 (.q 6 1 (.q 7 0 (.q 8 0 (.e 9 1 (.q 10 1 (.q 11 1 (.q 12 1 (.q 13 1 (.q 14 1 (.q 15 1 (.q 16 1 (.q 17 1 (.q 18 1 (.q 19 1 (.q 20 1 (.q 21 1 (.q 22 1 (.q 23 1 (.q 24 1 (.q 25 1 (.q 26 1 (.q 27 1 (.q 28 1 (.q 29 1 (.q 30 1 (.q 31 1 (.done))))))))))))))))))))))))))))))))) (by kernel_rfl) ?_ ?_
        · exact fun _ => (Fr.refl _ _).drew
        repeat (first
          | (refine Rg.q (o := ?_) (v := ?_) ?_ ?_ ?_ ?_ ?_
             rotate_left 2
             · (simp only [List.getElem?_toArray, List.getElem?_cons_succ, List.getElem?_cons_zero]; rfl)
             · exact fun _ _ _ h => h
             · first | rfl | (go_simp; done)
             · (intro x_ hx; (try dsimp only at hx); (have q3 := hx.cell c3 id); go_simp; (try rw [if_neg (by omega)]); (try rw [if_pos (by omega)]); (try go_simp); try with_reducible rfl)
             try simp only [Act.put, List.setIfInBounds_toArray, List.set_cons_zero, List.set_cons_succ])
          | (refine Rg.skip (o := ?_) ?_ ?_ ?_ ?_
             rotate_left 1
             · (simp only [List.getElem?_toArray, List.getElem?_cons_succ, List.getElem?_cons_zero]; rfl)
             · exact fun _ _ _ h => h
             · first | rfl | (go_simp; done)
             try simp only [Act.put, List.setIfInBounds_toArray, List.set_cons_zero, List.set_cons_succ]))
        refine Rg.e (o := ?_) ?_ ?_
        rotate_left 1
        · (simp only [List.getElem?_toArray, List.getElem?_cons_succ, List.getElem?_cons_zero]; rfl)
        intro K hK
        rw [if_pos (by go_simp)]; go_simp
        refine (count_calls m s _ (by omega) (by omega)).mono ?_
        rw [hcI]
        rintro en x1 ⟨rfl, hx1⟩
        subst hx1
        go_simp
        refine hK.out _ _ (fun _ x => Fr No w5 x) (fun k x hk h => h) ?_ ?_
        · exact fun _ _ => (Fr.refl _ _).drew
        try simp only [Act.put, List.setIfInBounds_toArray, List.set_cons_zero, List.set_cons_succ]
        repeat (first
          | (refine Rg.q (o := ?_) (v := ?_) ?_ ?_ ?_ ?_ ?_
             rotate_left 2
             · (simp only [List.getElem?_toArray, List.getElem?_cons_succ, List.getElem?_cons_zero]; rfl)
             · exact fun _ _ _ h => h
             · first | rfl | (go_simp; done)
             · (intro x_ hx; (try dsimp only at hx); (have q3 := hx.cell c3 id); go_simp; (try rw [if_neg (by omega)]); (try rw [if_pos (by omega)]); (try go_simp); try with_reducible rfl)
             try simp only [Act.put, List.setIfInBounds_toArray, List.set_cons_zero, List.set_cons_succ])
          | (refine Rg.skip (o := ?_) ?_ ?_ ?_ ?_
             rotate_left 1
             · (simp only [List.getElem?_toArray, List.getElem?_cons_succ, List.getElem?_cons_zero]; rfl)
             · exact fun _ _ _ h => h
             · first | rfl | (go_simp; done)
             try simp only [Act.put, List.setIfInBounds_toArray, List.set_cons_zero, List.set_cons_succ]))
        refine Rg.done ?_
        go_simp
        go_wp2
        go_ret
        exact ⟨rfl, F4.out.none F5.out.drew⟩
theorem walk (length size other : Int) (w : World) (h1 : (Lit.int .i64 length).wf = true) (h2 : (Lit.int .i64 size).wf = true) (h3 : (Lit.int .i64 other).wf = true) : Calls Try.prog 5 #[.int .i64 length, .int .i64 size, .int .i64 other] w fun e w' => e = .returned (.bool true) ∧ Fr No w w' := by
  by_cases h : length < 0 ∨ 300 < length ∨ size < 1 ∨ 4096 < size
  · exact walk_out length size other w (bounds_i64 h1).2 (bounds_i64 h2).2 h
  · obtain ⟨L, rfl⟩ := Int.eq_ofNat_of_zero_le (show 0 ≤ length by omega)
    obtain ⟨s, rfl⟩ := Int.eq_ofNat_of_zero_le (show 0 ≤ size by omega)
    exact walk_ok L s other w (by omega) (by omega) (by omega)
end Go.Proofs.Ytinjkebhamhenaa.LBlockSpans
