/- The walk of the law BlockAlike. -/
import Derived.Test.YtinjkebhamhenaaSums6
import Derived.Test.YtinjkebhamhenaaBlkB
import Derived.OpenShut
set_option linter.unusedVariables false
set_option linter.unusedSimpArgs false
namespace Go.Proofs.Ytinjkebhamhenaa.LBlockAlike
open Go.ChangeShapes Go.RowKit Go.IntWalk Go.Proofs.YtinjkebhamhenaaW.PrintWords Go.Proofs.Ytinjkebhamhenaa.B Go.Proofs.Ytinjkebhamhenaa.PB Go.Proofs.Ytinjkebhamhenaa.SWeak Go.Proofs.Ytinjkebhamhenaa.Bk Go.Proofs.Ytinjkebhamhenaa.SBlk Go.Proofs.Ytinjkebhamhenaa.Blk Go.Proofs.Ytinjkebhamhenaa.L6

set_option maxHeartbeats 8000000 in
set_option maxRecDepth 100000 in
theorem walk_out (vb : Value) (b : List UInt8) (vm : Value) (m : List UInt8) (size cut : Int) (w : World) (hb : RdB w vb b) (hm : RdB w vm m) (hout : 200 < b.length ∨ 200 < m.length) : Calls Try.prog 6 #[vb, vm, .agg #[.int .i64 size, .int .i64 cut]] w fun e w' => e = .returned (.bool true) ∧ Fr No w w' := by
  obtain ⟨A, c, rfl, _⟩ := id hb
  obtain ⟨A', c', rfl, _⟩ := id hm
  clear hb hm
  have hc : (200 : Int) < (b.length : Int) ∨ (¬ (200 : Int) < (b.length : Int) ∧ (200 : Int) < (m.length : Int)) := by omega
  clear hout
  rcases hc with h1 | ⟨h1, h2⟩
  all_goals
    go_enter Try.func6, Try.ntmps6
    go_wp2_with fail
    refine (sums_calls _).mono ?_
    rintro e w1 ⟨rfl, hf⟩
    have F1 : Aside0 (Fr No w w1) := ⟨((Fr.refl _ _).alloc _).none hf⟩
    clear hf
    go_wp2
    go_ret
    exact ⟨rfl, F1.out⟩

set_option maxHeartbeats 8000000 in
set_option maxRecDepth 100000 in
theorem walk_bad (vb : Value) (b : List UInt8) (vm : Value) (m : List UInt8) (size cut : Int) (w : World) (hb : RdB w vb b) (hm : RdB w vm m) (hs2 : size ≤ 9223372036854775807) (h1 : ¬ (200 : Int) < (b.length : Int)) (h2 : ¬ (200 : Int) < (m.length : Int)) (hE : makeE b.length size cut ≠ 0 ∨ makeE (b ++ m).length size cut ≠ 0) : Calls Try.prog 6 #[vb, vm, .agg #[.int .i64 size, .int .i64 cut]] w fun e w' => e = .returned (.bool true) ∧ Fr No w w' := by
  obtain ⟨A, c, rfl, hbc, _⟩ := id hb
  obtain ⟨A', c', rfl, hmc, _⟩ := id hm
  have hbm : (b ++ m).length ≤ 400 := by rw [List.length_append]; omega
  have h1m := fun W hW => make_calls (.slice A b.length c) b size cut W hW (by omega) hs2
  have h2m := fun v W hW => make_calls v (b ++ m) size cut W hW (by omega) hs2
  obtain ⟨E1, hE1⟩ : ∃ E, makeE b.length size cut = E := ⟨_, rfl⟩
  obtain ⟨E2, hE2⟩ : ∃ E, makeE (b ++ m).length size cut = E := ⟨_, rfl⟩
  obtain ⟨S1, hS1⟩ : ∃ S, makeS b size cut = S := ⟨_, rfl⟩
  obtain ⟨S2, hS2⟩ : ∃ S, makeS (b ++ m) size cut = S := ⟨_, rfl⟩
  rw [hE1, hS1] at h1m
  rw [hE2, hS2] at h2m
  rw [hE1, hE2] at hE
  have hor : Aside0 ((E1 == 0) = false ∨ (E1 = 0 ∧ (E2 == 0) = false)) := ⟨by
    by_cases h : E1 = 0
    · exact .inr ⟨h, by rw [beq_eq_false_iff_ne]; rcases hE with h9 | h9; exact absurd h h9; exact h9⟩
    · exact .inl (by rw [beq_eq_false_iff_ne]; exact h)⟩
  have HB := Aside0.mk hb; have HM := Aside0.mk hm; have H1 := Aside0.mk h1m; have H2 := Aside0.mk h2m
  clear hb hm h1m h2m hE1 hE2 hS1 hS2 hE
  go_enter Try.func6, Try.ntmps6
  go_upto_region 1 with fail
  have X0 := heap_alloc_new w (.cells #[.int .i64 size, .int .i64 cut] 38)
  have F0 : Aside0 (Fr No w (w.alloc (.cells #[.int .i64 size, .int .i64 cut] 38))) := ⟨(Fr.refl _ _).alloc _⟩
  change Code.wp _ _ _ _ (w.alloc (.cells #[.int .i64 size, .int .i64 cut] 38))
  generalize w.alloc (.cells #[.int .i64 size, .int .i64 cut] 38) = w0 at X0 F0 ⊢
  go_wp2_with fail
  refine (sums_calls w0).mono ?_
  rintro e w1 ⟨rfl, hf⟩
  have F1 : Aside0 (Fr No w w1) := ⟨F0.out.none hf⟩
  have k0 : w1.cell? ⟨w.heap.size, 0, Option.none⟩ = some (.int .i64 size) := by rw [blk_cell (hf.heap X0 id)]; rfl
  have k1 : w1.cell? ⟨w.heap.size, 1, Option.none⟩ = some (.int .i64 cut) := by rw [blk_cell (hf.heap X0 id)]; rfl
  clear hf X0
  go_wp2
  refine Rg.start (fun _ x => Fr No w1 x) (by kernel_rfl) (by kernel_rfl) [] [] (by kernel_rfl) (.q 0 0 (.q 1 0 (.q 2 0 (.q 3 0 (.q 4 0 (.q 5 0 (.done))))))) (by kernel_rfl) ?_ ?_
  · exact fun _ => (Fr.refl _ _).drew
  repeat (first
    | (refine Rg.q (o := ?_) (v := ?_) ?_ ?_ ?_ ?_ ?_
       rotate_left 2
       · (simp only [List.getElem?_toArray, List.getElem?_cons_succ, List.getElem?_cons_zero]; rfl)
       · exact fun _ _ _ h => h
       · first | rfl | (go_simp; done)
       · (intro x_ hx; (try dsimp only at hx); (have q0 := hx.cell k0 id; have q1 := hx.cell k1 id); go_simp; (try rw [if_neg (by omega)]); (try rw [if_pos (by omega)]); (try go_simp); try with_reducible rfl)
       try simp only [Act.put, List.setIfInBounds_toArray, List.set_cons_zero, List.set_cons_succ])
    | (refine Rg.skip (o := ?_) ?_ ?_ ?_ ?_
       rotate_left 1
       · (simp only [List.getElem?_toArray, List.getElem?_cons_succ, List.getElem?_cons_zero]; rfl)
       · exact fun _ _ _ h => h
       · first | rfl | (go_simp; done)
       try simp only [Act.put, List.setIfInBounds_toArray, List.set_cons_zero, List.set_cons_succ]))
  refine Rg.done ?_
  go_simp
  clear k0 k1
  have F1d : Aside0 (Fr No w w1.drew) := ⟨F1.out.drew⟩
  generalize w1.drew = w1 at F1d ⊢
  go_wp2_with fail
  refine (H1.out w1 (HB.out.no F1d.out)).mono ?_
  rintro e w2 ⟨sl, rfl, hO, hf⟩
  obtain ⟨A1, c1, rfl⟩ := hO.1.form
  have F2 : Aside0 (Fr No w w2) := ⟨F1d.out.none hf⟩
  have HO1 := Aside0.mk hO
  clear hO hf
  go_upto_region 7 with fail
  have X1 : Aside0 ((w2.alloc (.cells (sgC S1.size S1.cut S1.len (.slice A1 S1.bs.length c1)) 26)).heap[w2.heap.size]? = some (.cells (sgC S1.size S1.cut S1.len (.slice A1 S1.bs.length c1)) 26 (0, 0))) := ⟨heap_alloc_new w2 _⟩
  have F3 : Aside0 (Fr No w2 (w2.alloc (.cells (sgC S1.size S1.cut S1.len (.slice A1 S1.bs.length c1)) 26))) := ⟨(Fr.refl _ _).alloc _⟩
  change Code.wp _ _ _ _ (w2.alloc (.cells (sgC S1.size S1.cut S1.len (.slice A1 S1.bs.length c1)) 26))
  generalize w2.alloc (.cells (sgC S1.size S1.cut S1.len (.slice A1 S1.bs.length c1)) 26) = w3 at X1 F3 ⊢
  obtain ⟨ga, hga⟩ : ∃ g, w2.heap.size = g := ⟨_, rfl⟩
  rw [hga] at X1 ⊢
  have F03 : Aside0 (Fr No w w3) := ⟨F2.out.none F3.out⟩
  have N0 : Aside0 (On w3 (w3.alloc (.cells #[] 5)) (.slice (some ⟨w3.heap.size, 0, none⟩) 0 0) []) := ⟨own_empty w3, fun q hq => Nat.le_of_eq (by simpa [Value.ownBlock] using hq), (Fr.refl _ _).alloc _⟩
  go_wp2_with (at_builtin; first
    | (refine apBs (.slice (some ⟨w3.heap.size, 0, none⟩) 0 0) [] (.slice A b.length c) b rfl (.tmp 37) (.tmp 38) rfl rfl rfl N0.out.own ((HB.out.no F03.out).no N0.out.fr) (by simp; omega) ?_; intro v1 w4 i1 i2 i3 i4; have N1 : Aside0 (On w3 w4 v1 ([] ++ b)) := ⟨N0.out.step i1 i2 i3⟩; clear i1 i2 i3 i4; rw [List.nil_append] at N1)
    | (refine apBs v1 b (.slice A' m.length c') m rfl (.tmp 39) (.tmp 40) rfl rfl rfl N1.out.own ((HM.out.no F03.out).no N1.out.fr) (by omega) ?_; intro v2 w5 i1 i2 i3 i4; have N2 : Aside0 (On w3 w5 v2 (b ++ m)) := ⟨N1.out.step i1 i2 i3⟩; clear i1 i2 i3 i4))
  refine (H2.out v2 w5 N2.out.own.rd).mono ?_
  rintro e w6 ⟨sl, rfl, hO, hf⟩
  obtain ⟨A2, c2, rfl⟩ := hO.1.form
  have F6 : Aside0 (Fr No w3 w6) := ⟨N2.out.fr.none hf⟩
  have X16 : Aside0 (w6.heap[ga]? = some (.cells (sgC S1.size S1.cut S1.len (.slice A1 S1.bs.length c1)) 26 (0, 0))) := ⟨F6.out.heap X1.out id⟩
  have HO2 := Aside0.mk hO
  clear hO hf
  rcases hor.out with h3 | ⟨rfl, h4⟩
  all_goals
    go_wp2
    go_ret
    exact ⟨rfl, (F03.out.none F6.out).alloc _⟩

theorem nlt (n q : Nat) (h : q ≤ n) : ¬ (n : Int) < (q : Int) := by omega
theorem ne0 (s : Nat) (h : 1 ≤ s) : ((s : Int) == 0) = false := by rw [beq_eq_false_iff_ne]; omega
theorem w64 (q : Nat) (h : q ≤ 200) : wrap64 (q : Int) = (q : Int) := wrap64_in _ (by omega)
set_option maxHeartbeats 8000000 in
set_option maxRecDepth 100000 in
theorem walk_ok (vb : Value) (b : List UInt8) (vm : Value) (m : List UInt8) (s d : Nat) (w : World) (hb : RdB w vb b) (hm : RdB w vm m) (h1 : ¬ (200 : Int) < (b.length : Int)) (h2 : ¬ (200 : Int) < (m.length : Int)) (hs : 1 ≤ s) (hs2 : s ≤ 4096) (hd : d ≤ 32) (hE : makeE b.length s d = 0) (hE' : makeE (b ++ m).length s d = 0) : Calls Try.prog 6 #[vb, vm, .agg #[.int .i64 (s : Int), .int .i64 (d : Int)]] w fun e w' => e = .returned (.bool true) ∧ Fr No w w' := by
  obtain ⟨A, c, rfl, hbc, _⟩ := id hb
  obtain ⟨A', c', rfl, hmc, _⟩ := id hm
  have hbm : (b ++ m).length ≤ 400 := by rw [List.length_append]; omega
  have h1m := fun W hW => make_calls (.slice A b.length c) b (s : Int) (d : Int) W hW (by omega) (by omega)
  have h2m := fun v W hW => make_calls v (b ++ m) (s : Int) (d : Int) W hW (by omega) (by omega)
  have m1 : makeS b s (d : Int) = ⟨s, d, b.length, blocks s d b (cnt b.length s)⟩ := by unfold makeS; rw [if_pos hE, Int.toNat_natCast]
  have m2 : makeS (b ++ m) s (d : Int) = ⟨s, d, (b ++ m).length, blocks s d (b ++ m) (cnt (b ++ m).length s)⟩ := by unfold makeS; rw [if_pos hE', Int.toNat_natCast]
  have hz : m.length = 0 → cnt (b ++ m).length s = cnt b.length s := fun h => by
    obtain rfl := List.length_eq_zero_iff.1 h
    rw [List.append_nil]
  obtain ⟨n1, hn1⟩ : ∃ n, cnt b.length s = n := ⟨_, rfl⟩
  obtain ⟨n2, hn2⟩ : ∃ n, cnt (b ++ m).length s = n := ⟨_, rfl⟩
  obtain ⟨q, hq⟩ : ∃ q, b.length / s = q := ⟨_, rfl⟩
  have hwc := whole_cnt b.length s
  have hwc2 := whole_cnt (b ++ m).length s
  have hq1 := whole_le b.length s
  have hq2 : q ≤ n2 := by
    rw [← hn2, ← hq]
    exact Nat.le_trans (Nat.div_le_div_right (by rw [List.length_append]; omega)) (whole_le (b ++ m).length s)
  rw [m1, hE, hn1] at h1m
  rw [m2, hE', hn2] at h2m
  rw [hn1, hq] at hwc
  rw [hn1, hq] at hq1
  rw [hn1, hn2] at hz
  dsimp only at h1m h2m
  obtain ⟨L2, hL2⟩ : ∃ L, (b ++ m).length = L := ⟨_, rfl⟩
  rw [hL2] at h2m
  have hl1 := blocks_length s (d : Int) b n1
  have hl2 := blocks_length s (d : Int) (b ++ m) n2
  have hqI : (b.length : Int) / (s : Int) = (q : Int) := by rw [← hq]; exact (Int.natCast_ediv _ _).symm
  have hql : q ≤ 200 := by rw [← hq]; exact Nat.le_trans (Nat.div_le_self _ _) (by omega)
  have hwq := w64 q hql
  have hg1 := blocks_get s (d : Int) b n1
  have hg2 := blocks_get s (d : Int) (b ++ m) n2
  have hpm := piece_more s b m
  have HB := Aside0.mk hb; have HM := Aside0.mk hm; have H1 := Aside0.mk h1m; have H2 := Aside0.mk h2m; have HL1 := Aside0.mk hl1; have HL2 := Aside0.mk hl2
  have HG1 := Aside0.mk hg1; have HG2 := Aside0.mk hg2; have HPM := Aside0.mk hpm; have HWC := Aside0.mk hwc; have HZ := Aside0.mk hz; have HQI := Aside0.mk hqI; have HWQ := Aside0.mk hwq
  have HQ1 := Aside0.mk hq1; have HQ2 := Aside0.mk hq2
  have HQN1 : Aside0 (¬ (n1 : Int) < (q : Int)) := ⟨nlt _ _ hq1⟩
  have HQN2 : Aside0 (¬ (n2 : Int) < (q : Int)) := ⟨nlt _ _ hq2⟩
  have HS0 : Aside0 (((s : Int) == 0) = false) := ⟨ne0 _ hs⟩
  clear hb hm h1m h2m hE hE' m1 m2 hL2 hn1 hn2 hq hg1 hg2 hpm hwc hwc2 hz hqI hwq hl1 hl2 hq1 hq2
  go_enter Try.func6, Try.ntmps6
  go_upto_region 1 with fail
  have X0 := heap_alloc_new w (.cells #[.int .i64 (s : Int), .int .i64 (d : Int)] 38)
  have F0 : Aside0 (Fr No w (w.alloc (.cells #[.int .i64 (s : Int), .int .i64 (d : Int)] 38))) := ⟨(Fr.refl _ _).alloc _⟩
  change Code.wp _ _ _ _ (w.alloc (.cells #[.int .i64 (s : Int), .int .i64 (d : Int)] 38))
  generalize w.alloc (.cells #[.int .i64 (s : Int), .int .i64 (d : Int)] 38) = w0 at X0 F0 ⊢
  go_wp2_with fail
  refine (sums_calls w0).mono ?_
  rintro e w1 ⟨rfl, hf⟩
  have F1 : Aside0 (Fr No w w1) := ⟨F0.out.none hf⟩
  have k0 : w1.cell? ⟨w.heap.size, 0, Option.none⟩ = some (.int .i64 (s : Int)) := by rw [blk_cell (hf.heap X0 id)]; rfl
  have k1 : w1.cell? ⟨w.heap.size, 1, Option.none⟩ = some (.int .i64 (d : Int)) := by rw [blk_cell (hf.heap X0 id)]; rfl
  clear hf X0
  go_wp2
  refine Rg.start (fun _ x => Fr No w1 x) (by kernel_rfl) (by kernel_rfl) [] [] (by kernel_rfl) (.q 0 0 (.q 1 0 (.q 2 0 (.q 3 0 (.q 4 0 (.q 5 0 (.done))))))) (by kernel_rfl) ?_ ?_
  · exact fun _ => (Fr.refl _ _).drew
  repeat (first
    | (refine Rg.q (o := ?_) (v := ?_) ?_ ?_ ?_ ?_ ?_
       rotate_left 2
       · (simp only [List.getElem?_toArray, List.getElem?_cons_succ, List.getElem?_cons_zero]; rfl)
       · exact fun _ _ _ h => h
       · first | rfl | (go_simp; done)
       · (intro x_ hx; (try dsimp only at hx); (have q0 := hx.cell k0 id; have q1 := hx.cell k1 id); go_simp; (try rw [if_neg (by omega)]); (try rw [if_pos (by omega)]); (try go_simp); try with_reducible rfl)
       try simp only [Act.put, List.setIfInBounds_toArray, List.set_cons_zero, List.set_cons_succ])
    | (refine Rg.skip (o := ?_) ?_ ?_ ?_ ?_
       rotate_left 1
       · (simp only [List.getElem?_toArray, List.getElem?_cons_succ, List.getElem?_cons_zero]; rfl)
       · exact fun _ _ _ h => h
       · first | rfl | (go_simp; done)
       try simp only [Act.put, List.setIfInBounds_toArray, List.set_cons_zero, List.set_cons_succ]))
  refine Rg.done ?_
  go_simp
  clear k0 k1
  have F1d : Aside0 (Fr No w w1.drew) := ⟨F1.out.drew⟩
  generalize w1.drew = w1 at F1d ⊢
  go_wp2_with fail
  refine (H1.out w1 (HB.out.no F1d.out)).mono ?_
  rintro e w2 ⟨sl, rfl, hO, hf⟩
  obtain ⟨A1, c1, rfl⟩ := hO.1.form
  rw [HL1.out] at hO ⊢
  have F2 : Aside0 (Fr No w w2) := ⟨F1d.out.none hf⟩
  have HO1 := Aside0.mk hO
  clear hO hf
  go_upto_region 7 with fail
  have X1 : Aside0 ((w2.alloc (.cells (sgC s d b.length (.slice A1 n1 c1)) 26)).heap[w2.heap.size]? = some (.cells (sgC s d b.length (.slice A1 n1 c1)) 26 (0, 0))) := ⟨heap_alloc_new w2 _⟩
  have F3 : Aside0 (Fr No w2 (w2.alloc (.cells (sgC s d b.length (.slice A1 n1 c1)) 26))) := ⟨(Fr.refl _ _).alloc _⟩
  change Code.wp _ _ _ _ (w2.alloc (.cells (sgC s d b.length (.slice A1 n1 c1)) 26))
  generalize w2.alloc (.cells (sgC s d b.length (.slice A1 n1 c1)) 26) = w3 at X1 F3 ⊢
  obtain ⟨ga, hga⟩ : ∃ g, w2.heap.size = g := ⟨_, rfl⟩
  rw [hga] at X1 ⊢
  have F03 : Aside0 (Fr No w w3) := ⟨F2.out.none F3.out⟩
  have N0 : Aside0 (On w3 (w3.alloc (.cells #[] 5)) (.slice (some ⟨w3.heap.size, 0, none⟩) 0 0) []) := ⟨own_empty w3, fun q hq => Nat.le_of_eq (by simpa [Value.ownBlock] using hq), (Fr.refl _ _).alloc _⟩
  go_wp2_with (at_builtin; first
    | (refine apBs (.slice (some ⟨w3.heap.size, 0, none⟩) 0 0) [] (.slice A b.length c) b rfl (.tmp 37) (.tmp 38) rfl rfl rfl N0.out.own ((HB.out.no F03.out).no N0.out.fr) (by simp; omega) ?_; intro v1 w4 i1 i2 i3 i4; have N1 : Aside0 (On w3 w4 v1 ([] ++ b)) := ⟨N0.out.step i1 i2 i3⟩; clear i1 i2 i3 i4; rw [List.nil_append] at N1)
    | (refine apBs v1 b (.slice A' m.length c') m rfl (.tmp 39) (.tmp 40) rfl rfl rfl N1.out.own ((HM.out.no F03.out).no N1.out.fr) (by omega) ?_; intro v2 w5 i1 i2 i3 i4; have N2 : Aside0 (On w3 w5 v2 (b ++ m)) := ⟨N1.out.step i1 i2 i3⟩; clear i1 i2 i3 i4))
  refine (H2.out v2 w5 N2.out.own.rd).mono ?_
  rintro e w6 ⟨sl, rfl, hO, hf⟩
  obtain ⟨A2, c2, rfl⟩ := hO.1.form
  rw [HL2.out] at hO ⊢
  have F6 : Aside0 (Fr No w3 w6) := ⟨N2.out.fr.none hf⟩
  have X16 : Aside0 (w6.heap[ga]? = some (.cells (sgC s d b.length (.slice A1 n1 c1)) 26 (0, 0))) := ⟨F6.out.heap X1.out id⟩
  have HO2 := Aside0.mk hO
  clear hO hf
  go_upto_region 8 with fail
  have X2 : Aside0 ((w6.alloc (.cells (sgC s d L2 (.slice A2 n2 c2)) 26)).heap[w6.heap.size]? = some (.cells (sgC s d L2 (.slice A2 n2 c2)) 26 (0, 0))) := ⟨heap_alloc_new w6 _⟩
  have F7 : Aside0 (Fr No w6 (w6.alloc (.cells (sgC s d L2 (.slice A2 n2 c2)) 26))) := ⟨(Fr.refl _ _).alloc _⟩
  change Code.wp _ _ _ _ (w6.alloc (.cells (sgC s d L2 (.slice A2 n2 c2)) 26))
  generalize w6.alloc (.cells (sgC s d L2 (.slice A2 n2 c2)) 26) = w7 at X2 F7 ⊢
  obtain ⟨gb, hgb⟩ : ∃ g, w6.heap.size = g := ⟨_, rfl⟩
  rw [hgb] at X2 ⊢
  have X17 : Aside0 (w7.heap[ga]? = some (.cells (sgC s d b.length (.slice A1 n1 c1)) 26 (0, 0))) := ⟨F7.out.heap X16.out id⟩
  have R1 : Aside0 (Rd (fBk .u32) w7 (.slice A1 n1 c1) (blocks s (d : Int) b n1)) := ⟨((HO1.out.1.rd.no F3.out).no F6.out).no F7.out⟩
  have R2 : Aside0 (Rd (fBk .u32) w7 (.slice A2 n2 c2) (blocks s (d : Int) (b ++ m) n2)) := ⟨HO2.out.1.rd.no F7.out⟩
  have FW : Aside0 (Fr No w w7) := ⟨(F03.out.none F6.out).none F7.out⟩
  clear hga hgb HO1 HO2 X1 X16 F3 F6 F7 N0 N1 N2
  have c3 : w7.cell? ⟨ga, 3, Option.none⟩ = some (.slice A1 n1 c1) := by rw [blk_cell X17.out]; rfl
  have c4 : w7.cell? ⟨gb, 3, Option.none⟩ = some (.slice A2 n2 c2) := by rw [blk_cell X2.out]; rfl
  have hs0 := HS0.out
  go_upto_region 11 with fail
  simp only [HQI.out, HWQ.out]
  have hq1 := HQN1.out; have hq2 := HQN2.out
  go_wp2
  clear c3 c4 hq1 hq2 hs0
  have e1 : decide (n1 < q) = false := decide_eq_false (Nat.not_lt.2 HQ1.out)
  have e2 : decide (n2 < q) = false := decide_eq_false (Nat.not_lt.2 HQ2.out)
  simp only [e1, e2, Bool.or_false]
  clear e1 e2
  go_loopw [70] (fun v70 wr => ∃ i : Nat, v70 = .int .i64 (i : Int) ∧ i ≤ q ∧ Aside0 (Fr No w7 wr)) (fun v70 _ => q - (intOf v70).toNat)
  case atStart => exact ⟨0, rfl, Nat.zero_le _, ⟨Fr.refl _ _⟩⟩
  case round =>
    obtain ⟨i, rfl, hi, HF⟩ := hrel
    have c3 : wr.cell? ⟨ga, 3, Option.none⟩ = some (.slice A1 n1 c1) := by rw [blk_cell (HF.out.heap X17.out id)]; rfl
    have c4 : wr.cell? ⟨gb, 3, Option.none⟩ = some (.slice A2 n2 c2) := by rw [blk_cell (HF.out.heap X2.out id)]; rfl
    by_cases hil : i < q
    · have hiI : (i : Int) < (q : Int) := by omega
      obtain ⟨hin, hiL⟩ := HWC.out i hs hil
      have hin2 : i < n2 := by have := HQ2.out; omega
      have e1 := HG1.out i hin
      have e2 := HG2.out i hin2
      rw [HPM.out i hiL] at e2
      obtain ⟨B, hB⟩ : ∃ B, sums (d : Int) (piece s b i) = B := ⟨_, rfl⟩
      rw [hB] at e1 e2
      obtain ⟨ad1, hA1, hcv1⟩ := rd_at R1.out i _ e1
      obtain ⟨ad2, hA2, hcv2⟩ := rd_at R2.out i _ e2
      have LB1 : ∀ x, Fr No wr x → (loadVar 55 (ad1.add (i * 33))).run Try.prog x = .ok (.agg (bkC .u32 B)) x := ld_elem (hcv1.no HF.out) Try.underlying55 rfl (by rw [bkL_length]; kernel_rfl)
      have LB2 : ∀ x, Fr No wr x → (loadVar 55 (ad2.add (i * 33))).run Try.prog x = .ok (.agg (bkC .u32 B)) x := ld_elem (hcv2.no HF.out) Try.underlying55 rfl (by rw [bkL_length]; kernel_rfl)
      have qn : ∀ W, (binOp .neq 55 (.agg (bkC .u32 B)) (.agg (bkC .u32 B))).run Try.prog W = .ok (.bool false) W := fun W => by rw [neqP]; simp
      have qg := fun x y W => run_eqGuard_agg (P := Try.prog) W .neq 55 x y (bkC .u32 B) (bkC .u32 B) (by kernel_rfl)
      have HA1 := Aside0.mk hA1; have HA2 := Aside0.mk hA2
      clear hB e1 e2 hA1 hA2 hcv1 hcv2
      go_wp2
      refine Rg.start (fun _ x => Fr No wr x) (by kernel_rfl) (by kernel_rfl) [] [] (by kernel_rfl) (.q 0 0 (.q 1 0 (.q 2 0 (.q 3 0 (.q 4 0 (.q 5 0 (.q 6 0 (.q 7 0 (.q 8 0 (.q 9 0 (.q 10 0 (.done)))))))))))) (by kernel_rfl) ?_ ?_
      · exact fun _ => (Fr.refl _ _).drew
      repeat (first
        | (refine Rg.q (o := ?_) (v := ?_) ?_ ?_ ?_ ?_ ?_
           rotate_left 2
           · (simp only [List.getElem?_toArray, List.getElem?_cons_succ, List.getElem?_cons_zero]; rfl)
           · exact fun _ _ _ h => h
           · first | rfl | (go_simp; done)
           · (intro x_ hx; (try dsimp only at hx); first | (first|(refine (ex_ix 24 55 33 _ _ ad1 A1 n1 c1 i _ Try.underlying24 (by kernel_rfl) rfl rfl HA1.out rfl rfl hin).trans ?_; with_reducible rfl)|(refine (ex_ix 24 55 33 _ _ ad2 A2 n2 c2 i _ Try.underlying24 (by kernel_rfl) rfl rfl HA2.out rfl rfl hin2).trans ?_; with_reducible rfl)) | (first|(refine (ex_ld rfl rfl (LB1 _ hx)).trans ?_; with_reducible rfl)|(refine (ex_ld rfl rfl (LB2 _ hx)).trans ?_; with_reducible rfl)) | (have q3 := hx.cell c3 id; have q4 := hx.cell c4 id; (try clear hx); go_simp; (try rw [if_neg (by omega)]); (try rw [if_pos (by omega)]); (try go_simp); try with_reducible rfl))
           try simp only [Act.put, List.setIfInBounds_toArray, List.set_cons_zero, List.set_cons_succ])
        | (refine Rg.skip (o := ?_) ?_ ?_ ?_ ?_
           rotate_left 1
           · (simp only [List.getElem?_toArray, List.getElem?_cons_succ, List.getElem?_cons_zero]; rfl)
           · exact fun _ _ _ h => h
           · first | rfl | (go_simp; done)
           try simp only [Act.put, List.setIfInBounds_toArray, List.set_cons_zero, List.set_cons_succ]))
      refine Rg.done ?_
      go_simp
      clear c3 c4 LB1 LB2 qn qg
      go_wp2
      go_roundw
      case rel => exact ⟨i + 1, by go_num, by omega, ⟨HF.out.drew⟩⟩
      case measure => simp [intOf]; omega
    · have hiI : ¬ (i : Int) < (q : Int) := by omega
      by_cases hm0 : m.length = 0
      · have hmI : ¬ (0 : Int) < (m.length : Int) := by omega
        have hnn : ((n1 : Int) == (n2 : Int)) = true := by rw [HZ.out hm0]; simp
        go_wp2
        go_ret
        exact ⟨rfl, FW.out.none HF.out⟩
      · have hmI : (0 : Int) < (m.length : Int) := by omega
        go_wp2
        go_ret
        exact ⟨rfl, FW.out.none HF.out⟩

theorem walk (vb : Value) (b : List UInt8) (vm : Value) (m : List UInt8) (size cut : Int) (w : World) (hb : RdB w vb b ∧ b.length ≤ reach) (hm : RdB w vm m ∧ m.length ≤ reach) (hs : (Lit.int .i64 size).wf = true ∧ (Lit.int .i64 cut).wf = true) : Calls Try.prog 6 #[vb, vm, .agg #[.int .i64 size, .int .i64 cut]] w fun e w' => e = .returned (.bool true) ∧ Fr No w w' := by
  by_cases h : 200 < b.length ∨ 200 < m.length
  · exact walk_out vb b vm m size cut w hb.1 hm.1 h
  · by_cases hE : makeE b.length size cut ≠ 0 ∨ makeE (b ++ m).length size cut ≠ 0
    · exact walk_bad vb b vm m size cut w hb.1 hm.1 (bounds_i64 hs.1).2 (by omega) (by omega) hE
    · have hE1 : makeE b.length size cut = 0 := Decidable.byContradiction fun h9 => hE (.inl h9)
      have hE2 : makeE (b ++ m).length size cut = 0 := Decidable.byContradiction fun h9 => hE (.inr h9)
      obtain ⟨s, d, rfl, rfl, h1, h2, h3, _⟩ := made hE1
      exact walk_ok vb b vm m s d w hb.1 hm.1 (by omega) (by omega) h1 h2 h3 hE1 hE2
end Go.Proofs.Ytinjkebhamhenaa.LBlockAlike
