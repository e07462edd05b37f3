/- The walk of the law AuthParts. -/
import Derived.Test.YtdicjcpcohclaaaAuthL
import Derived.Test.YtdicjcpcohclaaaAuthR
import Derived.OpenShut
set_option linter.unusedVariables false
set_option linter.unusedSimpArgs false
namespace Go.Proofs.Ytdicjcpcohclaaa.LAuthParts
open Go.ChangeShapes Go.RowKit Go.Proofs.YtdicjcpcohclaaaW.PrintWords Go.Proofs.Ytdicjcpcohclaaa.B Go.Proofs.Ytdicjcpcohclaaa.PB Go.Proofs.Ytdicjcpcohclaaa.Sha Go.Proofs.Ytdicjcpcohclaaa.Auth

theorem agg2 (n0 n1 : List UInt8) : (n0 ++ n1).map vu8 = n0.map vu8 ++ n1.map vu8 := List.map_append
set_option maxHeartbeats 8000000 in
set_option maxRecDepth 100000 in
theorem walk (s0 s1 m0 m1 n0 n1 : List UInt8) (w : World) (hs : s0.length ≤ maxLen ∧ s1.length ≤ maxLen) (hm : m0.length ≤ maxLen ∧ m1.length ≤ maxLen) (hn : n0.length = 16 ∧ n1.length = 16) :
    Calls Try.prog 19 #[.agg #[.string (bstr s0), .string (bstr s1)], .agg #[.string (bstr m0), .string (bstr m1)], Arr.av (n0 ++ n1)] w fun e w' => e = .returned (.bool true) ∧ Fr No w w' := by
  obtain ⟨hn0, hn1⟩ := hn; obtain ⟨hs0, hs1⟩ := hs; obtain ⟨hm0, hm1⟩ := hm
  simp only [maxLen] at hs0 hs1 hm0 hm1
  have AC0 := fun W h1 h2 => answer_calls s0 m0 n0 W h1 h2 hn0
  have AC1 := fun W h1 h2 => answer_calls s1 m1 n1 W h1 h2 hn1
  have RC0 := fun W h1 h2 => ref_answer_calls s0 m0 n0 W h1 h2 hn0
  have RC1 := fun W h1 h2 => ref_answer_calls s1 m1 n1 W h1 h2 hn1
  have sn : ((n0 ++ n1).map vu8).toArray.size = 32 := by simp [hn0, hn1]
  have l0 : (n0.map vu8).length = 16 := by simp [hn0]
  have l1 : (n1.map vu8).length = 16 := by simp [hn1]
  have hd1 : ((n0 ++ n1).map vu8).toArray.toList.drop 16 = n1.map vu8 := by
    rw [agg2]; simp [hn0]
  have hd0 : ((n0 ++ n1).map vu8).toArray.toList.drop 0 = n0.map vu8 ++ n1.map vu8 := by
    rw [agg2]; simp
  unfold Arr.av at AC0 AC1 RC0 RC1 ⊢
  obtain ⟨vn, hvn⟩ : ∃ vn, ((n0 ++ n1).map vu8).toArray = vn := ⟨_, rfl⟩
  rw [hvn] at sn hd0 hd1 ⊢
  obtain ⟨v0, hv0⟩ : ∃ v0, n0.map vu8 = v0 := ⟨_, rfl⟩
  obtain ⟨v1, hv1⟩ : ∃ v1, n1.map vu8 = v1 := ⟨_, rfl⟩
  rw [hv0] at l0; rw [hv1] at l1
  rw [hv0, hv1] at hd0
  rw [hv1] at hd1
  simp only [hv0] at AC0 RC0
  simp only [hv1] at AC1 RC1
  clear hvn hv0 hv1 hn0 hn1
  obtain ⟨x0, hx0⟩ : ∃ x0, mac s0 (n0 ++ m0) = x0 := ⟨_, rfl⟩
  obtain ⟨x1, hx1⟩ : ∃ x1, mac s1 (n1 ++ m1) = x1 := ⟨_, rfl⟩
  have hl0 : x0.length = 32 := by rw [← hx0]; exact mac_length _ _
  have hl1 : x1.length = 32 := by rw [← hx1]; exact mac_length _ _
  simp only [hx0] at AC0 RC0
  simp only [hx1] at AC1 RC1
  clear hx0 hx1
  have qe := fun W => Arr.run_eql Try.underlying34 W x0 x1 hl0 hl1
  unfold Arr.av at qe
  have qg := fun x y W => run_eqGuard_agg (P := Try.prog) W .eql 34 x y (x0.map vu8).toArray (x1.map vu8).toArray (by kernel_rfl)
  have S0 : (((w.alloc (.cells #[.string (bstr s0), .string (bstr s1)] 88)).alloc (.cells #[.string (bstr m0), .string (bstr m1)] 88)).alloc (.cells vn 89)).heap[w.heap.size]? = some (.cells #[.string (bstr s0), .string (bstr s1)] 88 (0, 0)) := blk_alloc (blk_alloc (heap_alloc_new w _) _) _
  have M0 : (((w.alloc (.cells #[.string (bstr s0), .string (bstr s1)] 88)).alloc (.cells #[.string (bstr m0), .string (bstr m1)] 88)).alloc (.cells vn 89)).heap[w.heap.size + 1]? = some (.cells #[.string (bstr m0), .string (bstr m1)] 88 (0, 0)) := blk_alloc (heap_alloc2_new w _ _) _
  have N0 : (((w.alloc (.cells #[.string (bstr s0), .string (bstr s1)] 88)).alloc (.cells #[.string (bstr m0), .string (bstr m1)] 88)).alloc (.cells vn 89)).heap[w.heap.size + 1 + 1]? = some (.cells vn 89 (0, 0)) := by
    have h := heap_alloc_new ((w.alloc (.cells #[.string (bstr s0), .string (bstr s1)] 88)).alloc (.cells #[.string (bstr m0), .string (bstr m1)] 88)) (.cells vn 89)
    simpa using h
  have F0 : Fr No w (((w.alloc (.cells #[.string (bstr s0), .string (bstr s1)] 88)).alloc (.cells #[.string (bstr m0), .string (bstr m1)] 88)).alloc (.cells vn 89)) := (((Fr.refl _ _).alloc _).alloc _).alloc _
  go_enter Try.func19, Try.ntmps19
  go_wp2_with fail
  refine (lets_calls _).mono ?_
  rintro e w1 ⟨rfl, hf⟩
  have F1 : Aside0 (Fr No w w1) := ⟨F0.none hf⟩
  have b0 := hf.heap S0 id
  have b1 := hf.heap M0 id
  have b2 := hf.heap N0 id
  have e0 : w1.cell? ⟨w.heap.size, 0, none⟩ = some (.string (bstr s0)) := by rw [blk_cell b0]; rfl
  have e1 : w1.cell? ⟨w.heap.size, 1, none⟩ = some (.string (bstr s1)) := by rw [blk_cell b0]; rfl
  have e2 : w1.cell? ⟨w.heap.size + 1, 0, none⟩ = some (.string (bstr m0)) := by rw [blk_cell b1]; rfl
  have e3 : w1.cell? ⟨w.heap.size + 1, 1, none⟩ = some (.string (bstr m1)) := by rw [blk_cell b1]; rfl
  have c0 : Cv w1 ⟨w.heap.size + 1 + 1, 0, none⟩ v0 := by
    have h := Cv.of_block b2 0
    rw [hd0] at h
    exact h.take
  have c1 : Cv w1 ⟨w.heap.size + 1 + 1, 16, none⟩ v1 := by
    have h := Cv.of_block b2 16
    rw [hd1] at h
    exact h
  have LN0 : ∀ x, Fr No w1 x → (loadVar 69 ⟨w.heap.size + 1 + 1, 0, none⟩).run Try.prog x = .ok (.agg v0.toArray) x := fun x hx => run_loadVar_cells (c0.no hx) Try.underlying69 rfl (by rw [l0]; kernel_rfl)
  have LN1 : ∀ x, Fr No w1 x → (loadVar 69 ⟨w.heap.size + 1 + 1, 16, none⟩).run Try.prog x = .ok (.agg v1.toArray) x := fun x hx => run_loadVar_cells (c1.no hx) Try.underlying69 rfl (by rw [l1]; kernel_rfl)
  clear hf S0 M0 N0 F0 b0 b1 b2 c0 c1
  go_wp2
  go_loopw [11] (fun v11 wr => ∃ i : Nat, v11 = .int .i64 i ∧ i ≤ 2 ∧ (0 < i → s0.length ≤ 200 ∧ m0.length ≤ 100) ∧ (1 < i → s1.length ≤ 200 ∧ m1.length ≤ 100) ∧ wr = w1) (fun v11 _ => 2 - (intOf v11).toNat)
  case atStart => exact ⟨0, rfl, by omega, fun h => by omega, fun h => by omega, rfl⟩
  case round =>
    obtain ⟨i, rfl, hi, h1, h2, rfl⟩ := hrel
    have H1 := Aside0.mk h1; have H2 := Aside0.mk h2
    clear h1 h2
    rcases (by omega : i = 0 ∨ i = 1 ∨ i = 2) with rfl | rfl | rfl
    · by_cases q1 : s0.length ≤ 200
      · have q1I : ¬ (200 : Int) < (s0.length : Int) := by omega
        by_cases q2 : m0.length ≤ 100
        · have q2I : ¬ (100 : Int) < (m0.length : Int) := by omega
          go_wp2
          go_roundw
          case rel => exact ⟨1, rfl, by omega, fun _ => ⟨q1, q2⟩, fun h => by omega, trivial⟩
          case measure => simp [intOf]
        · have q2I : (100 : Int) < (m0.length : Int) := by omega
          go_wp2
          go_ret
          exact ⟨rfl, F1.out⟩
      · have q1I : (200 : Int) < (s0.length : Int) := by omega
        go_wp2
        go_ret
        exact ⟨rfl, F1.out⟩
    · by_cases q1 : s1.length ≤ 200
      · have q1I : ¬ (200 : Int) < (s1.length : Int) := by omega
        by_cases q2 : m1.length ≤ 100
        · have q2I : ¬ (100 : Int) < (m1.length : Int) := by omega
          go_wp2
          go_roundw
          case rel => exact ⟨2, rfl, by omega, fun _ => H1.out (by omega), fun h => ⟨q1, q2⟩, trivial⟩
          case measure => simp [intOf]
        · have q2I : (100 : Int) < (m1.length : Int) := by omega
          go_wp2
          go_ret
          exact ⟨rfl, F1.out⟩
      · have q1I : (200 : Int) < (s1.length : Int) := by omega
        go_wp2
        go_ret
        exact ⟨rfl, F1.out⟩
    · obtain ⟨p1, p2⟩ := H1.out (by omega)
      obtain ⟨p3, p4⟩ := H2.out (by omega)
      replace AC0 := fun W => AC0 W (by omega) (by omega)
      replace AC1 := fun W => AC1 W (by omega) (by omega)
      replace RC0 := fun W => RC0 W (by omega) (by omega)
      replace RC1 := fun W => RC1 W (by omega) (by omega)
      go_wp2_with fail
      refine Rg.start (fun _ x => Fr No wr x) (by kernel_rfl) (by kernel_rfl) [6, 13] [[4, 5, 2, 3, 0, 1, 6], [4, 5, 2, 3, 0, 1, 6, 11, 12, 9, 10, 7, 8, 13]] (by kernel_rfl) (.q 0 0 (.q 1 0 (.q 2 0 (.q 3 0 (.q 4 0 (.q 5 0 (.q 7 1 (.q 8 1 (.q 9 1 (.q 10 1 (.q 11 1 (.q 12 1 (.e 6 1 (.e 13 2 (.q 14 2 (.q 15 2 (.done))))))))))))))))) (by kernel_rfl) ?_ ?_
      · exact fun _ => (Fr.refl _ _).drew
      repeat (first
        | (refine Rg.q (o := ?_) (v := ?_) ?_ ?_ ?_ ?_ ?_
           rotate_left 2
           · (simp only [List.getElem?_toArray, List.getElem?_cons_succ, List.getElem?_cons_zero]; rfl)
           · exact fun _ _ _ h => h
           · first | rfl | (go_simp; done)
           · (intro x_ hx; (try dsimp only at hx); first | (refine (ex_ld rfl rfl (LN0 _ hx)).trans ?_; with_reducible rfl) | (refine (ex_ld rfl rfl (LN1 _ hx)).trans ?_; with_reducible rfl) | (have q0 := hx.cell e0 id; have q1 := hx.cell e1 id; have q2 := hx.cell e2 id; have q3 := hx.cell e3 id; (try clear hx); go_simp; (try rw [if_neg (by omega)]); (try rw [if_pos (by omega)]); (try go_simp); try with_reducible rfl))
           try simp only [Act.put, List.setIfInBounds_toArray, List.set_cons_zero, List.set_cons_succ])
        | (refine Rg.skip (o := ?_) ?_ ?_ ?_ ?_
           rotate_left 1
           · (simp only [List.getElem?_toArray, List.getElem?_cons_succ, List.getElem?_cons_zero]; rfl)
           · exact fun _ _ _ h => h
           · first | rfl | (go_simp; done)
           try simp only [Act.put, List.setIfInBounds_toArray, List.set_cons_zero, List.set_cons_succ]))
      refine Rg.e (o := ?_) ?_ ?_
      rotate_left 1
      · (simp only [List.getElem?_toArray, List.getElem?_cons_succ, List.getElem?_cons_zero]; rfl)
      intro K hK
      go_simp
      refine (AC0 _).mono ?_
      rintro e w2 ⟨rfl, hf⟩
      have F2 : Aside0 (Fr No wr w2) := ⟨(Fr.refl _ _).drew.none hf⟩
      clear hf
      go_simp
      refine hK.out _ _ (fun _ x => Fr No wr x) (fun k x hk h => h) ?_ ?_
      · exact fun _ _ => F2.out
      try simp only [Act.put, List.setIfInBounds_toArray, List.set_cons_zero, List.set_cons_succ]
      repeat (first
        | (refine Rg.q (o := ?_) (v := ?_) ?_ ?_ ?_ ?_ ?_
           rotate_left 2
           · (simp only [List.getElem?_toArray, List.getElem?_cons_succ, List.getElem?_cons_zero]; rfl)
           · exact fun _ _ _ h => h
           · first | rfl | (go_simp; done)
           · (intro x_ hx; (try dsimp only at hx); first | (refine (ex_ld rfl rfl (LN0 _ hx)).trans ?_; with_reducible rfl) | (refine (ex_ld rfl rfl (LN1 _ hx)).trans ?_; with_reducible rfl) | (have q0 := hx.cell e0 id; have q1 := hx.cell e1 id; have q2 := hx.cell e2 id; have q3 := hx.cell e3 id; (try clear hx); go_simp; (try rw [if_neg (by omega)]); (try rw [if_pos (by omega)]); (try go_simp); try with_reducible rfl))
           try simp only [Act.put, List.setIfInBounds_toArray, List.set_cons_zero, List.set_cons_succ])
        | (refine Rg.skip (o := ?_) ?_ ?_ ?_ ?_
           rotate_left 1
           · (simp only [List.getElem?_toArray, List.getElem?_cons_succ, List.getElem?_cons_zero]; rfl)
           · exact fun _ _ _ h => h
           · first | rfl | (go_simp; done)
           try simp only [Act.put, List.setIfInBounds_toArray, List.set_cons_zero, List.set_cons_succ]))
      refine Rg.e (o := ?_) ?_ ?_
      rotate_left 1
      · (simp only [List.getElem?_toArray, List.getElem?_cons_succ, List.getElem?_cons_zero]; rfl)
      intro K hK
      go_simp
      refine (AC1 _).mono ?_
      rintro e w3 ⟨rfl, hf⟩
      have F3 : Aside0 (Fr No wr w3) := ⟨F2.out.none hf⟩
      clear hf
      go_simp
      refine hK.out _ _ (fun _ x => Fr No wr x) (fun k x hk h => h) ?_ ?_
      · exact fun _ _ => F3.out
      try simp only [Act.put, List.setIfInBounds_toArray, List.set_cons_zero, List.set_cons_succ]
      repeat (first
        | (refine Rg.q (o := ?_) (v := ?_) ?_ ?_ ?_ ?_ ?_
           rotate_left 2
           · (simp only [List.getElem?_toArray, List.getElem?_cons_succ, List.getElem?_cons_zero]; rfl)
           · exact fun _ _ _ h => h
           · first | rfl | (go_simp; done)
           · (intro x_ hx; (try dsimp only at hx); first | (refine (ex_ld rfl rfl (LN0 _ hx)).trans ?_; with_reducible rfl) | (refine (ex_ld rfl rfl (LN1 _ hx)).trans ?_; with_reducible rfl) | (have q0 := hx.cell e0 id; have q1 := hx.cell e1 id; have q2 := hx.cell e2 id; have q3 := hx.cell e3 id; (try clear hx); go_simp; (try rw [if_neg (by omega)]); (try rw [if_pos (by omega)]); (try go_simp); try with_reducible rfl))
           try simp only [Act.put, List.setIfInBounds_toArray, List.set_cons_zero, List.set_cons_succ])
        | (refine Rg.skip (o := ?_) ?_ ?_ ?_ ?_
           rotate_left 1
           · (simp only [List.getElem?_toArray, List.getElem?_cons_succ, List.getElem?_cons_zero]; rfl)
           · exact fun _ _ _ h => h
           · first | rfl | (go_simp; done)
           try simp only [Act.put, List.setIfInBounds_toArray, List.set_cons_zero, List.set_cons_succ]))
      refine Rg.done ?_
      go_simp
      go_wp2_with fail
      refine Rg.start (fun _ x => Fr No wr x) (by kernel_rfl) (by kernel_rfl) [7, 14] [[5, 6, 3, 4, 1, 2, 7], [5, 6, 3, 4, 1, 2, 7, 12, 13, 10, 11, 8, 9, 14]] (by kernel_rfl) (.q 0 2 (.q 1 0 (.q 2 0 (.q 3 0 (.q 4 0 (.q 5 0 (.q 6 0 (.q 8 1 (.q 9 1 (.q 10 1 (.q 11 1 (.q 12 1 (.q 13 1 (.e 7 1 (.e 14 2 (.q 15 2 (.q 16 2 (.q 17 2 (.done))))))))))))))))))) (by kernel_rfl) ?_ ?_
      · exact fun _ => F3.out.drew
      repeat (first
        | (refine Rg.q (o := ?_) (v := ?_) ?_ ?_ ?_ ?_ ?_
           rotate_left 2
           · (simp only [List.getElem?_toArray, List.getElem?_cons_succ, List.getElem?_cons_zero]; rfl)
           · exact fun _ _ _ h => h
           · first | rfl | (go_simp; done)
           · (intro x_ hx; (try dsimp only at hx); first | (refine (ex_ld rfl rfl (LN0 _ hx)).trans ?_; with_reducible rfl) | (refine (ex_ld rfl rfl (LN1 _ hx)).trans ?_; with_reducible rfl) | (have q0 := hx.cell e0 id; have q1 := hx.cell e1 id; have q2 := hx.cell e2 id; have q3 := hx.cell e3 id; (try clear hx); go_simp; (try rw [if_neg (by omega)]); (try rw [if_pos (by omega)]); (try go_simp); try with_reducible rfl))
           try simp only [Act.put, List.setIfInBounds_toArray, List.set_cons_zero, List.set_cons_succ])
        | (refine Rg.skip (o := ?_) ?_ ?_ ?_ ?_
           rotate_left 1
           · (simp only [List.getElem?_toArray, List.getElem?_cons_succ, List.getElem?_cons_zero]; rfl)
           · exact fun _ _ _ h => h
           · first | rfl | (go_simp; done)
           try simp only [Act.put, List.setIfInBounds_toArray, List.set_cons_zero, List.set_cons_succ]))
      refine Rg.e (o := ?_) ?_ ?_
      rotate_left 1
      · (simp only [List.getElem?_toArray, List.getElem?_cons_succ, List.getElem?_cons_zero]; rfl)
      intro K hK
      go_simp
      refine (RC0 _).mono ?_
      rintro e w4 ⟨rfl, hf⟩
      have F4 : Aside0 (Fr No wr w4) := ⟨F3.out.drew.none hf⟩
      clear hf
      go_simp
      refine hK.out _ _ (fun _ x => Fr No wr x) (fun k x hk h => h) ?_ ?_
      · exact fun _ _ => F4.out
      try simp only [Act.put, List.setIfInBounds_toArray, List.set_cons_zero, List.set_cons_succ]
      repeat (first
        | (refine Rg.q (o := ?_) (v := ?_) ?_ ?_ ?_ ?_ ?_
           rotate_left 2
           · (simp only [List.getElem?_toArray, List.getElem?_cons_succ, List.getElem?_cons_zero]; rfl)
           · exact fun _ _ _ h => h
           · first | rfl | (go_simp; done)
           · (intro x_ hx; (try dsimp only at hx); first | (refine (ex_ld rfl rfl (LN0 _ hx)).trans ?_; with_reducible rfl) | (refine (ex_ld rfl rfl (LN1 _ hx)).trans ?_; with_reducible rfl) | (have q0 := hx.cell e0 id; have q1 := hx.cell e1 id; have q2 := hx.cell e2 id; have q3 := hx.cell e3 id; (try clear hx); go_simp; (try rw [if_neg (by omega)]); (try rw [if_pos (by omega)]); (try go_simp); try with_reducible rfl))
           try simp only [Act.put, List.setIfInBounds_toArray, List.set_cons_zero, List.set_cons_succ])
        | (refine Rg.skip (o := ?_) ?_ ?_ ?_ ?_
           rotate_left 1
           · (simp only [List.getElem?_toArray, List.getElem?_cons_succ, List.getElem?_cons_zero]; rfl)
           · exact fun _ _ _ h => h
           · first | rfl | (go_simp; done)
           try simp only [Act.put, List.setIfInBounds_toArray, List.set_cons_zero, List.set_cons_succ]))
      refine Rg.e (o := ?_) ?_ ?_
      rotate_left 1
      · (simp only [List.getElem?_toArray, List.getElem?_cons_succ, List.getElem?_cons_zero]; rfl)
      intro K hK
      go_simp
      refine (RC1 _).mono ?_
      rintro e w5 ⟨rfl, hf⟩
      have F5 : Aside0 (Fr No wr w5) := ⟨F4.out.none hf⟩
      clear hf
      go_simp
      refine hK.out _ _ (fun _ x => Fr No wr x) (fun k x hk h => h) ?_ ?_
      · exact fun _ _ => F5.out
      try simp only [Act.put, List.setIfInBounds_toArray, List.set_cons_zero, List.set_cons_succ]
      repeat (first
        | (refine Rg.q (o := ?_) (v := ?_) ?_ ?_ ?_ ?_ ?_
           rotate_left 2
           · (simp only [List.getElem?_toArray, List.getElem?_cons_succ, List.getElem?_cons_zero]; rfl)
           · exact fun _ _ _ h => h
           · first | rfl | (go_simp; done)
           · (intro x_ hx; (try dsimp only at hx); first | (refine (ex_ld rfl rfl (LN0 _ hx)).trans ?_; with_reducible rfl) | (refine (ex_ld rfl rfl (LN1 _ hx)).trans ?_; with_reducible rfl) | (have q0 := hx.cell e0 id; have q1 := hx.cell e1 id; have q2 := hx.cell e2 id; have q3 := hx.cell e3 id; (try clear hx); go_simp; (try rw [if_neg (by omega)]); (try rw [if_pos (by omega)]); (try go_simp); try with_reducible rfl))
           try simp only [Act.put, List.setIfInBounds_toArray, List.set_cons_zero, List.set_cons_succ])
        | (refine Rg.skip (o := ?_) ?_ ?_ ?_ ?_
           rotate_left 1
           · (simp only [List.getElem?_toArray, List.getElem?_cons_succ, List.getElem?_cons_zero]; rfl)
           · exact fun _ _ _ h => h
           · first | rfl | (go_simp; done)
           try simp only [Act.put, List.setIfInBounds_toArray, List.set_cons_zero, List.set_cons_succ]))
      refine Rg.done ?_
      go_simp
      go_wp2
      go_ret
      exact ⟨by simp, F1.out.none F5.out⟩
end Go.Proofs.Ytdicjcpcohclaaa.LAuthParts
