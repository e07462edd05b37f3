/- The walk of the law AuthChecks. -/
import Derived.Test.YtdicjcpcohclaaaAuthL
import Derived.Test.YtdicjcpcohclaaaAuthR
import Derived.Test.YtdicjcpcohclaaaLiftM
import Derived.OpenShut
set_option linter.unusedVariables false
set_option linter.unusedSimpArgs false
namespace Go.Proofs.Ytdicjcpcohclaaa.LAuthChecks
open Go.ChangeShapes Go.RowKit Go.Proofs.YtdicjcpcohclaaaW.PrintWords Go.Proofs.Ytdicjcpcohclaaa.B Go.Proofs.Ytdicjcpcohclaaa.PB Go.Proofs.Ytdicjcpcohclaaa.Sha Go.Proofs.Ytdicjcpcohclaaa.Auth

theorem infoRU : (Try.prog.info? 81).map (fun i => (i.zero, i.size, i.bytes)) = some (some (.agg #[.string ByteArray.empty, .string ByteArray.empty]), 2, 32) := by kernel_rfl
theorem sec_bound (us : List US) (nm : List UInt8) (h : ∀ u ∈ us, u.sc.length ≤ 200) : ∀ s, sec us nm = some s → s.length ≤ 100000 := by
  intro s hs
  obtain ⟨u, hu, rfl⟩ := Option.map_eq_some_iff.1 hs
  have := h u (List.mem_of_find?_eq_some hu)
  omega
set_option maxHeartbeats 8000000 in
set_option maxRecDepth 100000 in
theorem walk (m : MD) (user n a : List UInt8) (w : World) (hm : m.ok w ∧ m.fits) (hu : user.length ≤ reach) (hna : n.length = 16 ∧ a.length = 32) : Calls Try.prog 16 #[m.v, .string (bstr user), Arr.av (n ++ a)] w fun e w' => e = .returned (.bool true) ∧ Fr No w w' := by
  obtain ⟨hm, hml, hus⟩ := hm
  obtain ⟨hn, ha⟩ := hna
  obtain ⟨A', c', he, hlc, hcm, hcell⟩ := id hm
  have e1 : m.A = A' := by injection he
  have e3 : m.c = c' := by injection he
  subst e1 e3
  have HM := Aside0.mk hm; have HC := Aside0.mk hcell; have HUS := Aside0.mk hus
  simp only [maxLen] at hcm hml
  clear hm hcell he hus
  have CC1 := fun W h1 h2 h3 => check_calls m user n a W h1 hn ha h2 h3
  have RC1 := fun uv W h1 h2 h3 => ref_check_calls uv m.us m.nm user n a W h1 hn ha h2 h3
  unfold Arr.av MD.v MD.cells MD.uv at CC1
  unfold Arr.av at RC1
  unfold Arr.av MD.v MD.cells MD.uv
  have sna : ((n ++ a).map vu8).toArray.size = 48 := by simp [hn, ha]
  have hd0 : ((n ++ a).map vu8).toArray.toList.drop 0 = n.map vu8 ++ a.map vu8 := by rw [List.map_append]; simp
  have hd1 : ((n ++ a).map vu8).toArray.toList.drop 16 = a.map vu8 := by rw [List.map_append]; simp [hn]
  obtain ⟨vt, hvt⟩ : ∃ vt, ((n ++ a).map vu8).toArray = vt := ⟨_, rfl⟩
  rw [hvt] at sna hd0 hd1 ⊢
  obtain ⟨v0, hv0⟩ : ∃ v0, n.map vu8 = v0 := ⟨_, rfl⟩
  obtain ⟨v1, hv1⟩ : ∃ v1, a.map vu8 = v1 := ⟨_, rfl⟩
  have l0 : v0.length = 16 := by rw [← hv0]; simp [hn]
  have l1 : v1.length = 32 := by rw [← hv1]; simp [ha]
  rw [hv0, hv1] at hd0
  rw [hv1] at hd1
  simp only [hv0, hv1] at CC1 RC1
  have CC := Aside0.mk (And.intro CC1 RC1)
  clear hvt hv0 hv1 CC1 RC1
  by_cases q1 : m.us.length ≤ 20
  case neg =>
    have q1I : (20 : Int) < (m.us.length : Int) := by omega
    go_enter Try.func16, Try.ntmps16
    go_wp2_with fail
    refine (lets_calls _).mono ?_
    rintro e w1 ⟨rfl, hf⟩
    have F1 : Aside0 (Fr No w w1) := ⟨(((Fr.refl _ _).alloc _).alloc _).none hf⟩
    have c5 : w1.cell? ⟨w.heap.size, 5, none⟩ = some (.slice m.A m.us.length m.c) := hf.cell (v := .slice m.A m.us.length m.c) (by rw [blk_cell (blk_alloc (heap_alloc_new w _) _)]; rfl) id
    clear hf
    go_wp2
    go_ret
    exact ⟨rfl, F1.out⟩
  have q1I : ¬ (20 : Int) < (m.us.length : Int) := by omega
  by_cases q2 : m.nm.length ≤ 100
  case neg =>
    have q2I : (100 : Int) < (m.nm.length : Int) := by omega
    go_enter Try.func16, Try.ntmps16
    go_wp2_with fail
    refine (lets_calls _).mono ?_
    rintro e w1 ⟨rfl, hf⟩
    have F1 : Aside0 (Fr No w w1) := ⟨(((Fr.refl _ _).alloc _).alloc _).none hf⟩
    have c5 : w1.cell? ⟨w.heap.size, 5, none⟩ = some (.slice m.A m.us.length m.c) := hf.cell (v := .slice m.A m.us.length m.c) (by rw [blk_cell (blk_alloc (heap_alloc_new w _) _)]; rfl) id
    have c0 : w1.cell? ⟨w.heap.size, 0, none⟩ = some (.string (bstr m.nm)) := hf.cell (v := .string (bstr m.nm)) (by rw [blk_cell (blk_alloc (heap_alloc_new w _) _)]; rfl) id
    clear hf
    go_wp2
    go_ret
    exact ⟨rfl, F1.out⟩
  have q2I : ¬ (100 : Int) < (m.nm.length : Int) := by omega
  go_enter Try.func16, Try.ntmps16
  go_wp2_with fail
  refine (lets_calls _).mono ?_
  rintro e w1 ⟨rfl, hf⟩
  have F1 : Aside0 (Fr No w w1) := ⟨(((Fr.refl _ _).alloc _).alloc _).none hf⟩
  have B0 : Aside0 (w1.heap[w.heap.size]? = some (.cells #[.string (bstr m.nm), .string (bstr m.root), .bool m.wr, .int .i64 m.sl, .int .i64 m.qu, .slice m.A m.us.length m.c] 75 (0, 0))) := ⟨hf.heap (blk_alloc (heap_alloc_new w _) _) id⟩
  have T0 : Aside0 (w1.heap[w.heap.size + 1]? = some (.cells vt 77 (0, 0))) := ⟨hf.heap (heap_alloc2_new w _ _) id⟩
  have c5 : w1.cell? ⟨w.heap.size, 5, none⟩ = some (.slice m.A m.us.length m.c) := by rw [blk_cell B0.out]; rfl
  have c0 : w1.cell? ⟨w.heap.size, 0, none⟩ = some (.string (bstr m.nm)) := by rw [blk_cell B0.out]; rfl
  clear hf
  go_wp2
  go_loopw [7, 25] (fun v7 v25 wr => ∃ j : Nat, v25 = .int .i64 j ∧ j ≤ m.us.length ∧ Aside0 (∀ u ∈ m.us.take j, u.sc.length ≤ 200) ∧ Aside0 (Ow fU 81 wr v7 (m.us.take j)) ∧ Aside0 (∀ k, k < w1.heap.size → ¬ blk v7 k) ∧ Aside0 (Fr No w1 wr)) (fun _ v25 _ => m.us.length - (intOf v25).toNat)
  case atStart => exact ⟨0, rfl, by omega, ⟨fun u hu => by simp at hu⟩, ⟨Ow.nil _ _ _⟩, ⟨fun k _ h => by simp [blk, Value.ownBlock] at h⟩, ⟨Fr.refl _ _⟩⟩
  case round =>
    obtain ⟨j, rfl, hj, HS, HO, HN, HF⟩ := hrel
    clear c0 c5
    by_cases hjl : j < m.us.length
    · have hjI : (j : Int) < (m.us.length : Int) := by omega
      obtain ⟨ad, hA, hc⟩ := HC.out (by omega)
      obtain ⟨u, hu⟩ : ∃ u, m.us[j]? = some u := ⟨_, List.getElem?_eq_getElem hjl⟩
      have hcj : ∀ i x, (fU.enc u)[i]? = some x → wr.cell? ((ad.add (j * 2)).add i) = some x := fun i x hx => by
        rw [add_add]
        refine HF.out.cell (F1.out.cell (hc _ _ ?_) id) id
        have hi : i < 2 := (List.getElem?_eq_some_iff.1 hx).1
        have := fU.cells_get m.us j u hu i hi
        rw [show j * fU.sz + i = j * 2 + i from rfl] at this
        rw [this, hx]
      have k0 : wr.cell? (ad.add (j * 2)) = some (.string (bstr u.nm)) := hcj 0 _ rfl
      have k1 : wr.cell? { block := (ad.add (j * 2)).block, off := (ad.add (j * 2)).off + 1 } = some (.string (bstr u.sc)) := hcj 1 _ rfl
      have hsl := (HUS.out u (List.mem_of_getElem? hu)).2
      simp only [maxLen] at hsl
      have ht : m.us.take (j + 1) = m.us.take j ++ [u] := by rw [List.take_add_one, hu]; rfl
      have HT := Aside0.mk ht
      have htl : (m.us.take j).length ≤ 20 := by simp; omega
      clear hcj hc hu ht
      by_cases hs2 : u.sc.length ≤ 200
      · have hsI : ¬ (200 : Int) < (u.sc.length : Int) := by omega
        go_wp2_with (at_builtin; go_loud (refine ap1 (f := fU) rfl (.tmp 33) (.tmp 39) 78 81 _ 32 rfl Try.underlying78 infoRU rfl (by decide) (by decide) _ (m.us.take j) u [.string (bstr u.nm), .string (bstr u.sc)] rfl rfl (by go_simp) ?c1 (by omega) ?_; (case c1 => exact HO.out.no ((Fr.refl _ _).alloc _)); intro v1 w2 h1 h2 h3 h4))
        have hfa : Fr No w1 w2 := by
          refine (HF.out.alloc _).trans h2 (fun k hk hb => HN.out k hk hb)
        have HN2 : Aside0 (∀ k, k < w1.heap.size → ¬ blk v1 k) := ⟨fun k hk hb => HN.out k hk (h3.back hb (Nat.lt_of_lt_of_le hk (HF.out.alloc _).size))⟩
        have HO2 : Aside0 (Ow fU 81 w2 v1 (m.us.take (j + 1))) := ⟨by rw [HT.out]; exact h1⟩
        have HF2 := Aside0.mk hfa
        clear h1 h2 h3 h4 hfa
        go_roundw
        case rel =>
          refine ⟨u6, v1, _, .int .i64 ((j + 1 : Nat) : Int), ⟨j + 1, rfl, by omega, ⟨fun v hv => ?_⟩, HO2, HN2, HF2⟩, rfl, rfl, rfl, by go_num⟩
          rw [HT.out] at hv
          rcases List.mem_append.1 hv with hv | hv
          · exact HS.out v hv
          · simp at hv
            subst hv
            exact hs2
        case measure => simp [intOf]; omega
      · have hsI : (200 : Int) < (u.sc.length : Int) := by omega
        go_wp2
        go_ret
        exact ⟨rfl, F1.out.none (HF.out.alloc _)⟩
    · have hjI : ¬ (j : Int) < (m.us.length : Int) := by omega
      have hall := HS.out
      rw [List.take_of_length_le (by omega)] at hall HO
      have hsb := Aside0.mk (sec_bound m.us user hall)
      have LM := ld_all (P := Try.prog) (ty := 75) B0.out Try.underlying75 rfl (by kernel_rfl)
      have c0 : Cv w1 ⟨w.heap.size + 1, 0, Option.none⟩ v0 := by
        have h := Cv.of_block T0.out 0
        rw [hd0] at h
        exact h.take
      have c1 : Cv w1 ⟨w.heap.size + 1, 16, Option.none⟩ v1 := by
        have h := Cv.of_block T0.out 16
        rw [hd1] at h
        exact h
      have LM2 : ∀ x, Fr No wr x → _ := fun x hx => LM x (HF.out.none hx)
      have LN2 : ∀ x, Fr No wr x → (loadVar 69 ⟨w.heap.size + 1, 0, Option.none⟩).run Try.prog x = .ok (.agg v0.toArray) x := fun x hx => run_loadVar_cells (c0.no (HF.out.none hx)) Try.underlying69 rfl (by rw [l0]; kernel_rfl)
      have LA2 : ∀ x, Fr No wr x → (loadVar 34 ⟨w.heap.size + 1, 16, Option.none⟩).run Try.prog x = .ok (.agg v1.toArray) x := fun x hx => run_loadVar_cells (c1.no (HF.out.none hx)) Try.underlying34 rfl (by rw [l1]; kernel_rfl)
      have C0 : wr.cell? ⟨w.heap.size, 0, Option.none⟩ = some (.string (bstr m.nm)) := HF.out.cell (v := .string (bstr m.nm)) (by rw [blk_cell B0.out]; rfl) id
      obtain ⟨R, hR⟩ : ∃ R, checkP m.us m.nm user n a = R := ⟨_, rfl⟩
      rw [hR] at CC
      clear LM c0 c1 hR
      go_wp2_with fail
      refine Rg.start (fun _ x => Fr No wr x) (by kernel_rfl) (by kernel_rfl) [6, 15] [[4, 5, 2, 3, 1, 0, 6], [4, 5, 2, 3, 1, 0, 6, 13, 14, 11, 12, 10, 8, 9, 7, 15]] (by kernel_rfl) (.q 0 0 (.q 1 0 (.q 2 0 (.q 3 0 (.q 4 0 (.q 5 0 (.q 7 1 (.q 8 1 (.q 9 1 (.q 10 1 (.q 11 1 (.q 12 1 (.q 13 1 (.q 14 1 (.e 6 1 (.e 15 2 (.q 16 2 (.q 17 2 (.done))))))))))))))))))) (by kernel_rfl) ?_ ?_
      · exact fun _ => (Fr.refl _ _).drew
      repeat (first
        | (refine Rg.q (o := ?_) (v := ?_) ?_ ?_ ?_ ?_ ?_
           rotate_left 2
           · (simp only [List.getElem?_toArray, List.getElem?_cons_succ, List.getElem?_cons_zero]; rfl)
           · exact fun _ _ _ h => h
           · first | rfl | (go_simp; done)
           · (intro x_ hx; (try dsimp only at hx); first | (refine (ex_ld rfl rfl (LM2 _ hx)).trans ?_; with_reducible rfl) | (refine (ex_ld rfl rfl (LN2 _ hx)).trans ?_; with_reducible rfl) | (refine (ex_ld rfl rfl (LA2 _ hx)).trans ?_; with_reducible rfl) | (refine (ex_ld rfl rfl (LA2 _ hx)).trans ?_; with_reducible rfl) | (have q0 := hx.cell C0 id; (try clear hx); go_simp; (try rw [if_neg (by omega)]); (try rw [if_pos (by omega)]); (try go_simp); try with_reducible rfl))
           try simp only [Act.put, List.setIfInBounds_toArray, List.set_cons_zero, List.set_cons_succ])
        | (refine Rg.skip (o := ?_) ?_ ?_ ?_ ?_
           rotate_left 1
           · (simp only [List.getElem?_toArray, List.getElem?_cons_succ, List.getElem?_cons_zero]; rfl)
           · exact fun _ _ _ h => h
           · first | rfl | (go_simp; done)
           try simp only [Act.put, List.setIfInBounds_toArray, List.set_cons_zero, List.set_cons_succ]))
      refine Rg.e (o := ?_) ?_ ?_
      rotate_left 1
      · (simp only [List.getElem?_toArray, List.getElem?_cons_succ, List.getElem?_cons_zero]; rfl)
      intro K hK
      go_simp
      refine (CC.out.1 _ (HM.out.no (F1.out.none (HF.out.none (Fr.refl _ _).drew))) (by omega) hsb.out).mono ?_
      rintro e w3 ⟨rfl, hf⟩
      have F3 : Aside0 (Fr No wr w3) := ⟨((Fr.refl _ _).drew).none hf⟩
      clear hf
      go_simp
      refine hK.out _ _ (fun _ x => Fr No wr x) (fun k x hk h => h) ?_ ?_
      · exact fun _ _ => F3.out
      try simp only [Act.put, List.setIfInBounds_toArray, List.set_cons_zero, List.set_cons_succ]
      repeat (first
        | (refine Rg.q (o := ?_) (v := ?_) ?_ ?_ ?_ ?_ ?_
           rotate_left 2
           · (simp only [List.getElem?_toArray, List.getElem?_cons_succ, List.getElem?_cons_zero]; rfl)
           · exact fun _ _ _ h => h
           · first | rfl | (go_simp; done)
           · (intro x_ hx; (try dsimp only at hx); first | (refine (ex_ld rfl rfl (LM2 _ hx)).trans ?_; with_reducible rfl) | (refine (ex_ld rfl rfl (LN2 _ hx)).trans ?_; with_reducible rfl) | (refine (ex_ld rfl rfl (LA2 _ hx)).trans ?_; with_reducible rfl) | (refine (ex_ld rfl rfl (LA2 _ hx)).trans ?_; with_reducible rfl) | (have q0 := hx.cell C0 id; (try clear hx); go_simp; (try rw [if_neg (by omega)]); (try rw [if_pos (by omega)]); (try go_simp); try with_reducible rfl))
           try simp only [Act.put, List.setIfInBounds_toArray, List.set_cons_zero, List.set_cons_succ])
        | (refine Rg.skip (o := ?_) ?_ ?_ ?_ ?_
           rotate_left 1
           · (simp only [List.getElem?_toArray, List.getElem?_cons_succ, List.getElem?_cons_zero]; rfl)
           · exact fun _ _ _ h => h
           · first | rfl | (go_simp; done)
           try simp only [Act.put, List.setIfInBounds_toArray, List.set_cons_zero, List.set_cons_succ]))
      refine Rg.e (o := ?_) ?_ ?_
      rotate_left 1
      · (simp only [List.getElem?_toArray, List.getElem?_cons_succ, List.getElem?_cons_zero]; rfl)
      intro K hK
      go_simp
      refine (CC.out.2 _ _ (HO.out.rd.no F3.out) (by omega) hsb.out).mono ?_
      rintro e w4 ⟨rfl, hf⟩
      have F4 : Aside0 (Fr No wr w4) := ⟨F3.out.none hf⟩
      clear hf
      go_simp
      refine hK.out _ _ (fun _ x => Fr No wr x) (fun k x hk h => h) ?_ ?_
      · exact fun _ _ => F4.out
      try simp only [Act.put, List.setIfInBounds_toArray, List.set_cons_zero, List.set_cons_succ]
      repeat (first
        | (refine Rg.q (o := ?_) (v := ?_) ?_ ?_ ?_ ?_ ?_
           rotate_left 2
           · (simp only [List.getElem?_toArray, List.getElem?_cons_succ, List.getElem?_cons_zero]; rfl)
           · exact fun _ _ _ h => h
           · first | rfl | (go_simp; done)
           · (intro x_ hx; (try dsimp only at hx); first | (refine (ex_ld rfl rfl (LM2 _ hx)).trans ?_; with_reducible rfl) | (refine (ex_ld rfl rfl (LN2 _ hx)).trans ?_; with_reducible rfl) | (refine (ex_ld rfl rfl (LA2 _ hx)).trans ?_; with_reducible rfl) | (refine (ex_ld rfl rfl (LA2 _ hx)).trans ?_; with_reducible rfl) | (have q0 := hx.cell C0 id; (try clear hx); go_simp; (try rw [if_neg (by omega)]); (try rw [if_pos (by omega)]); (try go_simp); try with_reducible rfl))
           try simp only [Act.put, List.setIfInBounds_toArray, List.set_cons_zero, List.set_cons_succ])
        | (refine Rg.skip (o := ?_) ?_ ?_ ?_ ?_
           rotate_left 1
           · (simp only [List.getElem?_toArray, List.getElem?_cons_succ, List.getElem?_cons_zero]; rfl)
           · exact fun _ _ _ h => h
           · first | rfl | (go_simp; done)
           try simp only [Act.put, List.setIfInBounds_toArray, List.set_cons_zero, List.set_cons_succ]))
      refine Rg.done ?_
      go_simp
      go_wp2
      go_ret
      exact ⟨rfl, F1.out.none (HF.out.none F4.out)⟩
end Go.Proofs.Ytdicjcpcohclaaa.LAuthChecks
