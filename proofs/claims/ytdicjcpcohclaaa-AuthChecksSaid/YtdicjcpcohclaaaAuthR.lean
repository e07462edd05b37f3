/- The document's answer to a nonce, and its check. -/
import Derived.Test.YtdicjcpcohclaaaAuth
import Derived.Test.YtdicjcpcohclaaaShaH
set_option linter.unusedVariables false
set_option linter.unusedSimpArgs false
namespace Go.Proofs.Ytdicjcpcohclaaa.Auth
open Go.RowKit Go.Proofs.YtdicjcpcohclaaaW.PrintWords Go.Proofs.Ytdicjcpcohclaaa.B Go.Proofs.Ytdicjcpcohclaaa.PB Go.Proofs.Ytdicjcpcohclaaa.Sha

theorem boxu8 (x : UInt8) (W : World) : (convert 23 9 (.slice (some ⟨W.heap.size, 0, none⟩) 1 1)).run Try.prog (W.alloc (.cells #[vu8 x] 5)) = .ok (.string (bstr [x])) (W.alloc (.cells #[vu8 x] 5)) := by
  have := str_box W (x.toNat : Int)
  rw [b8_nat] at this
  simpa using this
theorem take_snoc1 (xs : List UInt8) (i : Nat) (hi : i < xs.length) : xs.take (i + 1) = xs.take i ++ [xs.getD i 0] := by
  rw [List.take_succ_eq_append_getElem hi]
  simp [List.getD, hi]
set_option maxHeartbeats 4000000 in
set_option maxRecDepth 100000 in
theorem ref_answer_calls (s mn n : List UInt8) (w : World) (hs : s.length ≤ 100000) (hm : mn.length ≤ 100000) (hn : n.length = 16) : Calls Try.prog 43 #[.string (bstr s), .string (bstr mn), Arr.av n] w fun e w' => e = .returned (Arr.av (mac s (n ++ mn))) ∧ Fr No w w' := by
  have HN := Aside0.mk hn
  clear hn
  unfold Arr.av
  go_enter Try.func43, Try.ntmps43
  go_wp2
  have B0 : Aside0 (Bd ((w.alloc (.cells (n.map vu8).toArray 68)).alloc (.cells ((List.replicate 32 (0 : UInt8)).map vu8).toArray 34)) w.heap.size 68 n) := ⟨(bd_new w _ _ rfl n).alloc _⟩
  have Z0 : Aside0 (Bd ((w.alloc (.cells (n.map vu8).toArray 68)).alloc (.cells ((List.replicate 32 (0 : UInt8)).map vu8).toArray 34)) (w.heap.size + 1) 34 (List.replicate 32 0)) := ⟨bd_new (w.alloc _) _ _ (by simp) _⟩
  have F0 : Aside0 (Fr No w ((w.alloc (.cells (n.map vu8).toArray 68)).alloc (.cells ((List.replicate 32 (0 : UInt8)).map vu8).toArray 34))) := ⟨((Fr.refl _ _).alloc _).alloc _⟩
  change Code.wp _ _ _ _ ((w.alloc (.cells (n.map vu8).toArray 68)).alloc (.cells ((List.replicate 32 (0 : UInt8)).map vu8).toArray 34))
  generalize (w.alloc (.cells (n.map vu8).toArray 68)).alloc (.cells ((List.replicate 32 (0 : UInt8)).map vu8).toArray 34) = w0 at B0 Z0 F0 ⊢
  go_loopw [7, 8] (fun v7 v8 wr => ∃ i : Nat, v8 = .int .i64 i ∧ i ≤ 16 ∧ v7 = .string (bstr (n.take i)) ∧ Aside0 (Bd wr w.heap.size 68 n) ∧ Aside0 (Bd wr (w.heap.size + 1) 34 (List.replicate 32 0)) ∧ Aside0 (Fr No w wr)) (fun _ v8 _ => 16 - (intOf v8).toNat)
  case atStart => exact ⟨0, rfl, by omega, rfl, B0, Z0, F0⟩
  case round =>
    clear B0 Z0 F0
    obtain ⟨i, rfl, hi, rfl, HB, HZ, HF⟩ := hrel
    by_cases hi16 : i < 16
    · have hI : (i : Int) < 16 := by omega
      obtain ⟨x, hx⟩ : ∃ x, n.getD i 0 = x := ⟨_, rfl⟩
      have hc := HB.out.cell i (by rw [HN.out]; exact hi16)
      have hts := take_snoc1 n i (by rw [HN.out]; exact hi16)
      rw [hx] at hc hts
      have hbx := boxu8 x
      have HTS := Aside0.mk hts
      clear hts hx
      go_wp2
      rw [← HTS.out]
      go_roundw
      case rel => exact ⟨i + 1, by go_num, by omega, rfl, ⟨HB.out.alloc _⟩, ⟨HZ.out.alloc _⟩, ⟨HF.out.alloc _⟩⟩
      case measure => simp [intOf]; omega
    · have hI : ¬ (i : Int) < 16 := by omega
      obtain rfl : i = 16 := by omega
      rw [List.take_of_length_le (by rw [HN.out]; exact Nat.le_refl _)]
      have hcat : n.length + mn.length ≤ 9223372036854775807 := by rw [HN.out]; omega
      go_wp2_with fail
      refine (ref_mac_calls s (n ++ mn) _ hs (by rw [List.length_append, HN.out]; omega)).mono ?_
      rintro e w3 ⟨rfl, hf3⟩
      have Z3 := Aside0.mk (HZ.out.no hf3)
      have F3 := Aside0.mk (HF.out.none hf3)
      have hml : ((mac s (n ++ mn)).map vu8).toArray.size = 32 := by simp [mac_length]
      have HML := Aside0.mk hml
      clear hf3 hml
      go_wp2_with (refine PB.stRow (.tmp 6) (.tmp 24) 34 (w.heap.size + 1) 34 _ ((mac s (n ++ mn)).map vu8).toArray rfl rfl rfl rfl Z3.out (by rw [HML.out]; kernel_rfl) (by rw [HML.out]; rfl) (by rw [Array.all_eq_true]; intro i hi; simp [Value.oneCell']) ?_)
      refine bodyPost_ret (results_cell_row (P := Try.prog) (fn := Try.f43) (p := 6) (ty := 34) rfl _ _ (w.heap.size + 1) 34 ((mac s (n ++ mn)).map vu8).toArray (0, 0) _ rfl (setRow_heap _ _ _ _ _ _ Z3.out) Try.underlying34 rfl (by rw [HML.out]; kernel_rfl)) rfl ⟨rfl, fr_setRow F3.out (.inr (by omega)) _⟩
set_option maxHeartbeats 4000000 in
set_option maxRecDepth 100000 in
theorem ref_check_calls (uv : Value) (us : List US) (mn user n a : List UInt8) (w : World) (hu : Rd fU w uv us) (hn : n.length = 16) (ha : a.length = 32) (hmn : mn.length ≤ 100000) (hs : ∀ s, sec us user = some s → s.length ≤ 100000) :
    Calls Try.prog 45 #[uv, .string (bstr mn), .string (bstr user), Arr.av n, Arr.av a] w fun e w' => e = .returned (.int .i64 (checkP us mn user n a)) ∧ Fr No w w' := by
  obtain ⟨A, c, rfl, hlc, hcm, hcell⟩ := id hu
  have HN := Aside0.mk hn; have HA := Aside0.mk ha; have HC := Aside0.mk hcell
  have AC := fun s hs W => ref_answer_calls s mn n W hs hmn hn
  simp only [maxLen] at hcm
  clear hn ha hcell hu
  obtain ⟨R, hR⟩ : ∃ R, checkP us mn user n a = R := ⟨_, rfl⟩
  rw [hR]
  have HR := Aside0.mk hR
  clear hR
  unfold Arr.av at AC ⊢
  obtain ⟨vn, hvn⟩ : ∃ vn, (n.map vu8).toArray = vn := ⟨_, rfl⟩
  obtain ⟨va, hva⟩ : ∃ va, (a.map vu8).toArray = va := ⟨_, rfl⟩
  have HVN := Aside0.mk hvn; have HVA := Aside0.mk hva
  rw [hva]
  simp only [hvn] at AC ⊢
  have sn : Aside0 (vn.size = 16) := ⟨by rw [← HVN.out]; simp [HN.out]⟩
  have sa : Aside0 (va.size = 32) := ⟨by rw [← HVA.out]; simp [HA.out]⟩
  clear hvn hva
  go_enter Try.func45, Try.ntmps45
  go_wp2
  go_loopw [11] (fun v11 wr => ∃ j : Nat, v11 = .int .i64 j ∧ j ≤ us.length ∧ Aside0 (sec us user = sec (us.drop j) user) ∧ wr = ((w.alloc (.cells vn 68)).alloc (.cells va 34))) (fun v11 _ => us.length - (intOf v11).toNat)
  case atStart => exact ⟨0, rfl, by omega, ⟨rfl⟩, rfl⟩
  case round =>
    obtain ⟨j, rfl, hj, HS, rfl⟩ := hrel
    have F0 : Aside0 (Fr No w ((w.alloc (.cells vn 68)).alloc (.cells va 34))) := ⟨((Fr.refl _ _).alloc _).alloc _⟩
    have N0 : Aside0 (((w.alloc (.cells vn 68)).alloc (.cells va 34)).heap[w.heap.size]? = some (.cells vn 68 (0, 0))) := ⟨blk_alloc (heap_alloc_new w _) _⟩
    have A0 : Aside0 (((w.alloc (.cells vn 68)).alloc (.cells va 34)).heap[w.heap.size + 1]? = some (.cells va 34 (0, 0))) := ⟨heap_alloc2_new w _ _⟩
    by_cases hjl : j < us.length
    · have hjI : (j : Int) < (us.length : Int) := by omega
      obtain ⟨ad, hAd, hc⟩ := HC.out (by omega)
      obtain ⟨u, hu⟩ : ∃ u, us[j]? = some u := ⟨_, List.getElem?_eq_getElem hjl⟩
      have hcj : ∀ i x, (fU.enc u)[i]? = some x → ((w.alloc (.cells vn 68)).alloc (.cells va 34)).cell? ((ad.add (j * 2)).add i) = some x := fun i x hx => by
        rw [add_add]
        refine F0.out.cell (hc _ _ ?_) id
        have hi : i < 2 := (List.getElem?_eq_some_iff.1 hx).1
        have := fU.cells_get us j u hu i hi
        rw [show j * fU.sz + i = j * 2 + i from rfl] at this
        rw [this, hx]
      have k0 : ((w.alloc (.cells vn 68)).alloc (.cells va 34)).cell? (ad.add (j * 2)) = some (.string (bstr u.nm)) := hcj 0 _ rfl
      have k1 : ((w.alloc (.cells vn 68)).alloc (.cells va 34)).cell? { block := (ad.add (j * 2)).block, off := (ad.add (j * 2)).off + 1 } = some (.string (bstr u.sc)) := hcj 1 _ rfl
      have hsd := Aside0.mk (sec_drop us user j u hu)
      clear hcj hc
      generalize (w.alloc (.cells vn 68)).alloc (.cells va 34) = w0 at k0 k1 F0 N0 A0 ⊢
      by_cases hq : (u.nm == user) = true
      · have hs0 := hsd.out
        rw [if_pos hq, ← HS.out] at hs0
        have HS0 := Aside0.mk hs0
        have hsl := hs _ hs0
        clear hs0
        have LN : ∀ x, Fr No w0 x → (loadVar 68 ⟨w.heap.size, 0, none⟩).run Try.prog x = .ok (.agg vn) x := fun x hx => run_loadVar_row (P := Try.prog) x _ 68 68 vn (0, 0) _ (hx.heap N0.out id) Try.underlying68 rfl (by rw [sn.out]; kernel_rfl)
        have LA : ∀ x, Fr No w0 x → (loadVar 34 ⟨w.heap.size + 1, 0, none⟩).run Try.prog x = .ok (.agg va) x := fun x hx => run_loadVar_row (P := Try.prog) x _ 34 34 va (0, 0) _ (hx.heap A0.out id) Try.underlying34 rfl (by rw [sa.out]; kernel_rfl)
        have qe := fun W => Arr.run_eql Try.underlying34 W (mac u.sc (n ++ mn)) a (mac_length _ _) HA.out
        unfold Arr.av at qe
        rw [HVA.out] at qe
        have qg := fun x y W => run_eqGuard_agg (P := Try.prog) W .eql 34 x y ((mac u.sc (n ++ mn)).map vu8).toArray va (by kernel_rfl)
        go_wp2_with fail
        refine Rg.start (fun _ x => Fr No w0 x) (by kernel_rfl) (by kernel_rfl) [7] [[6, 5, 1, 0, 2, 3, 4, 7]] (by kernel_rfl) (.q 0 0 (.q 1 0 (.q 2 0 (.q 3 0 (.q 4 0 (.q 5 0 (.q 6 0 (.q 8 1 (.e 7 1 (.q 9 1 (.done))))))))))) (by kernel_rfl) ?_ ?_
        · exact fun _ => (Fr.refl _ _).drew
        repeat (first
          | (refine Rg.q (o := ?_) (v := ?_) ?_ ?_ ?_ ?_ ?_
             rotate_left 2
             · (simp only [List.getElem?_toArray, List.getElem?_cons_succ, List.getElem?_cons_zero]; rfl)
             · exact fun _ _ _ h => h
             · first | rfl | (go_simp; done)
             · (intro x_ hx; (try dsimp only at hx); first | (refine (ex_ld rfl rfl (LN _ hx)).trans ?_; with_reducible rfl) | (refine (ex_ld rfl rfl (LA _ hx)).trans ?_; with_reducible rfl) | (have k1' := hx.cell k1 id; (try clear hx); go_simp; (try rw [if_neg (by omega)]); (try rw [if_pos (by omega)]); (try go_simp); try with_reducible rfl))
             try simp only [Act.put, List.setIfInBounds_toArray, List.set_cons_zero, List.set_cons_succ])
          | (refine Rg.skip (o := ?_) ?_ ?_ ?_ ?_
             rotate_left 1
             · (simp only [List.getElem?_toArray, List.getElem?_cons_succ, List.getElem?_cons_zero]; rfl)
             · exact fun _ _ _ h => h
             · first | rfl | (go_simp; done)
             try simp only [Act.put, List.setIfInBounds_toArray, List.set_cons_zero, List.set_cons_succ]))
        refine Rg.e (o := ?_) ?_ ?_
        rotate_left 1
        · (simp only [List.getElem?_toArray, List.getElem?_cons_succ, List.getElem?_cons_zero]; rfl)
        intro K hK
        go_simp
        refine (AC u.sc hsl _).mono ?_
        rintro e w3 ⟨rfl, hf3⟩
        have F3 : Aside0 (Fr No w0 w3) := ⟨((Fr.refl _ _).drew).none hf3⟩
        clear hf3
        go_simp
        refine hK.out _ _ (fun _ x => Fr No w0 x) (fun k x hk h => h) ?_ ?_
        · exact fun _ _ => F3.out
        try simp only [Act.put, List.setIfInBounds_toArray, List.set_cons_zero, List.set_cons_succ]
        repeat (first
          | (refine Rg.q (o := ?_) (v := ?_) ?_ ?_ ?_ ?_ ?_
             rotate_left 2
             · (simp only [List.getElem?_toArray, List.getElem?_cons_succ, List.getElem?_cons_zero]; rfl)
             · exact fun _ _ _ h => h
             · first | rfl | (go_simp; done)
             · (intro x_ hx; (try dsimp only at hx); first | (refine (ex_ld rfl rfl (LN _ hx)).trans ?_; with_reducible rfl) | (refine (ex_ld rfl rfl (LA _ hx)).trans ?_; with_reducible rfl) | (skip; (try clear hx); go_simp; (try rw [if_neg (by omega)]); (try rw [if_pos (by omega)]); (try go_simp); try with_reducible rfl))
             try simp only [Act.put, List.setIfInBounds_toArray, List.set_cons_zero, List.set_cons_succ])
          | (refine Rg.skip (o := ?_) ?_ ?_ ?_ ?_
             rotate_left 1
             · (simp only [List.getElem?_toArray, List.getElem?_cons_succ, List.getElem?_cons_zero]; rfl)
             · exact fun _ _ _ h => h
             · first | rfl | (go_simp; done)
             try simp only [Act.put, List.setIfInBounds_toArray, List.set_cons_zero, List.set_cons_succ]))
        refine Rg.done ?_
        by_cases heq : mac u.sc (n ++ mn) = a
        · have e1 : Aside0 (R = 0) := ⟨by rw [← HR.out, checkP, HS0.out]; dsimp only; rw [if_pos heq]⟩
          have hde : decide (mac u.sc (n ++ mn) = a) = true := by simpa using heq
          go_simp
          go_wp2
          go_ret
          exact ⟨by rw [e1.out]; rfl, F0.out.none F3.out⟩
        · have e1 : Aside0 (R = 140) := ⟨by rw [← HR.out, checkP, HS0.out]; dsimp only; rw [if_neg heq]⟩
          have hde : decide (mac u.sc (n ++ mn) = a) = false := by simpa using heq
          go_simp
          go_wp2
          go_ret
          exact ⟨by rw [e1.out]; rfl, F0.out.none F3.out⟩
      · have hq2 : (u.nm == user) = false := by simpa using hq
        go_wp2
        go_roundw
        case rel =>
          have hs := hsd.out
          rw [if_neg hq, ← HS.out] at hs
          exact ⟨j + 1, by go_num, by omega, ⟨hs⟩, trivial⟩
        case measure => simp [intOf]; omega
    · have hjI : ¬ (j : Int) < (us.length : Int) := by omega
      go_wp2
      go_ret
      have hs := HS.out
      rw [show j = us.length by omega, List.drop_length] at hs
      exact ⟨by rw [← HR.out, checkP, hs]; rfl, F0.out⟩
end Go.Proofs.Ytdicjcpcohclaaa.Auth
