/- The document's Write of a frame. -/
import Derived.Test.YtdicjcpcohclaaaFrame
set_option linter.unusedVariables false
set_option linter.unusedSimpArgs false
namespace Go.Proofs.Ytdicjcpcohclaaa.Frm
open Go.RowKit Go.Proofs.YtdicjcpcohclaaaW.PrintWords Go.Proofs.Ytdicjcpcohclaaa.B Go.Proofs.Ytdicjcpcohclaaa.PB Go.Proofs.Ytdicjcpcohclaaa.SCode Go.Proofs.Ytdicjcpcohclaaa.Rdr
attribute [local go_sem] B.max2_int B.min2_int B.max_two B.min_two

theorem write_bad_calls (k s : Int) (xs : List UInt8) (w : World) (he : checkE k s xs.length ≠ 0) : Calls Try.prog 35 #[.agg #[.int .i64 k, .int .i64 s, .string (bstr xs)]] w fun e w' => e = .returned (.tuple #[.string (bstr []), .int .i64 (checkE k s xs.length)]) ∧ Fr No w w' := by
  go_enter Try.func35, Try.ntmps35
  go_wp2_with fail
  refine (refCheck_calls k s xs _).mono ?_
  rintro e w1 ⟨rfl, hf⟩
  have F1 := Aside0.mk hf; clear hf
  go_wp2
  (try simp only [Exit.inBlock, Exit.then]); refine bodyPost_ret (results_list (rs := [.tmp 2, .tmp 3]) rfl (by simp) (.tmp (.tmp .nil))) rfl ?_
  exact ⟨rfl, ((Fr.refl No w).alloc _).none F1.out⟩

theorem sum_head (k s : Int) (h1 : 1 ≤ k) (h2 : k ≤ 31) (h3 : 0 ≤ s) (h4 : s ≤ 7) : IntKind.u8.wrap (IntKind.i64.wrap (IntKind.i64.wrap (k * 8) + s)) = ((headB k s).toNat : Int) := by
  obtain ⟨k, rfl⟩ := Int.eq_ofNat_of_zero_le (Int.le_trans (by decide) h1)
  obtain ⟨s, rfl⟩ := Int.eq_ofNat_of_zero_le h3
  have : ∀ k, k < 32 → ∀ s, s < 8 → IntKind.u8.wrap (IntKind.i64.wrap (IntKind.i64.wrap (((k : Nat) : Int) * 8) + (s : Nat))) = ((headB k s).toNat : Int) := by decide +kernel
  exact this k (by omega) s (by omega)
theorem rd_box (W : World) (x : UInt8) : RdB (W.alloc (.cells #[vu8 x] 5)) (.slice (some ⟨W.heap.size, 0, none⟩) 1 1) [x] :=
  ⟨_, 1, rfl, by simp, by simp [maxLen], fun _ => ⟨_, rfl, fun i u hu => by
    rw [u8_cells] at hu
    exact heap_new_cells W [vu8 x] 5 i u hu⟩⟩

set_option maxHeartbeats 1000000 in
set_option maxRecDepth 100000 in
theorem write_calls (k s : Int) (xs : List UInt8) (w : World) (he : checkE k s xs.length = 0) : Calls Try.prog 35 #[.agg #[.int .i64 k, .int .i64 s, .string (bstr xs)]] w fun e w' => e = .returned (.tuple #[.string (bstr (frameB k s xs)), .int .i64 0]) ∧ Fr No w w' := by
  have HE := Aside0.mk he; clear he
  go_enter Try.func35, Try.ntmps35
  go_wp2_with fail
  refine (refCheck_calls k s xs _).mono ?_
  rw [HE.out]
  rintro e w1 ⟨rfl, hf⟩
  have hb1 : w1.heap[w.heap.size]? = some (.cells #[.int .i64 k, .int .i64 s, .string (bstr xs)] 53 (0, 0)) := hf.heap (blk_new w _) id
  have HB := Aside0.mk hb1
  have F1 := Aside0.mk hf; clear hf hb1
  go_wp2
  have hk := checkE_ok HE.out
  have hnl := numI_length (xs.length : Int)
  have HS := Aside0.mk (sum_head k s hk.1 hk.2.1 hk.2.2.1 hk.2.2.2.1)
  have hxl := hk.2.2.2.2
  clear hk
  have e1 : Aside0 (Fr No w w1) := ⟨((Fr.refl No w).alloc _).none F1.out⟩
  refine Rg.start (fun k' x => x.heap[w.heap.size]? = some (.cells #[.int .i64 k, .int .i64 s, .string (bstr xs)] 53 (0, 0))) (by kernel_rfl) (by kernel_rfl) [7, 12] [[3, 4, 0, 1, 2, 5, 6, 7], [9, 10, 11, 12]] (by kernel_rfl) (.q 0 0 (.q 1 0 (.q 2 0 (.q 3 0 (.q 4 0 (.q 5 0 (.q 6 0 (.q 9 1 (.q 10 1 (.q 11 1 (.q 14 2 (.q 15 2 (.two 7 1 (.q 8 2 (.e 12 2 (.q 13 2 (.q 16 2 (.q 17 2 (.q 18 2 (.done))))))) 12 0 (.e 7 2 (.q 8 2 (.q 13 2 (.q 16 2 (.q 17 2 (.q 18 2 (.done)))))))))))))))))))) (by kernel_rfl) ?_ ?_
  · exact fun _ => HB.out
  repeat (first
    | (refine Rg.q (o := ?_) (v := ?_) ?_ ?_ ?_ ?_ ?_
       rotate_left 2
       · (simp only [List.getElem?_toArray, List.getElem?_cons_succ, List.getElem?_cons_zero]; rfl)
       · exact fun _ _ _ h => h
       · first | rfl | (go_simp; done)
       · (intro x hx; (try dsimp only at hx); (have q0 : x.cell? ⟨w.heap.size, 0, none⟩ = some (.int .i64 k) := (by rw [blk_cell hx]; rfl); have q1 : x.cell? ⟨w.heap.size, 1, none⟩ = some (.int .i64 s) := (by rw [blk_cell hx]; rfl); have q2 : x.cell? ⟨w.heap.size, 2, none⟩ = some (.string (bstr xs)) := (by rw [blk_cell hx]; rfl)); go_simp; (try rw [if_neg (by omega)]); try with_reducible rfl)
       try simp only [Act.put, List.setIfInBounds_toArray, List.set_cons_zero, List.set_cons_succ])
    | (refine Rg.skip (o := ?_) ?_ ?_ ?_ ?_
       rotate_left 1
       · (simp only [List.getElem?_toArray, List.getElem?_cons_succ, List.getElem?_cons_zero]; rfl)
       · exact fun _ _ _ h => h
       · first | rfl | (go_simp; done)
       try simp only [Act.put, List.setIfInBounds_toArray, List.set_cons_zero, List.set_cons_succ]))
  refine Rg.two ?_ ?_
  · refine Rg.e (o := ?_) ?_ ?_
    rotate_left 1
    · (simp only [List.getElem?_toArray, List.getElem?_cons_succ, List.getElem?_cons_zero]; rfl)
    intro K hK
    go_simp
    rw [HS.out]
    have B1 : Aside0 (RdB ((w1.alloc (.cells #[vu8 (headB k s)] 5)).drew) (.slice (some ⟨w1.heap.size, 0, none⟩) 1 1) [headB k s]) := ⟨(rd_box w1 (headB k s)).no (Fr.refl _ _).drew⟩
    have F2 : Aside0 (Fr No w1 ((w1.alloc (.cells #[vu8 (headB k s)] 5)).drew)) := ⟨((Fr.refl _ _).alloc _).drew⟩
    refine hK.out _ _ (fun k' x => x.heap[w.heap.size]? = some (.cells #[.int .i64 k, .int .i64 s, .string (bstr xs)] 53 (0, 0)) ∧ RdB x (.slice (some ⟨w1.heap.size, 0, none⟩) 1 1) [headB k s]) (fun k x hk h => h.1) ?_ ?_
    · exact fun _ _ => ⟨F2.out.heap HB.out id, B1.out⟩
    try simp only [Act.put, List.setIfInBounds_toArray, List.set_cons_zero, List.set_cons_succ]
    repeat (first
      | (refine Rg.q (o := ?_) (v := ?_) ?_ ?_ ?_ ?_ ?_
         rotate_left 2
         · (simp only [List.getElem?_toArray, List.getElem?_cons_succ, List.getElem?_cons_zero]; rfl)
         · exact fun _ _ _ h => h
         · first | rfl | (go_simp; done)
         · (intro x hx; (try dsimp only at hx); (have q0 : x.cell? ⟨w.heap.size, 0, none⟩ = some (.int .i64 k) := (by rw [blk_cell hx.1]; rfl); have q1 : x.cell? ⟨w.heap.size, 1, none⟩ = some (.int .i64 s) := (by rw [blk_cell hx.1]; rfl); have q2 : x.cell? ⟨w.heap.size, 2, none⟩ = some (.string (bstr xs)) := (by rw [blk_cell hx.1]; rfl); have q3 := str_of_rd hx.2); go_simp; (try rw [if_neg (by omega)]); try with_reducible rfl)
         try simp only [Act.put, List.setIfInBounds_toArray, List.set_cons_zero, List.set_cons_succ])
      | (refine Rg.skip (o := ?_) ?_ ?_ ?_ ?_
         rotate_left 1
         · (simp only [List.getElem?_toArray, List.getElem?_cons_succ, List.getElem?_cons_zero]; rfl)
         · exact fun _ _ _ h => h
         · first | rfl | (go_simp; done)
         try simp only [Act.put, List.setIfInBounds_toArray, List.set_cons_zero, List.set_cons_succ]))
    refine Rg.e (o := ?_) ?_ ?_
    rotate_left 1
    · (simp only [List.getElem?_toArray, List.getElem?_cons_succ, List.getElem?_cons_zero]; rfl)
    intro K hK
    go_simp
    refine (CodeR.refNum_calls (xs.length : Int) _).mono ?_
    rintro e w3 ⟨rfl, g1⟩
    have F3 := Aside0.mk g1; clear g1
    have FZ : Aside0 (Fr No w w3) := ⟨(e1.out.none F2.out).none F3.out⟩
    go_simp
    refine hK.out _ _ (fun k' x => x.heap[w.heap.size]? = some (.cells #[.int .i64 k, .int .i64 s, .string (bstr xs)] 53 (0, 0)) ∧ RdB x (.slice (some ⟨w1.heap.size, 0, none⟩) 1 1) [headB k s]) (fun k x hk h => h) ?_ ?_
    · exact fun _ _ => ⟨(F2.out.none F3.out).heap HB.out id, B1.out.no F3.out⟩
    try simp only [Act.put, List.setIfInBounds_toArray, List.set_cons_zero, List.set_cons_succ]
    repeat (first
      | (refine Rg.q (o := ?_) (v := ?_) ?_ ?_ ?_ ?_ ?_
         rotate_left 2
         · (simp only [List.getElem?_toArray, List.getElem?_cons_succ, List.getElem?_cons_zero]; rfl)
         · exact fun _ _ _ h => h
         · first | rfl | (go_simp; done)
         · (intro x hx; (try dsimp only at hx); (have q0 : x.cell? ⟨w.heap.size, 0, none⟩ = some (.int .i64 k) := (by rw [blk_cell hx.1]; rfl); have q1 : x.cell? ⟨w.heap.size, 1, none⟩ = some (.int .i64 s) := (by rw [blk_cell hx.1]; rfl); have q2 : x.cell? ⟨w.heap.size, 2, none⟩ = some (.string (bstr xs)) := (by rw [blk_cell hx.1]; rfl); have q3 := str_of_rd hx.2); go_simp; (try rw [if_neg (by omega)]); try with_reducible rfl)
         try simp only [Act.put, List.setIfInBounds_toArray, List.set_cons_zero, List.set_cons_succ])
      | (refine Rg.skip (o := ?_) ?_ ?_ ?_ ?_
         rotate_left 1
         · (simp only [List.getElem?_toArray, List.getElem?_cons_succ, List.getElem?_cons_zero]; rfl)
         · exact fun _ _ _ h => h
         · first | rfl | (go_simp; done)
         try simp only [Act.put, List.setIfInBounds_toArray, List.set_cons_zero, List.set_cons_succ]))
    refine Rg.done ?_
    go_simp
    go_wp2
    (try simp only [Exit.inBlock, Exit.then]); refine bodyPost_ret (results_list (rs := [.tmp 2, .tmp 3]) rfl (by simp) (.tmp (.tmp .nil))) rfl ?_
    refine ⟨?_, ?_⟩
    · simp [frameB]
    · exact FZ.out

  · refine Rg.e (o := ?_) ?_ ?_
    rotate_left 1
    · (simp only [List.getElem?_toArray, List.getElem?_cons_succ, List.getElem?_cons_zero]; rfl)
    intro K hK
    go_simp
    refine (CodeR.refNum_calls (xs.length : Int) _).mono ?_
    rintro e w3 ⟨rfl, g1⟩
    have F3 := Aside0.mk ((Fr.refl No w1).drew.none g1); clear g1
    go_simp
    refine hK.out _ _ (fun k' x => x.heap[w.heap.size]? = some (.cells #[.int .i64 k, .int .i64 s, .string (bstr xs)] 53 (0, 0))) (fun k x hk h => h) ?_ ?_
    · exact fun _ _ => F3.out.heap HB.out id
    try simp only [Act.put, List.setIfInBounds_toArray, List.set_cons_zero, List.set_cons_succ]
    repeat (first
      | (refine Rg.q (o := ?_) (v := ?_) ?_ ?_ ?_ ?_ ?_
         rotate_left 2
         · (simp only [List.getElem?_toArray, List.getElem?_cons_succ, List.getElem?_cons_zero]; rfl)
         · exact fun _ _ _ h => h
         · first | rfl | (go_simp; done)
         · (intro x hx; (try dsimp only at hx); (skip); go_simp; (try rw [if_neg (by omega)]); try with_reducible rfl)
         try simp only [Act.put, List.setIfInBounds_toArray, List.set_cons_zero, List.set_cons_succ])
      | (refine Rg.skip (o := ?_) ?_ ?_ ?_ ?_
         rotate_left 1
         · (simp only [List.getElem?_toArray, List.getElem?_cons_succ, List.getElem?_cons_zero]; rfl)
         · exact fun _ _ _ h => h
         · first | rfl | (go_simp; done)
         try simp only [Act.put, List.setIfInBounds_toArray, List.set_cons_zero, List.set_cons_succ]))
    refine Rg.e (o := ?_) ?_ ?_
    rotate_left 1
    · (simp only [List.getElem?_toArray, List.getElem?_cons_succ, List.getElem?_cons_zero]; rfl)
    intro K hK
    go_simp
    rw [HS.out]
    have B1 : Aside0 (RdB (w3.alloc (.cells #[vu8 (headB k s)] 5)) (.slice (some ⟨w3.heap.size, 0, none⟩) 1 1) [headB k s]) := ⟨rd_box w3 (headB k s)⟩
    have F2 : Aside0 (Fr No w1 (w3.alloc (.cells #[vu8 (headB k s)] 5))) := ⟨F3.out.alloc _⟩
    have FZ : Aside0 (Fr No w (w3.alloc (.cells #[vu8 (headB k s)] 5))) := ⟨e1.out.none F2.out⟩
    refine hK.out _ _ (fun k' x => x.heap[w.heap.size]? = some (.cells #[.int .i64 k, .int .i64 s, .string (bstr xs)] 53 (0, 0)) ∧ RdB x (.slice (some ⟨w3.heap.size, 0, none⟩) 1 1) [headB k s]) (fun k x hk h => h.1) ?_ ?_
    · exact fun _ _ => ⟨F2.out.heap HB.out id, B1.out⟩
    try simp only [Act.put, List.setIfInBounds_toArray, List.set_cons_zero, List.set_cons_succ]
    repeat (first
      | (refine Rg.q (o := ?_) (v := ?_) ?_ ?_ ?_ ?_ ?_
         rotate_left 2
         · (simp only [List.getElem?_toArray, List.getElem?_cons_succ, List.getElem?_cons_zero]; rfl)
         · exact fun _ _ _ h => h
         · first | rfl | (go_simp; done)
         · (intro x hx; (try dsimp only at hx); (have q0 : x.cell? ⟨w.heap.size, 0, none⟩ = some (.int .i64 k) := (by rw [blk_cell hx.1]; rfl); have q1 : x.cell? ⟨w.heap.size, 1, none⟩ = some (.int .i64 s) := (by rw [blk_cell hx.1]; rfl); have q2 : x.cell? ⟨w.heap.size, 2, none⟩ = some (.string (bstr xs)) := (by rw [blk_cell hx.1]; rfl); have q3 := str_of_rd hx.2); go_simp; (try rw [if_neg (by omega)]); try with_reducible rfl)
         try simp only [Act.put, List.setIfInBounds_toArray, List.set_cons_zero, List.set_cons_succ])
      | (refine Rg.skip (o := ?_) ?_ ?_ ?_ ?_
         rotate_left 1
         · (simp only [List.getElem?_toArray, List.getElem?_cons_succ, List.getElem?_cons_zero]; rfl)
         · exact fun _ _ _ h => h
         · first | rfl | (go_simp; done)
         try simp only [Act.put, List.setIfInBounds_toArray, List.set_cons_zero, List.set_cons_succ]))
    refine Rg.done ?_
    go_simp
    go_wp2
    (try simp only [Exit.inBlock, Exit.then]); refine bodyPost_ret (results_list (rs := [.tmp 2, .tmp 3]) rfl (by simp) (.tmp (.tmp .nil))) rfl ?_
    refine ⟨?_, ?_⟩
    · simp [frameB]
    · exact FZ.out

end Go.Proofs.Ytdicjcpcohclaaa.Frm
