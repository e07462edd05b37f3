/- The program's sum, cut. -/
import Derived.Test.YtanbddaecojijaaDoorShaOf
import Derived.Test.YtanbddaecojijaaDoorCopy
set_option linter.unusedVariables false
set_option linter.unusedSimpArgs false
namespace Go.Proofs.YtanbddaecojijaaDoor.Sha
open Go.RowKit Go.Proofs.YtanbddaecojijaaDoorW.PrintWords Go.Proofs.YtanbddaecojijaaDoor.B Go.Proofs.YtanbddaecojijaaDoor.PB
attribute [local go_sem] max2_int min2_int max_two min_two

/-- How many bytes count. -/
def cutK (n : Int) : Nat := (max 0 (min n 32)).toNat
theorem cutK_le (n : Int) : cutK n ≤ 32 := by unfold cutK; omega
def cut (n : Int) (b : List UInt8) : List UInt8 := (sha b).take (cutK n) ++ List.replicate (32 - cutK n) 0
theorem cut_length (n : Int) (b : List UInt8) : (cut n b).length = 32 := by
  have := cutK_le n
  simp [cut, sha_length]; omega
set_option maxHeartbeats 8000000 in
set_option maxRecDepth 100000 in
theorem cut_calls (n : Int) (vb : Value) (b : List UInt8) (w : World) (hb : RdB w vb b) (hn : b.length ≤ 100000000) (hn1 : -9223372036854775808 ≤ n) (hn2 : n ≤ 9223372036854775807) : Calls Tryd.prog 58 #[.int .i64 n, vb] w fun e w' => e = .returned (Arr.av (cut n b)) ∧ Fr No w w' := by
  obtain ⟨A, c, rfl, hbc, hcm, _⟩ := id hb
  have HB := Aside0.mk hb
  clear hb
  obtain ⟨k, hk⟩ : ∃ k, cutK n = k := ⟨_, rfl⟩
  have hk32 : k ≤ 32 := by rw [← hk]; exact cutK_le n
  have HK := Aside0.mk hk
  clear hk
  go_enter Tryd.func58, Tryd.ntmps58
  go_wp2_with fail
  refine (of_calls _ [b] _ (rdV_one' _ _ (by simp) A _ c b (HB.out.no (((Fr.refl _ _).alloc _).alloc _)) _) (by simpa using hn)).mono ?_
  rintro e w3 ⟨rfl, hF3⟩
  rw [show [b].flatten = b by simp]
  have B4 : Aside0 (Bd w3 w.heap.size 57 (List.replicate 32 0)) := ⟨(((bd_new w _ _ rfl (List.replicate 32 0)).alloc _).alloc _).no hF3⟩
  have B5 : Aside0 (Bd w3 (w.heap.size + 1) 57 (List.replicate 32 0)) := ⟨((bd_new (w.alloc _) _ _ (by simp) (List.replicate 32 0)).alloc _).no hF3⟩
  have F3 : Aside0 (Fr No w w3) := ⟨((((Fr.refl _ _).alloc _).alloc _).alloc _).none hF3⟩
  clear hF3
  go_wp2_with (refine PB.stRow (.tmp 6) (.tmp 9) 57 w3.heap.size 57 _ ((sha b).map vu8).toArray rfl rfl rfl rfl (heap_alloc_new w3 _) (by kernel_rfl) (by kernel_rfl) (by kernel_rfl) ?_)
  rw [World.setRow_alloc_new]
  have B6 : Aside0 (Bd (w3.alloc (.cells ((sha b).map vu8).toArray 57)) w3.heap.size 57 (sha b)) := ⟨bd_new w3 _ _ rfl _⟩
  have B45 : Aside0 (Bd (w3.alloc (.cells ((sha b).map vu8).toArray 57)) w.heap.size 57 (List.replicate 32 0) ∧ Bd (w3.alloc (.cells ((sha b).map vu8).toArray 57)) (w.heap.size + 1) 57 (List.replicate 32 0)) := ⟨B4.out.alloc _, B5.out.alloc _⟩
  have F4 : Aside0 (Fr No w (w3.alloc (.cells ((sha b).map vu8).toArray 57))) := ⟨F3.out.alloc _⟩
  have h36 := F3.out.size
  have h56 := B5.out.lt
  generalize w3.alloc (.cells ((sha b).map vu8).toArray 57) = w4 at B6 B45 F4 ⊢
  generalize w3.heap.size = g6 at B6 h36 h56 ⊢
  clear B4 B5 F3
  obtain ⟨m1, hm1⟩ : ∃ m1, (if 32 < n then (32 : Int) else n) = m1 := ⟨_, rfl⟩
  have hm2 : (if 0 < m1 then m1 else 0) = (k : Int) := by
    rw [← HK.out, ← hm1]
    unfold cutK
    by_cases h1 : 32 < n
    · rw [if_pos h1]; simp; omega
    · rw [if_neg h1]
      by_cases h2 : 0 < n
      · rw [if_pos h2]; omega
      · rw [if_neg h2]; omega
  have hkI : (k : Int) ≤ 32 := by omega
  go_simp
  refine Rg.start (fun _ _ => True) (by kernel_rfl) (by kernel_rfl) [5] [[4, 0, 1, 2, 3, 5]] (by kernel_rfl) (.q 0 0 (.q 1 0 (.q 2 0 (.q 3 0 (.q 4 0 (.e 5 1 (.done))))))) (by kernel_rfl) ?_ ?_
  · exact fun _ => trivial
  repeat (first
    | (refine Rg.q (o := ?_) (v := ?_) ?_ ?_ ?_ ?_ ?_
       rotate_left 2
       · (simp only [List.getElem?_toArray, List.getElem?_cons_succ, List.getElem?_cons_zero]; rfl)
       · exact fun _ _ _ h => h
       · first | rfl | (go_simp; done)
       · (intro x_ hx; (try dsimp only at hx); (clear hx); go_simp; (try rw [if_neg (by omega)]); (try rw [if_pos (by omega)]); (try go_simp); try with_reducible rfl)
       try simp only [Act.put, List.setIfInBounds_toArray, List.set_cons_zero, List.set_cons_succ])
    | (refine Rg.skip (o := ?_) ?_ ?_ ?_ ?_
       rotate_left 1
       · (simp only [List.getElem?_toArray, List.getElem?_cons_succ, List.getElem?_cons_zero]; rfl)
       · exact fun _ _ _ h => h
       · first | rfl | (go_simp; done)
       try simp only [Act.put, List.setIfInBounds_toArray, List.set_cons_zero, List.set_cons_succ]))
  refine Rg.e (o := ?_) ?_ ?_
  rotate_left 1
  · (simp only [List.getElem?_toArray, List.getElem?_cons_succ, List.getElem?_cons_zero]; rfl)
  intro K hK
  rw [if_pos (by first | rfl | (go_simp; done))]
  have hsrc : RdB w4.drew (.slice (some ⟨g6, 0, none⟩) 32 32) (sha b) := by
    have h := Bd.rd (B6.out.no ((Fr.refl _ w4).drew)) 0 32 32 (by rw [sha_length]; omega) (by omega) (by simp [maxLen])
    rw [List.drop_zero, List.take_of_length_le (by rw [sha_length]; omega)] at h
    exact h
  obtain ⟨w5, hcr, hB5, hF5⟩ := copy_bd w4.drew (w.heap.size + 1) 57 (List.replicate 32 0) (B45.out.2.no ((Fr.refl _ w4).drew)) 0 k 32 _ (sha b) hsrc k (by rw [sha_length]; omega) (by simp; omega) 3
  have hcut : List.take 0 (List.replicate 32 (0 : UInt8)) ++ List.take k (sha b) ++ List.drop (0 + k) (List.replicate 32 0) = cut n b := by
    rw [cut, HK.out, List.take_zero, List.nil_append, Nat.zero_add, List.drop_replicate]
  rw [hcut] at hB5
  refine opCopyB (.tmp 13) (.tmp 14) _ _ _ w5 rfl rfl rfl hcr ?_
  have C5 := Aside0.mk hB5
  have C4 : Aside0 (Bd w5 w.heap.size 57 (List.replicate 32 0)) := ⟨(B45.out.1.no ((Fr.refl _ w4).drew)).fr hF5 (fun e => by have e' : w.heap.size = w.heap.size + 1 := e; omega)⟩
  have F5 : Aside0 (Fr No w w5) := ⟨(F4.out.drew).trans hF5 (fun q hq e => by have e' : q = w.heap.size + 1 := e; omega)⟩
  clear hsrc hcr hB5 hF5 hcut hm1 hm2
  refine hK.out _ _ (fun _ _ => True) (fun k x hk h => trivial) ?_ ?_
  · exact fun _ _ => trivial
  try simp only [Act.put, List.setIfInBounds_toArray, List.set_cons_zero, List.set_cons_succ]
  refine Rg.done ?_
  go_simp
  have hcl := cut_length n b
  have hsz : ((cut n b).map vu8).toArray.size = 32 := by simp [hcl]
  have HSZ := Aside0.mk hsz
  clear hcl hsz
  go_wp2_with (first
    | (refine PB.ldRow (.tmp 5) 57 (w.heap.size + 1) 57 ((cut n b).map vu8).toArray (0, 0) _ rfl rfl rfl C5.out Tryd.underlying57 ⟨_, _, rfl⟩ (by rw [HSZ.out]; kernel_rfl) ?_)
    | (refine PB.stRow (.tmp 4) (.tmp 16) 57 w.heap.size 57 _ ((cut n b).map vu8).toArray rfl rfl rfl rfl C4.out (by rw [HSZ.out]; kernel_rfl) (by rw [HSZ.out]; rfl) (by rw [Array.all_eq_true]; intro i hi; simp [Value.oneCell']) ?_))
  refine bodyPost_ret (results_cell_row (P := Tryd.prog) (fn := Tryd.f58) (p := 4) (ty := 57) rfl _ _ w.heap.size 57 ((cut n b).map vu8).toArray (0, 0) _ rfl (setRow_heap _ _ _ _ _ _ C4.out) Tryd.underlying57 rfl (by rw [HSZ.out]; kernel_rfl)) rfl ⟨rfl, fr_setRow F5.out (.inr (Nat.le_refl _)) _⟩
end Go.Proofs.YtanbddaecojijaaDoor.Sha
