/- block.Make: walked. The statements' head of chapter 06: walked. -/
import Derived.Test.YtanbddaecojijaaDoorBlkC
import Derived.Test.YtanbddaecojijaaDoorCutR
import Derived.Test.YtanbddaecojijaaDoorChk
import Derived.Test.YtanbddaecojijaaDoorFind
import Derived.Lib.SlBytesConst
set_option linter.unusedVariables false
set_option linter.unusedSimpArgs false
namespace Go.Proofs.YtanbddaecojijaaDoor.Blk
open Go.RowKit Go.IntWalk Go.Proofs.YtanbddaecojijaaDoorW.PrintWords Go.Proofs.YtanbddaecojijaaDoor.B Go.Proofs.YtanbddaecojijaaDoor.PB Go.Proofs.YtanbddaecojijaaDoor.SWeak Go.Proofs.YtanbddaecojijaaDoor.Bk Go.Proofs.YtanbddaecojijaaDoor.SBlk
attribute [local go_sem] B.max2_int B.min2_int B.max_two B.min_two

/-- A signature's slice, as a row of its own from block n on. -/
def OwS (w : World) (n : Nat) (v : Value) (bs : List BK) : Prop := Ow (fBk .u32) 101 w v bs ∧ ∀ q, v.ownBlock = some q → n ≤ q
theorem sg_of_err {d : List UInt8} {size cut : Int} (h : makeE d.length size cut ≠ 0) : makeS d size cut = nilS := by unfold makeS; rw [if_neg h]

set_option maxHeartbeats 4000000 in
set_option maxRecDepth 100000 in
theorem make_bad (v : Value) (d : List UInt8) (size cut : Int) (w : World) (hv : RdB w v d) (h2 : size ≤ 9223372036854775807) (hE : makeE d.length size cut ≠ 0) : Calls Tryd.prog 27 #[v, .int .i64 size, .int .i64 cut] w fun e w' =>
    e = .returned (.tuple #[.agg (sgC 0 0 0 (.slice none 0 0)), .int .i64 (makeE d.length size cut)]) ∧ Fr No w w' := by
  obtain ⟨A, c, rfl, _, hm⟩ := id hv
  have hlen := hv.len_le
  have hcases := makeE_cases d.length size cut
  obtain ⟨E, hEE⟩ : ∃ E, makeE d.length size cut = E := ⟨_, rfl⟩
  rw [hEE] at hE hcases ⊢
  clear hEE hv hm
  rcases hcases with ⟨a1, rfl⟩ | ⟨a1, a2, rfl⟩ | ⟨a1, a2, a3, rfl⟩ | ⟨a1, a2, a3, a4, rfl⟩ | ⟨a1, a2, a3, a4, a5, rfl⟩ | ⟨a1, a2, a3, a4, a5, h0⟩
  case inr.inr.inr.inr.inr => exact absurd h0 hE
  case inr.inr.inr.inr.inl =>
    have HB := Aside0.mk a5
    clear hE a5
    go_enter Tryd.func27, Tryd.ntmps27
    go_wp2_with fail
    refine (count_calls d.length size _ (by omega) h2).mono ?_
    rintro e w1 ⟨rfl, rfl⟩
    have a5 := HB.out
    go_wp2_with (refine PB.stRow (.tmp 6) (.tmp 32) 26 w.heap.size 26 _ (sgC 0 0 0 (.slice none 0 0)) rfl rfl rfl rfl (heap_alloc_new w _) (by kernel_rfl) rfl (by simp [Value.oneCell']) ?_; rw [World.setRow_alloc_new])
    (try simp only [Exit.inBlock, Exit.then]); refine bodyPost_ret (results_list (rs := [.cell 6 26, .tmp 7]) rfl (by simp) (.cell w.heap.size 26 (sgC 0 0 0 (.slice none 0 0)) (0, 0) _ rfl (heap_alloc_new w _) Tryd.underlying26 rfl (by kernel_rfl) (.tmp .nil))) rfl ?_
    exact ⟨rfl, (Fr.refl _ _).alloc _⟩
  all_goals
    clear hE
    go_enter Tryd.func27, Tryd.ntmps27
    go_wp2_with (refine PB.stRow (.tmp 6) (.tmp 25) 26 w.heap.size 26 _ (sgC 0 0 0 (.slice none 0 0)) rfl rfl rfl rfl (heap_alloc_new w _) (by kernel_rfl) rfl (by simp [Value.oneCell']) ?_; rw [World.setRow_alloc_new])
    (try simp only [Exit.inBlock, Exit.then]); refine bodyPost_ret (results_list (rs := [.cell 6 26, .tmp 7]) rfl (by simp) (.cell w.heap.size 26 (sgC 0 0 0 (.slice none 0 0)) (0, 0) _ rfl (heap_alloc_new w _) Tryd.underlying26 rfl (by kernel_rfl) (.tmp .nil))) rfl ?_
    exact ⟨rfl, (Fr.refl _ _).alloc _⟩

set_option maxHeartbeats 4000000 in
set_option maxRecDepth 100000 in
theorem make_ok (v : Value) (d : List UInt8) (size cut : Int) (w : World) (hv : RdB w v d) (hl : d.length ≤ 100000000) (h2 : size ≤ 9223372036854775807) (hE : makeE d.length size cut = 0) : Calls Tryd.prog 27 #[v, .int .i64 size, .int .i64 cut] w fun e w' =>
    ∃ sl, e = .returned (.tuple #[.agg (sgC size cut d.length sl), .int .i64 0]) ∧ OwS w' w.heap.size sl (blocks size.toNat cut d (cnt d.length size.toNat)) ∧ Fr No w w' := by
  obtain ⟨A, c, rfl, hAc, hm, _⟩ := id hv
  have HV := Aside0.mk hv
  have hcases := makeE_cases d.length size cut
  obtain ⟨a1, a2, a3, a4, a5⟩ : 1 ≤ size ∧ size ≤ 4096 ∧ 0 ≤ cut ∧ cut ≤ 32 ∧ countI d.length size ≤ 4096 := by
    rcases hcases with h | h | h | h | h | h <;> omega
  obtain ⟨s, rfl⟩ := Int.eq_ofNat_of_zero_le (show 0 ≤ size by omega)
  have hs0 : 0 < s := by omega
  have hs1 : s ≤ 4096 := by omega
  rw [Int.toNat_natCast]
  obtain ⟨N, hN⟩ : ∃ N, cnt d.length s = N := ⟨_, rfl⟩
  have hspec := cnt_spec d.length s hs0
  rw [hN] at hspec ⊢
  have hNl : N ≤ 4096 := by rw [countI_nat _ _ hs0, hN] at a5; omega
  have HS := Aside0.mk hspec
  have b1 : ¬ (s : Int) < 1 := by omega
  have b2 : ¬ (4096 : Int) < (s : Int) := by omega
  have b3 : ¬ cut < 0 := by omega
  have b4 : ¬ 32 < cut := by omega
  have HB := Aside0.mk (show ¬ 4096 < countI d.length s by omega)
  clear hv hcases hE hN hspec a1 a2 a3 a4 a5
  go_enter Tryd.func27, Tryd.ntmps27
  go_wp2_with fail
  refine (count_calls d.length s _ (by omega) h2).mono ?_
  rintro e w1 ⟨rfl, rfl⟩
  have b5 := HB.out
  go_wp2
  have F0 : Aside0 (Fr No w ((w.alloc (.cells (sgC 0 0 0 (.slice none 0 0)) 26)).alloc (.cells (sgC s cut d.length (.slice none 0 0)) 26))) := ⟨((Fr.refl _ _).alloc _).alloc _⟩
  clear b5
  go_loopw [9] (fun v9 wr => ∃ (i : Nat) (vi : Value), v9 = .int .i64 ((i * s : Nat) : Int) ∧ i ≤ N ∧ Aside0 (wr.heap[w.heap.size]? = some (.cells (sgC 0 0 0 (.slice none 0 0)) 26 (0, 0))) ∧ Aside0 (wr.heap[w.heap.size + 1]? = some (.cells (sgC s cut d.length vi) 26 (0, 0))) ∧
    Aside0 (OwS wr w.heap.size vi (blocks s cut d i)) ∧ Aside0 (Fr No w wr)) (fun v9 _ => d.length - (intOf v9).toNat)
  case atStart => exact ⟨0, .slice none 0 0, by rw [Nat.zero_mul]; rfl, Nat.zero_le _, ⟨blk_alloc (heap_alloc_new w _) _⟩, ⟨heap_alloc2_new w _ _⟩, ⟨⟨Ow.nil _ _ _, fun q hq => by cases hq⟩⟩, F0⟩
  case round =>
    obtain ⟨i, vi, rfl, hi, H0, H1, HO, HF⟩ := hrel
    have hiff := HS.out i
    obtain ⟨m, hmm⟩ : ∃ m, i * s = m := ⟨_, rfl⟩
    have HM := Aside0.mk hmm
    rw [hmm] at hiff ⊢
    clear hmm
    by_cases hlt : m < d.length
    · have hmI : (m : Int) < (d.length : Int) := by omega
      have hiN : i < N := hiff.2 hlt
      obtain ⟨k, hk⟩ : ∃ k, min s (d.length - m) = k := ⟨_, rfl⟩
      have hkI : (if (d.length : Int) < (m : Int) + (s : Int) then (d.length : Int) else (m : Int) + (s : Int)) = (m : Int) + (k : Int) := by split <;> omega
      have had : IntKind.i64.wrap ((m : Int) + (s : Int)) = (m : Int) + (s : Int) := by rw [i64_left]; exact wrap64_in _ (by omega)
      obtain ⟨A2, hcut, hrd⟩ := cut_bytes A d.length c m k (by omega) hAc
      have HP : Aside0 ((d.drop m).take k = piece s d i) := ⟨by
        unfold piece; rw [HM.out, ← hk]
        by_cases h : s ≤ d.length - m
        · rw [Nat.min_eq_left h]
        · rw [Nat.min_eq_right (by omega), List.take_of_length_le (by rw [List.length_drop]; omega), List.take_of_length_le (by rw [List.length_drop]; omega)]⟩
      have HRD := Aside0.mk hrd
      have hkl : k ≤ 4096 := by omega
      clear hk hrd hiff
      go_wp2
      have HD : Aside0 (wr.drew.heap[w.heap.size + 1]? = some (.cells (sgC s cut d.length vi) 26 (0, 0))) := ⟨H1.out⟩
      refine Rg.start (fun k' y => k' ≤ 3 → y.heap[w.heap.size + 1]? = some (.cells (sgC s cut d.length vi) 26 (0, 0))) (by kernel_rfl) (by kernel_rfl) [12, 13, 14, 16] [[11, 7, 8, 5, 4, 6, 9, 3, 2, 10, 12], [11, 7, 8, 5, 4, 6, 9, 3, 2, 10, 12, 13], [11, 7, 8, 5, 4, 6, 9, 3, 2, 10, 12, 13, 0, 1, 14], [14, 13, 12, 11, 10, 9, 8, 7, 6, 5, 4, 3, 2, 1, 0, 15, 16]] (by kernel_rfl) (.q 0 2 (.q 1 2 (.q 2 0 (.q 3 0 (.q 4 0 (.q 5 0 (.q 6 0 (.q 7 0 (.q 8 0 (.q 9 0 (.q 10 0 (.q 11 0 (.e 12 1 (.e 13 2 (.e 14 3 (.q 15 3 (.e 16 4 (.done)))))))))))))))))) (by kernel_rfl) ?_ ?_
      · exact fun _ _ => HD.out
      repeat (first
        | (refine Rg.q (o := ?_) (v := ?_) ?_ ?_ ?_ ?_ ?_
           rotate_left 2
           · (simp only [List.getElem?_toArray, List.getElem?_cons_succ, List.getElem?_cons_zero]; rfl)
           · exact fun _ _ _ h => h
           · first | rfl | (go_simp; done)
           · (intro x_ hx; (try dsimp only at hx); (try have q0 := (fun i => blk_cell (hx (by decide)) i)); go_simp; (try rw [if_neg (by omega)]); (try rw [if_pos (by omega)]); (try go_simp); try with_reducible rfl)
           try simp only [Act.put, List.setIfInBounds_toArray, List.set_cons_zero, List.set_cons_succ])
        | (refine Rg.skip (o := ?_) ?_ ?_ ?_ ?_
           rotate_left 1
           · (simp only [List.getElem?_toArray, List.getElem?_cons_succ, List.getElem?_cons_zero]; rfl)
           · exact fun _ _ _ h => h
           · first | rfl | (go_simp; done)
           try simp only [Act.put, List.setIfInBounds_toArray, List.set_cons_zero, List.set_cons_succ]))
      refine Rg.e (o := ?_) ?_ ?_
      rotate_left 1
      · (simp only [List.getElem?_toArray, List.getElem?_cons_succ, List.getElem?_cons_zero]; rfl)
      intro K hK
      go_simp
      refine (of_calls (.slice A2 k (c - m)) (piece s d i) cut wr.drew (by rw [← HP.out]; exact HRD.out d _ ((HV.out.no HF.out).no (Fr.refl _ _).drew)) (by rw [piece_length]; omega) (by omega) (by omega)).mono ?_
      rintro en x1 ⟨rfl, hf⟩
      have K1 : Aside0 (Fr No wr x1) := ⟨((Fr.refl No wr).drew).none hf⟩
      clear hf
      go_simp
      refine hK.out _ _ (fun k' y => k' ≤ 3 → y.heap[w.heap.size + 1]? = some (.cells (sgC s cut d.length vi) 26 (0, 0))) (fun k x hk h => h) ?_ ?_
      · exact fun _ _ _ => K1.out.heap H1.out id
      try simp only [Act.put, List.setIfInBounds_toArray, List.set_cons_zero, List.set_cons_succ]
      repeat (first
        | (refine Rg.q (o := ?_) (v := ?_) ?_ ?_ ?_ ?_ ?_
           rotate_left 2
           · (simp only [List.getElem?_toArray, List.getElem?_cons_succ, List.getElem?_cons_zero]; rfl)
           · exact fun _ _ _ h => h
           · first | rfl | (go_simp; done)
           · (intro x_ hx; (try dsimp only at hx); (try have q0 := (fun i => blk_cell (hx (by decide)) i)); go_simp; (try rw [if_neg (by omega)]); (try rw [if_pos (by omega)]); (try go_simp); try with_reducible rfl)
           try simp only [Act.put, List.setIfInBounds_toArray, List.set_cons_zero, List.set_cons_succ])
        | (refine Rg.skip (o := ?_) ?_ ?_ ?_ ?_
           rotate_left 1
           · (simp only [List.getElem?_toArray, List.getElem?_cons_succ, List.getElem?_cons_zero]; rfl)
           · exact fun _ _ _ h => h
           · first | rfl | (go_simp; done)
           try simp only [Act.put, List.setIfInBounds_toArray, List.set_cons_zero, List.set_cons_succ]))
      refine Rg.e (o := ?_) ?_ ?_
      rotate_left 1
      · (simp only [List.getElem?_toArray, List.getElem?_cons_succ, List.getElem?_cons_zero]; rfl)
      intro K hK
      rw [if_pos (by first | rfl | (go_simp; done))]
      refine opX (ex_buildSlice (oneP (sums cut (piece s d i)) x1) rfl rfl) ?_
      have K2 : Aside0 (Fr No wr (x1.alloc (.cells (bkC .u32 (sums cut (piece s d i))) 101))) := ⟨K1.out.alloc _⟩
      refine hK.out _ _ (fun k' y => k' ≤ 3 → y.heap[w.heap.size + 1]? = some (.cells (sgC s cut d.length vi) 26 (0, 0))) (fun k x hk h => h) ?_ ?_
      · exact fun _ _ _ => K2.out.heap H1.out id
      try simp only [Act.put, List.setIfInBounds_toArray, List.set_cons_zero, List.set_cons_succ]
      repeat (first
        | (refine Rg.q (o := ?_) (v := ?_) ?_ ?_ ?_ ?_ ?_
           rotate_left 2
           · (simp only [List.getElem?_toArray, List.getElem?_cons_succ, List.getElem?_cons_zero]; rfl)
           · exact fun _ _ _ h => h
           · first | rfl | (go_simp; done)
           · (intro x_ hx; (try dsimp only at hx); (try have q0 := (fun i => blk_cell (hx (by decide)) i)); go_simp; (try rw [if_neg (by omega)]); (try rw [if_pos (by omega)]); (try go_simp); try with_reducible rfl)
           try simp only [Act.put, List.setIfInBounds_toArray, List.set_cons_zero, List.set_cons_succ])
        | (refine Rg.skip (o := ?_) ?_ ?_ ?_ ?_
           rotate_left 1
           · (simp only [List.getElem?_toArray, List.getElem?_cons_succ, List.getElem?_cons_zero]; rfl)
           · exact fun _ _ _ h => h
           · first | rfl | (go_simp; done)
           try simp only [Act.put, List.setIfInBounds_toArray, List.set_cons_zero, List.set_cons_succ]))
      refine Rg.e (o := ?_) ?_ ?_
      rotate_left 1
      · (simp only [List.getElem?_toArray, List.getElem?_cons_succ, List.getElem?_cons_zero]; rfl)
      intro K hK
      rw [if_pos (by first | rfl | (go_simp; done))]
      have hbl := blocks_length s cut d i
      refine opN (f := fBk .u32) (.tmp 46) (.tmp 58) 24 101 (.agg (bkC .u32 zBK)) 36 rfl Tryd.underlying24 infoP (bkC_size _ _) (by decide) (by decide) vi (blocks s cut d i) (.slice (some ⟨x1.heap.size, 0, none⟩) 1 1) [sums cut (piece s d i)] rfl rfl (HO.out.1.no K2.out) (rd_one x1 _ _ rfl _) (by rw [hbl]; simp; omega) ?_
      intro v1 x3 h1 h2 h3 h4
      have K3 : Aside0 (Fr (blk vi) wr x3) := ⟨(K2.out.mono (fun _ _ h => h.elim)).trans h2 (fun _ _ h => h)⟩
      have O3 : Aside0 (OwS x3 w.heap.size v1 (blocks s cut d (i + 1))) := ⟨by rw [blocks_succ]; exact h1, fun q hq => by
        rcases h3 with h9 | ⟨q', h9, h10⟩
        · rw [hq] at h9; exact HO.out.2 q h9.symm
        · rw [hq] at h9; injection h9 with h9; have := HF.out.size; have := K2.out.size; omega⟩
      have hnb : ∀ b cs t, wr.heap[b]? = some (.cells cs t (0, 0)) → t ≠ 101 → ¬ blk vi b := fun b cs t hb ht hq => by
        obtain ⟨cs', hb'⟩ := HO.out.1.typed b hq
        rw [hb] at hb'; injection hb' with hb'; injection hb' with _ e2; exact ht e2
      have h1x : x3.heap[w.heap.size + 1]? = some (.cells (sgC s cut d.length vi) 26 (0, 0)) := K3.out.heap H1.out (hnb _ _ _ H1.out (by decide))
      have h0x : x3.heap[w.heap.size]? = some (.cells (sgC 0 0 0 (.slice none 0 0)) 26 (0, 0)) := K3.out.heap H0.out (hnb _ _ _ H0.out (by decide))
      have H1X := Aside0.mk h1x; have H0X := Aside0.mk h0x
      have c3 : x3.cell? ⟨w.heap.size + 1, 3, Option.none⟩ = some vi := by rw [blk_cell h1x]; rfl
      have f3 : x3.frozen? ⟨w.heap.size + 1, 3, Option.none⟩ = false := blk_frozen h1x _
      have K3' : Aside0 (Fr No w x3) := ⟨HF.out.trans K3.out (fun q hq hb => absurd (HO.out.2 q hb) (by omega))⟩
      obtain ⟨A1, c1, rfl⟩ := h1.form
      clear h1 h2 h3 h4 hbl hnb h1x h0x
      refine hK.out _ _ (fun k' y => k' ≤ 3 → y.heap[w.heap.size + 1]? = some (.cells (sgC s cut d.length vi) 26 (0, 0))) (fun k x hk h => h) ?_ ?_
      · exact fun _ _ _ => H1X.out
      try simp only [Act.put, List.setIfInBounds_toArray, List.set_cons_zero, List.set_cons_succ]
      repeat (first
        | (refine Rg.q (o := ?_) (v := ?_) ?_ ?_ ?_ ?_ ?_
           rotate_left 2
           · (simp only [List.getElem?_toArray, List.getElem?_cons_succ, List.getElem?_cons_zero]; rfl)
           · exact fun _ _ _ h => h
           · first | rfl | (go_simp; done)
           · (intro x_ hx; (try dsimp only at hx); (try have q0 := (fun i => blk_cell (hx (by decide)) i)); go_simp; (try rw [if_neg (by omega)]); (try rw [if_pos (by omega)]); (try go_simp); try with_reducible rfl)
           try simp only [Act.put, List.setIfInBounds_toArray, List.set_cons_zero, List.set_cons_succ])
        | (refine Rg.skip (o := ?_) ?_ ?_ ?_ ?_
           rotate_left 1
           · (simp only [List.getElem?_toArray, List.getElem?_cons_succ, List.getElem?_cons_zero]; rfl)
           · exact fun _ _ _ h => h
           · first | rfl | (go_simp; done)
           try simp only [Act.put, List.setIfInBounds_toArray, List.set_cons_zero, List.set_cons_succ]))
      refine Rg.e (o := ?_) ?_ ?_
      rotate_left 1
      · (simp only [List.getElem?_toArray, List.getElem?_cons_succ, List.getElem?_cons_zero]; rfl)
      intro K hK
      go_simp
      have hl1 : (blocks s cut d i ++ [sums cut (piece s d i)]).length = i + 1 := by simp [blocks_length]
      have hl0 : (blocks s cut d i).length = i := blocks_length _ _ _ _
      rw [hl1] at O3
      rw [hl0]
      clear c3 f3
      refine hK.out _ _ (fun _ _ => True) (fun k x hk h h2 => absurd (Nat.le_trans hk h2) (by decide)) ?_ ?_
      · exact fun _ _ => trivial
      try simp only [Act.put, List.setIfInBounds_toArray, List.set_cons_zero, List.set_cons_succ]
      repeat (first
        | (refine Rg.q (o := ?_) (v := ?_) ?_ ?_ ?_ ?_ ?_
           rotate_left 2
           · (simp only [List.getElem?_toArray, List.getElem?_cons_succ, List.getElem?_cons_zero]; rfl)
           · exact fun _ _ _ h => h
           · first | rfl | (go_simp; done)
           · (intro x_ hx; (try dsimp only at hx); (skip); go_simp; (try rw [if_neg (by omega)]); (try rw [if_pos (by omega)]); (try go_simp); try with_reducible rfl)
           try simp only [Act.put, List.setIfInBounds_toArray, List.set_cons_zero, List.set_cons_succ])
        | (refine Rg.skip (o := ?_) ?_ ?_ ?_ ?_
           rotate_left 1
           · (simp only [List.getElem?_toArray, List.getElem?_cons_succ, List.getElem?_cons_zero]; rfl)
           · exact fun _ _ _ h => h
           · first | rfl | (go_simp; done)
           try simp only [Act.put, List.setIfInBounds_toArray, List.set_cons_zero, List.set_cons_succ]))
      refine Rg.done ?_
      have h1s : (x3.setCell ⟨w.heap.size + 1, 3, none⟩ (.slice A1 (i + 1) c1)).heap[w.heap.size + 1]? = some (.cells (sgC s cut d.length (.slice A1 (i + 1) c1)) 26 (0, 0)) := by simpa using blk_set H1X.out 3 (.slice A1 (i + 1) c1)
      have fs : Fr (one (w.heap.size + 1)) x3 (x3.setCell ⟨w.heap.size + 1, 3, none⟩ (.slice A1 (i + 1) c1)) := fr_one_set _ _ _ _
      have h0s := fs.heap H0X.out (fun e => by have e' : w.heap.size = w.heap.size + 1 := e; omega)
      have O4 : OwS (x3.setCell ⟨w.heap.size + 1, 3, none⟩ (.slice A1 (i + 1) c1)) w.heap.size (.slice A1 (i + 1) c1) (blocks s cut d (i + 1)) := ⟨O3.out.1.fr fs (fun q hq hb => by
        have e' : q = w.heap.size + 1 := hb
        obtain ⟨cs', hb'⟩ := O3.out.1.typed q hq
        rw [e', H1X.out] at hb'
        injection hb' with hb'
        injection hb' with _ e2
        exact absurd e2 (by decide)), O3.out.2⟩
      have F4 : Fr No w (x3.setCell ⟨w.heap.size + 1, 3, none⟩ (.slice A1 (i + 1) c1)) := K3'.out.setCell (p := ⟨w.heap.size + 1, 3, none⟩) (.inr (by simp)) _
      have Z1 := Aside0.mk h1s; have Z0 := Aside0.mk h0s; have Z4 := Aside0.mk O4; have ZF := Aside0.mk F4
      clear h1s h0s O4 F4 fs hcut
      go_simp
      go_wp2
      go_roundw
      case rel => exact ⟨i + 1, .slice A1 (i + 1) c1, by rw [Nat.add_mul, Nat.one_mul, HM.out]; go_num, by omega, Z0, Z1, Z4, ZF⟩
      case measure => simp [intOf]; omega
    · have hmI : ¬ (m : Int) < (d.length : Int) := by omega
      have hiN : i = N := by
        have : ¬ i < N := fun h => hlt (hiff.1 h)
        omega
      subst hiN
      have LD := ld_all (P := Tryd.prog) (ty := 26) H1.out Tryd.underlying26 rfl (by kernel_rfl)
      go_wp2_with (first
        | (refine ldG (.tmp 8) 26 _ _ rfl rfl (LD _ (Fr.refl _ _)) (by first | rfl | (go_simp; done)) ?_)
        | (refine PB.stRow (.tmp 6) (.tmp 61) 26 w.heap.size 26 _ (sgC s cut d.length vi) rfl rfl rfl rfl H0.out (by kernel_rfl) rfl (by obtain ⟨A1, c1, rfl⟩ := HO.out.1.form; simp [Value.oneCell']) ?_))
      (try simp only [Exit.inBlock, Exit.then]); refine bodyPost_ret (results_list (rs := [.cell 6 26, .tmp 7]) rfl (by simp) (.cell w.heap.size 26 (sgC s cut d.length vi) (0, 0) _ rfl (setRow_heap _ _ _ _ _ _ H0.out) Tryd.underlying26 rfl (by kernel_rfl) (.tmp .nil))) rfl ?_
      refine ⟨vi, rfl, ⟨HO.out.1.fr (fr_one_row _ _ _) (fun q hq hb => by
        have e' : q = w.heap.size := hb
        obtain ⟨cs', hb'⟩ := HO.out.1.typed q hq
        rw [e', H0.out] at hb'
        injection hb' with hb'
        injection hb' with _ e2
        exact absurd e2 (by decide)), HO.out.2⟩, fr_setRow HF.out (.inr (Nat.le_refl _)) _⟩
theorem make_calls (v : Value) (d : List UInt8) (size cut : Int) (w : World) (hv : RdB w v d) (hl : d.length ≤ 100000000) (h2 : size ≤ 9223372036854775807) : Calls Tryd.prog 27 #[v, .int .i64 size, .int .i64 cut] w fun e w' =>
    ∃ sl, e = .returned (.tuple #[.agg (sgC (makeS d size cut).size (makeS d size cut).cut (makeS d size cut).len sl), .int .i64 (makeE d.length size cut)]) ∧ OwS w' w.heap.size sl (makeS d size cut).bs ∧ Fr No w w' := by
  by_cases h : makeE d.length size cut = 0
  · refine (make_ok v d size cut w hv hl h2 h).mono ?_
    rintro e w' ⟨sl, rfl, h3, h4⟩
    have e1 : makeS d size cut = ⟨size, cut, d.length, blocks size.toNat cut d (cnt d.length size.toNat)⟩ := by unfold makeS; rw [if_pos h]
    rw [e1, h]
    exact ⟨sl, rfl, h3, h4⟩
  · refine (make_bad v d size cut w hv h2 h).mono ?_
    rintro e w' ⟨rfl, h4⟩
    rw [sg_of_err h]
    exact ⟨_, rfl, ⟨Ow.nil _ _ _, fun q hq => by cases hq⟩, h4⟩
end Go.Proofs.YtanbddaecojijaaDoor.Blk
namespace Go.Proofs.YtanbddaecojijaaDoor.L6
open Go.RowKit Go.IntWalk Go.Proofs.YtanbddaecojijaaDoorW.PrintWords Go.Proofs.YtanbddaecojijaaDoor.B Go.Proofs.YtanbddaecojijaaDoor.PB Go.Proofs.YtanbddaecojijaaDoor.SWeak Go.Proofs.YtanbddaecojijaaDoor.Bk Go.Proofs.YtanbddaecojijaaDoor.SBlk Go.Proofs.YtanbddaecojijaaDoor.Blk

/-- What is made is well made. -/
theorem clean_sums (cut : Int) (p : List UInt8) : clean cut.toNat (sums cut p) = true := by
  refine clean_true fun k x hk hx => ?_
  have hs := Sha.sha_length p
  have e : (sums cut p).st = (Sha.sha p).take (Sha.cutK cut) ++ List.replicate (32 - Sha.cutK cut) 0 := rfl
  have hl : k < 32 := by have := (List.getElem?_eq_some_iff.1 hx).1; rw [(sums cut p).h] at this; exact this
  have hc : Sha.cutK cut ≤ k := by unfold Sha.cutK; omega
  rw [e, List.getElem?_append_right (by rw [List.length_take]; omega)] at hx
  rw [List.getElem?_replicate] at hx
  split at hx
  · injection hx with hx; exact hx.symm
  · cases hx
theorem chk_made {d : List UInt8} {size cut : Int} (h : makeE d.length size cut = 0) : chkE size cut d.length (blocks size.toNat cut d (cnt d.length size.toNat)) = 0 := by
  have hc := makeE_cases d.length size cut
  obtain ⟨a1, a2, a3, a4, a5⟩ : 1 ≤ size ∧ size ≤ 4096 ∧ 0 ≤ cut ∧ cut ≤ 32 ∧ countI d.length size ≤ 4096 := by
    rcases hc with h | h | h | h | h | h <;> omega
  have hn : ¬ (size < 1 ∨ 4096 < size ∨ cut < 0 ∨ 32 < cut ∨ (d.length : Int) < 0) := by omega
  have hcnt : countI d.length size = (cnt d.length size.toNat : Int) := by
    have := countI_nat d.length size.toNat (by omega)
    rw [Int.toNat_of_nonneg (by omega)] at this
    exact this
  unfold chkE
  rw [if_neg hn, if_neg (by omega), blocks_length, hcnt, if_neg (by simp), if_pos]
  rw [List.all_eq_true]
  intro b hb
  unfold blocks at hb
  obtain ⟨i, _, rfl⟩ := List.mem_map.1 hb
  exact clean_sums _ _

theorem makeS_length (d : List UInt8) (size cut : Int) : (makeS d size cut).bs.length ≤ 1000000 := by
  have hc := makeE_cases d.length size cut
  unfold makeS
  split
  · rename_i h
    have hcnt : countI d.length size = (cnt d.length size.toNat : Int) := by
      have := countI_nat d.length size.toNat (by omega)
      rw [Int.toNat_of_nonneg (by omega)] at this
      exact this
    simp only [blocks_length]
    omega
  · exact Nat.zero_le _
def d3 : List UInt8 := [97, 98, 99]
theorem find3 : findL (hit 2 3 ⟨weak [99], Sha.cut 4 [99], Sha.cut_length 4 [99], weak_lt [99]⟩ 1) 0 (blocks 2 4 d3 2) = some 1 := by
  have e : blocks 2 4 d3 2 = [sums 4 (piece 2 d3 0), sums 4 [99]] := rfl
  rw [e, findL, if_neg (by unfold hit; simp), findL, if_pos (by unfold hit sums; simp)]

theorem rdB_lit (W : World) (xs : List UInt8) (e : Nat) (fz : Nat × Nat) (hm : xs.length ≤ maxLen) : RdB (W.alloc (.cells (xs.map vu8).toArray e fz)) (.slice (some ⟨W.heap.size, 0, none⟩) xs.length xs.length) xs := by
  refine ⟨_, xs.length, rfl, Nat.le_refl _, hm, fun _ => ⟨_, rfl, fun i u hu => ?_⟩⟩
  rw [u8_cells] at hu
  rw [add_plain]
  have := (List.getElem?_eq_some_iff.1 hu).1
  simpa [World.cell?, World.alloc, -World.alloc_eq] using hu
theorem make3 (v : Value) (w : World) (hv : RdB w v d3) : Calls Tryd.prog 27 #[v, .int .i64 2, .int .i64 4] w fun e w' =>
    ∃ A c, e = .returned (.tuple #[.agg (sgC 2 4 3 (.slice A 2 c)), .int .i64 0]) ∧ OwS w' w.heap.size (.slice A 2 c) (blocks 2 4 d3 2) ∧ Fr No w w' := by
  refine (make_ok v d3 2 4 w hv (by decide) (by decide) (by decide)).mono ?_
  rintro e w' ⟨sl, rfl, h3, h4⟩
  have h5 : OwS w' w.heap.size sl (blocks 2 4 d3 2) := h3
  obtain ⟨A, c, rfl⟩ := h5.1.form
  exact ⟨A, c, rfl, h5, h4⟩
theorem span3 (A : Option Addr) (c : Nat) (w : World) : Calls Tryd.prog 29 #[.agg (sgC 2 4 3 (.slice A 2 c)), .int .i64 1] w fun e w' => e = .returned (.tuple #[.int .i64 2, .int .i64 1]) ∧ Fr No w w' :=
  span_calls 2 1 3 4 A 2 c w (by decide) (by decide) (by decide) (by decide)
theorem found3 (p sl vb : Value) (n : Nat) (w : World) (hT : Tbl w p n 2 4 3 sl (blocks 2 4 d3 2)) (hv : Rd (fBk .u32) w sl (blocks 2 4 d3 2)) (hb : RdB w vb [99]) : Calls Tryd.prog 31 #[p, .int .u32 ((weak [99] : Nat) : Int), vb] w fun e w' => e = .returned (.tuple #[.int .i64 1, .bool true]) ∧ Fr No w w' := by
  have h := find_calls p sl vb n (weak [99]) 2 3 4 (blocks 2 4 d3 2) [99] w hT hv (by rw [blocks_length]; decide) hb (by decide) (weak_lt _) (by decide) (by decide) (by rw [blocks_length]; intro i hi; omega) (by decide) (by decide)
  rw [show ([99] : List UInt8).length = 1 from rfl, find3] at h
  exact h
set_option maxHeartbeats 4000000 in
set_option maxRecDepth 100000 in
theorem sums_calls (w : World) : Calls Tryd.prog 7 #[] w fun e w' => e = .returned (.bool true) ∧ Fr No w w' := by
  have h1 := fun W : World => Lib.run_convert_bytes_const (P := Tryd.prog) W 22 5 #[.int .u8 97, .int .u8 98, .int .u8 99] 3 3 Tryd.underlying22 Tryd.underlying5
  have h2 := fun W : World => Lib.run_convert_bytes_const (P := Tryd.prog) W 22 5 #[.int .u8 99] 1 1 Tryd.underlying22 Tryd.underlying5
  go_enter Tryd.func7, Tryd.ntmps7
  go_wp2_with fail
  refine (make3 _ _ (rdB_lit w d3 _ _ (by decide))).mono ?_
  rintro e w1 ⟨A, c, rfl, hO, hf⟩
  have F1 : Aside0 (Fr No w w1) := ⟨((Fr.refl _ _).alloc _).none hf⟩
  have HO := Aside0.mk hO
  clear hf hO h1
  go_wp2_with fail
  have XS : Aside0 ((w1.alloc (.cells (sgC 2 4 3 (.slice A 2 c)) 26)).heap[w1.heap.size]? = some (.cells (sgC 2 4 3 (.slice A 2 c)) 26 (0, 0))) := ⟨heap_alloc_new w1 _⟩
  have F2 : Aside0 (Fr No w (w1.alloc (.cells (sgC 2 4 3 (.slice A 2 c)) 26))) := ⟨F1.out.alloc _⟩
  have HR : Aside0 (Rd (fBk .u32) (w1.alloc (.cells (sgC 2 4 3 (.slice A 2 c)) 26)) (.slice A 2 c) (blocks 2 4 d3 2)) := ⟨HO.out.1.rd.no ((Fr.refl _ _).alloc _)⟩
  change Calls _ _ _ (w1.alloc (.cells (sgC 2 4 3 (.slice A 2 c)) 26)) _
  generalize w1.alloc (.cells (sgC 2 4 3 (.slice A 2 c)) 26) = w2 at XS F2 HR ⊢
  have hck := check_calls 2 4 3 _ _ w2 HR.out (by decide) (by decide)
  rw [show chkE 2 4 3 (blocks 2 4 d3 2) = 0 from chk_made (d := d3) (size := 2) (cut := 4) (by decide)] at hck
  refine hck.mono ?_
  rintro e w3 ⟨rfl, hf⟩
  have F3 := Aside0.mk hf
  have LD := ld_all (P := Tryd.prog) (ty := 26) XS.out Tryd.underlying26 rfl (by kernel_rfl)
  clear hf hck
  go_wp2_with (first
    | (refine ldG (.tmp 1) 26 _ _ rfl rfl (LD _ F3.out) (by first | rfl | (go_simp; done)) ?_)
    | fail)
  refine (span3 A c w3).mono ?_
  rintro e w4 ⟨rfl, hf⟩
  have F4 : Aside0 (Fr No w2 w4) := ⟨F3.out.none hf⟩
  clear hf
  go_wp2_with (first
    | (refine ldG (.tmp 1) 26 _ _ rfl rfl (LD _ F4.out) (by first | rfl | (go_simp; done)) ?_)
    | fail)
  refine (index_calls 2 4 3 _ _ w4 (HR.out.no F4.out) (by rw [blocks_length]; decide)).mono ?_
  rintro e w5 ⟨p, rfl, hT, hf⟩
  have F5 : Aside0 (Fr No w2 w5) := ⟨F4.out.none hf⟩
  have HT := Aside0.mk hT
  clear hf hT LD
  go_wp2_with fail
  refine (Wk.of_calls _ [99] _ (rdB_lit w5 [99] _ _ (by decide)) (by decide)).mono ?_
  rintro e w6 ⟨rfl, hf⟩
  have F6 : Aside0 (Fr No w5 w6) := ⟨((Fr.refl _ _).alloc _).none hf⟩
  clear hf
  go_wp2_with fail
  refine (Wk.value_calls [99] w6).mono ?_
  rintro e w7 ⟨rfl, hf⟩
  have F7 : Aside0 (Fr No w5 w7) := ⟨F6.out.none hf⟩
  clear hf
  go_wp2_with fail
  have F8 : Aside0 (Fr No w5 (w7.alloc (.cells #[.int .u8 99] 5 (1, 2)))) := ⟨F7.out.alloc _⟩
  refine (found3 p (.slice A 2 c) _ _ _ (HT.out.no F8.out) ((HR.out.no F5.out).no F8.out) (rdB_lit w7 [99] _ _ (by decide))).mono ?_
  rintro e w8 ⟨rfl, hf⟩
  have F9 : Aside0 (Fr No w2 w8) := ⟨(F5.out.none F8.out).none hf⟩
  have c2 : w8.cell? ⟨w1.heap.size, 2, Option.none⟩ = some (.int .i64 3) := by rw [blk_cell (F9.out.heap XS.out id)]; rfl
  clear hf h2
  go_wp2
  go_ret
  exact ⟨rfl, F2.out.none F9.out⟩
end Go.Proofs.YtanbddaecojijaaDoor.L6
