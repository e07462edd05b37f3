/- The document's Bytes of sums of blocks: walked. -/
import Derived.Test.YtinjkebhamhenaaRef6C
import Derived.Test.YtinjkebhamhenaaRef6F
import Derived.Test.YtinjkebhamhenaaCodeN
set_option linter.unusedVariables false
set_option linter.unusedSimpArgs false
namespace Go.Proofs.Ytinjkebhamhenaa.Ref6
open Go.RowKit Go.IntWalk Go.Proofs.YtinjkebhamhenaaW.PrintWords Go.Proofs.Ytinjkebhamhenaa.B Go.Proofs.Ytinjkebhamhenaa.PB Go.Proofs.Ytinjkebhamhenaa.SWeak Go.Proofs.Ytinjkebhamhenaa.Bk Go.Proofs.Ytinjkebhamhenaa.SBlk Go.Proofs.Ytinjkebhamhenaa.Blk Go.Proofs.Ytinjkebhamhenaa.SCode

set_option maxHeartbeats 4000000 in
set_option maxRecDepth 100000 in
theorem bytes_bad (size cut len : Int) (sl : Value) (bs : List BK) (w : World) (hv : Rd (fBk .i64) w sl bs) (hsz : size ≤ 9223372036854775807) (hln : len ≤ 9223372036854775807) (hE : chkE size cut len bs ≠ 0) :
    Calls Try.prog 24 #[.agg (sgC size cut len sl)] w fun e w' => e = .returned (.tuple #[.string (bstr []), .int .i64 (chkE size cut len bs)]) ∧ Fr No w w' := by
  obtain ⟨A, c, rfl, hAc, hm, _⟩ := id hv
  obtain ⟨E, hEE⟩ : ∃ E, chkE size cut len bs = E := ⟨_, rfl⟩
  have hck := fun W hW => check_calls size cut len (.slice A bs.length c) bs W hW hsz hln
  rw [hEE] at hE hck ⊢
  have hE0 : (E == 0) = false := by rw [beq_eq_false_iff_ne]; exact hE
  have HV := Aside0.mk hv; have HCK := Aside0.mk hck
  clear hv hck hEE
  go_enter Try.func24, Try.ntmps24
  go_upto_region 1 with fail
  have hb := heap_alloc_new w (.cells (sgC size cut len (.slice A bs.length c)) 32)
  have F1 : Aside0 (Fr No w (w.alloc (.cells (sgC size cut len (.slice A bs.length c)) 32))) := ⟨(Fr.refl _ _).alloc _⟩
  change Code.wp _ _ _ _ (w.alloc (.cells (sgC size cut len (.slice A bs.length c)) 32))
  generalize w.alloc (.cells (sgC size cut len (.slice A bs.length c)) 32) = w1 at hb F1 ⊢
  have LD := ld_all (P := Try.prog) (ty := 32) hb Try.underlying32 rfl (by kernel_rfl)
  go_wp2_with (first
    | (refine ldG (.tmp 1) 32 _ _ rfl rfl (LD _ (Fr.refl _ _)) (by first | rfl | (go_simp; done)) ?_)
    | fail)
  refine (HCK.out w1 (HV.out.no F1.out)).mono ?_
  rintro e w2 ⟨rfl, hf⟩
  have F2 : Aside0 (Fr No w w2) := ⟨F1.out.none hf⟩
  clear hf LD hb
  go_wp2
  (try simp only [Exit.inBlock, Exit.then]); refine bodyPost_ret (results_list (rs := [.tmp 2, .tmp 3]) rfl (by simp) (.tmp (.tmp .nil))) rfl ?_
  exact ⟨rfl, F2.out⟩

/-- The first bytes of a text. -/
theorem str_take (s : List UInt8) (d : Nat) (hd : d ≤ s.length) (W : World) : (Instr.slice 9 (.string (bstr s)) none (some (.int .i64 (d : Int))) none).run Try.prog W = .ok (.string (bstr (s.take d))) W := by
  rw [run_slice_string_to_if W 9 (bstr s) .i64 (d : Int) Try.underlying9, if_pos ⟨by omega, by rw [bstr_size]; omega⟩, bstr_extract, Int.toNat_natCast, List.drop_zero]

set_option maxHeartbeats 4000000 in
set_option maxRecDepth 100000 in
theorem bytes_ok (size : Int) (d : Nat) (len : Int) (sl : Value) (bs : List BK) (w : World) (hv : Rd (fBk .i64) w sl bs) (hsz : size ≤ 9223372036854775807) (hln : len ≤ 9223372036854775807) (hd : d ≤ 32) (hn : bs.length ≤ 4096) (hE : chkE size d len bs = 0) :
    Calls Try.prog 24 #[.agg (sgC size d len sl)] w fun e w' => e = .returned (.tuple #[.string (bstr (sgB size d len bs)), .int .i64 0]) ∧ Fr No w w' := by
  obtain ⟨A, c, rfl, hAc, hm, _⟩ := id hv
  have hck := fun W hW => check_calls size d len (.slice A bs.length c) bs W hW hsz hln
  rw [hE] at hck
  obtain ⟨pre, hpre⟩ : ∃ pre, (numI size ++ numI d) ++ numI len = pre := ⟨_, rfl⟩
  have hprel : pre.length ≤ 18 := by
    have h1 := numI_length size; have h2 := numI_length d; have h3 := numI_length len
    rw [← hpre]
    simp only [List.length_append]
    omega
  have hall : Aside0 (sgB size d len bs = pre ++ rowsB d bs) := ⟨by unfold sgB; rw [hpre, Int.toNat_natCast]⟩
  rw [hall.out]
  have HPRE := Aside0.mk hpre
  clear hpre hall
  have HV := Aside0.mk hv; have HCK := Aside0.mk hck
  clear hv hck hE
  go_enter Try.func24, Try.ntmps24
  go_upto_region 1 with fail
  have hb := heap_alloc_new w (.cells (sgC size d len (.slice A bs.length c)) 32)
  have F1 : Aside0 (Fr No w (w.alloc (.cells (sgC size d len (.slice A bs.length c)) 32))) := ⟨(Fr.refl _ _).alloc _⟩
  change Code.wp _ _ _ _ (w.alloc (.cells (sgC size d len (.slice A bs.length c)) 32))
  generalize w.alloc (.cells (sgC size d len (.slice A bs.length c)) 32) = w1 at hb F1 ⊢
  have LD := ld_all (P := Try.prog) (ty := 32) hb Try.underlying32 rfl (by kernel_rfl)
  go_wp2_with (first
    | (refine ldG (.tmp 1) 32 _ _ rfl rfl (LD _ (Fr.refl _ _)) (by first | rfl | (go_simp; done)) ?_)
    | fail)
  refine (HCK.out w1 (HV.out.no F1.out)).mono ?_
  rintro e w2 ⟨rfl, hf⟩
  have F2 : Aside0 (Fr No w w2) := ⟨F1.out.none hf⟩
  have HS2 : Aside0 (w2.heap[w.heap.size]? = some (.cells (sgC size d len (.slice A bs.length c)) 32 (0, 0))) := ⟨hf.heap hb id⟩
  clear hf LD hb
  have c0 : w2.cell? ⟨w.heap.size, 0, Option.none⟩ = some (.int .i64 size) := by rw [blk_cell HS2.out]; rfl
  have c1 : w2.cell? ⟨w.heap.size, 1, Option.none⟩ = some (.int .i64 d) := by rw [blk_cell HS2.out]; rfl
  have c2 : w2.cell? ⟨w.heap.size, 2, Option.none⟩ = some (.int .i64 len) := by rw [blk_cell HS2.out]; rfl
  have hl1 := numI_length size; have hl2 := numI_length (d : Int); have hl3 := numI_length len
  have hl12 : (numI size ++ numI (d : Int)).length ≤ 12 := by rw [List.length_append]; omega
  go_wp2
  refine Rg.start (fun _ x => Fr No w2 x) (by kernel_rfl) (by kernel_rfl) [2, 5, 9] [[0, 1, 2], [0, 1, 2, 3, 4, 5], [0, 1, 2, 3, 4, 5, 7, 8, 9]] (by kernel_rfl) (.q 0 0 (.q 1 0 (.q 3 1 (.q 4 1 (.q 7 2 (.q 8 2 (.e 2 1 (.e 5 2 (.q 6 3 (.e 9 3 (.q 10 3 (.q 11 3 (.done))))))))))))) (by kernel_rfl) ?_ ?_
  · exact fun _ => (Fr.refl _ _).drew
  repeat (first
    | (refine Rg.q (o := ?_) (v := ?_) ?_ ?_ ?_ ?_ ?_
       rotate_left 2
       · (simp only [List.getElem?_toArray, List.getElem?_cons_succ, List.getElem?_cons_zero]; rfl)
       · exact fun _ _ _ h => h
       · first | rfl | (go_simp; done)
       · (intro x_ hx; (try dsimp only at hx); (have q0 := hx.cell c0 id; have q1 := hx.cell c1 id; have q2 := hx.cell c2 id); go_simp; (try rw [if_neg (by omega)]); (try rw [if_pos (by omega)]); (try go_simp); try with_reducible rfl)
       try simp only [Act.put, List.setIfInBounds_toArray, List.set_cons_zero, List.set_cons_succ])
    | (refine Rg.skip (o := ?_) ?_ ?_ ?_ ?_
       rotate_left 1
       · (simp only [List.getElem?_toArray, List.getElem?_cons_succ, List.getElem?_cons_zero]; rfl)
       · exact fun _ _ _ h => h
       · first | rfl | (go_simp; done)
       try simp only [Act.put, List.setIfInBounds_toArray, List.set_cons_zero, List.set_cons_succ]))
  refine Rg.e (o := ?_) ?_ ?_
  rotate_left 1
  · (simp only [List.getElem?_toArray, List.getElem?_cons_succ, List.getElem?_cons_zero]; rfl)
  intro K hK
  go_simp
  refine (CodeN.refNum_calls size _).mono ?_
  rintro en x1 ⟨rfl, f1⟩
  have N1 : Aside0 (Fr No w2 x1) := ⟨((Fr.refl No w2).drew).none f1⟩
  clear f1
  go_simp
  refine hK.out _ _ (fun _ x => Fr No w2 x) (fun k x hk h => h) ?_ ?_
  · exact fun _ _ => N1.out
  try simp only [Act.put, List.setIfInBounds_toArray, List.set_cons_zero, List.set_cons_succ]
  repeat (first
    | (refine Rg.q (o := ?_) (v := ?_) ?_ ?_ ?_ ?_ ?_
       rotate_left 2
       · (simp only [List.getElem?_toArray, List.getElem?_cons_succ, List.getElem?_cons_zero]; rfl)
       · exact fun _ _ _ h => h
       · first | rfl | (go_simp; done)
       · (intro x_ hx; (try dsimp only at hx); (have q0 := hx.cell c0 id; have q1 := hx.cell c1 id; have q2 := hx.cell c2 id); go_simp; (try rw [if_neg (by omega)]); (try rw [if_pos (by omega)]); (try go_simp); try with_reducible rfl)
       try simp only [Act.put, List.setIfInBounds_toArray, List.set_cons_zero, List.set_cons_succ])
    | (refine Rg.skip (o := ?_) ?_ ?_ ?_ ?_
       rotate_left 1
       · (simp only [List.getElem?_toArray, List.getElem?_cons_succ, List.getElem?_cons_zero]; rfl)
       · exact fun _ _ _ h => h
       · first | rfl | (go_simp; done)
       try simp only [Act.put, List.setIfInBounds_toArray, List.set_cons_zero, List.set_cons_succ]))
  refine Rg.e (o := ?_) ?_ ?_
  rotate_left 1
  · (simp only [List.getElem?_toArray, List.getElem?_cons_succ, List.getElem?_cons_zero]; rfl)
  intro K hK
  go_simp
  refine (CodeN.refNum_calls d _).mono ?_
  rintro en x2 ⟨rfl, f1⟩
  have N2 : Aside0 (Fr No w2 x2) := ⟨N1.out.none f1⟩
  clear f1
  go_simp
  refine hK.out _ _ (fun _ x => Fr No w2 x) (fun k x hk h => h) ?_ ?_
  · exact fun _ _ => N2.out
  try simp only [Act.put, List.setIfInBounds_toArray, List.set_cons_zero, List.set_cons_succ]
  repeat (first
    | (refine Rg.q (o := ?_) (v := ?_) ?_ ?_ ?_ ?_ ?_
       rotate_left 2
       · (simp only [List.getElem?_toArray, List.getElem?_cons_succ, List.getElem?_cons_zero]; rfl)
       · exact fun _ _ _ h => h
       · first | rfl | (go_simp; done)
       · (intro x_ hx; (try dsimp only at hx); (have q0 := hx.cell c0 id; have q1 := hx.cell c1 id; have q2 := hx.cell c2 id); go_simp; (try rw [if_neg (by omega)]); (try rw [if_pos (by omega)]); (try go_simp); try with_reducible rfl)
       try simp only [Act.put, List.setIfInBounds_toArray, List.set_cons_zero, List.set_cons_succ])
    | (refine Rg.skip (o := ?_) ?_ ?_ ?_ ?_
       rotate_left 1
       · (simp only [List.getElem?_toArray, List.getElem?_cons_succ, List.getElem?_cons_zero]; rfl)
       · exact fun _ _ _ h => h
       · first | rfl | (go_simp; done)
       try simp only [Act.put, List.setIfInBounds_toArray, List.set_cons_zero, List.set_cons_succ]))
  refine Rg.e (o := ?_) ?_ ?_
  rotate_left 1
  · (simp only [List.getElem?_toArray, List.getElem?_cons_succ, List.getElem?_cons_zero]; rfl)
  intro K hK
  go_simp
  refine (CodeN.refNum_calls len _).mono ?_
  rintro en x3 ⟨rfl, f1⟩
  have N3 : Aside0 (Fr No w2 x3) := ⟨N2.out.none f1⟩
  clear f1
  go_simp
  refine hK.out _ _ (fun _ x => Fr No w2 x) (fun k x hk h => h) ?_ ?_
  · exact fun _ _ => N3.out
  try simp only [Act.put, List.setIfInBounds_toArray, List.set_cons_zero, List.set_cons_succ]
  repeat (first
    | (refine Rg.q (o := ?_) (v := ?_) ?_ ?_ ?_ ?_ ?_
       rotate_left 2
       · (simp only [List.getElem?_toArray, List.getElem?_cons_succ, List.getElem?_cons_zero]; rfl)
       · exact fun _ _ _ h => h
       · first | rfl | (go_simp; done)
       · (intro x_ hx; (try dsimp only at hx); (have q0 := hx.cell c0 id; have q1 := hx.cell c1 id; have q2 := hx.cell c2 id); go_simp; (try rw [if_neg (by omega)]); (try rw [if_pos (by omega)]); (try go_simp); try with_reducible rfl)
       try simp only [Act.put, List.setIfInBounds_toArray, List.set_cons_zero, List.set_cons_succ])
    | (refine Rg.skip (o := ?_) ?_ ?_ ?_ ?_
       rotate_left 1
       · (simp only [List.getElem?_toArray, List.getElem?_cons_succ, List.getElem?_cons_zero]; rfl)
       · exact fun _ _ _ h => h
       · first | rfl | (go_simp; done)
       try simp only [Act.put, List.setIfInBounds_toArray, List.set_cons_zero, List.set_cons_succ]))
  refine Rg.done ?_
  go_simp
  rw [show numI size ++ (numI (d : Int) ++ numI len) = pre from by rw [← List.append_assoc]; exact HPRE.out]
  clear c0 c1 c2
  go_wp2
  go_loopw [5, 6] (fun v5 v6 wr => ∃ i : Nat, v6 = .int .i64 (i : Int) ∧ v5 = .string (bstr (pre ++ rowsB d (bs.take i))) ∧ i ≤ bs.length ∧ Aside0 (Fr No w2 wr)) (fun _ v6 _ => bs.length - (intOf v6).toNat)
  case atStart => exact ⟨0, rfl, by simp [rowsB], Nat.zero_le _, N3⟩
  case round =>
    obtain ⟨i, rfl, rfl, hi, HF⟩ := hrel
    have c3 : wr.cell? ⟨w.heap.size, 3, Option.none⟩ = some (.slice A bs.length c) := by rw [blk_cell (HF.out.heap HS2.out id)]; rfl
    by_cases hil : i < bs.length
    · have hiI : (i : Int) < (bs.length : Int) := by omega
      obtain ⟨b, hb⟩ : ∃ b, bs[i]? = some b := ⟨_, List.getElem?_eq_getElem hil⟩
      obtain ⟨ad, hA, hcv⟩ := rd_at HV.out i b hb
      have hcw := (hcv.no F2.out).no HF.out
      have c1 : wr.cell? ⟨w.heap.size, 1, Option.none⟩ = some (.int .i64 d) := by rw [blk_cell (HF.out.heap HS2.out id)]; rfl
      have y0 : wr.cell? (ad.add (i * 33)) = some (.int .i64 (b.w : Int)) := by
        have := hcw 0 (.int .i64 (b.w : Int)) rfl
        rw [add_add, Nat.add_zero] at this
        exact this
      have L1 : ∀ x, Fr No wr x → (loadVar 53 ⟨(ad.add (i * 33)).block, (ad.add (i * 33)).off + 1, none⟩).run Try.prog x = .ok (Arr.av b.st) x := fun x hx => by
        rw [ad1]
        have hc : Cv x (ad.add (i * 33 + 1)) (b.st.map vu8) := fun j v hj => by
          have := (hcw.no hx) (j + 1) v (by simp only [bkL, List.getElem?_cons_succ]; exact hj)
          rw [add_add] at this ⊢
          rw [show i * 33 + 1 + j = i * 33 + (j + 1) by omega]
          exact this
        exact run_loadVar_cells hc Try.underlying53 rfl (by rw [List.length_map, b.h]; kernel_rfl)
      have HA := Aside0.mk hA
      have HSN : Aside0 (pre ++ rowsB d (bs.take (i + 1)) = (pre ++ rowsB d (bs.take i)) ++ (numI (b.w : Int) ++ b.st.take d)) := ⟨by
        rw [List.take_add_one, hb]
        show pre ++ rowsB d (bs.take i ++ [b]) = _
        rw [rowsB_snoc]
        simp only [List.append_assoc]⟩
      have hlr : (pre ++ rowsB d (bs.take i)).length ≤ 200000 := by
        have h1 := rowsB_length_le d (bs.take i)
        rw [List.length_take] at h1
        rw [List.length_append]
        omega
      have hlt : (b.st.take d).length = d := by rw [List.length_take, b.h]; omega
      have hln := numI_length (b.w : Int)
      have hl12 : (numI (b.w : Int) ++ b.st.take d).length ≤ 40 := by rw [List.length_append]; omega
      have hst := str_take b.st d (by rw [b.h]; omega)
      obtain ⟨ys, hys⟩ : ∃ ys, pre ++ rowsB d (bs.take i) = ys := ⟨_, rfl⟩
      rw [hys] at hlr HSN ⊢
      clear hb hA hcv hcw hys
      go_wp2
      refine Rg.start (fun _ x => Fr No wr x) (by kernel_rfl) (by kernel_rfl) [7, 14] [[3, 1, 2, 4, 5, 6, 7], [3, 1, 2, 4, 5, 6, 7, 10, 8, 9, 11, 12, 13, 14]] (by kernel_rfl) (.q 0 2 (.q 1 0 (.q 2 0 (.q 3 0 (.q 4 0 (.q 5 0 (.q 6 0 (.q 8 1 (.q 9 1 (.q 10 1 (.q 11 1 (.q 12 1 (.q 13 1 (.q 15 2 (.q 16 2 (.e 7 1 (.e 14 2 (.q 17 2 (.q 18 2 (.q 19 2 (.q 20 2 (.done)))))))))))))))))))))) (by kernel_rfl) ?_ ?_
      · exact fun _ => (Fr.refl _ _).drew
      repeat (first
        | (refine Rg.q (o := ?_) (v := ?_) ?_ ?_ ?_ ?_ ?_
           rotate_left 2
           · (simp only [List.getElem?_toArray, List.getElem?_cons_succ, List.getElem?_cons_zero]; rfl)
           · exact fun _ _ _ h => h
           · first | rfl | (go_simp; done)
           · (intro x_ hx; (try dsimp only at hx); first | ((refine (ex_ix 30 71 33 _ _ ad A bs.length c i _ Try.underlying30 (by kernel_rfl) rfl rfl HA.out rfl rfl hil).trans ?_; with_reducible rfl)) | ((refine (ex_ld rfl rfl (L1 _ hx)).trans ?_; with_reducible rfl)) | (have q1 := hx.cell c3 id; have q2 := hx.cell y0 id; have q3 := hx.cell c1 id; (try clear hx); go_simp; (try rw [if_neg (by omega)]); (try rw [if_pos (by omega)]); (try go_simp); try with_reducible rfl))
           try simp only [Act.put, List.setIfInBounds_toArray, List.set_cons_zero, List.set_cons_succ])
        | (refine Rg.skip (o := ?_) ?_ ?_ ?_ ?_
           rotate_left 1
           · (simp only [List.getElem?_toArray, List.getElem?_cons_succ, List.getElem?_cons_zero]; rfl)
           · exact fun _ _ _ h => h
           · first | rfl | (go_simp; done)
           try simp only [Act.put, List.setIfInBounds_toArray, List.set_cons_zero, List.set_cons_succ]))
      refine Rg.e (o := ?_) ?_ ?_
      rotate_left 1
      · (simp only [List.getElem?_toArray, List.getElem?_cons_succ, List.getElem?_cons_zero]; rfl)
      intro K hK
      go_simp
      refine (CodeN.refNum_calls (b.w : Int) _).mono ?_
      rintro en x4 ⟨rfl, f1⟩
      have K1 : Aside0 (Fr No wr x4) := ⟨((Fr.refl No wr).drew).none f1⟩
      clear f1
      go_simp
      refine hK.out _ _ (fun _ x => Fr No wr x) (fun k x hk h => h) ?_ ?_
      · exact fun _ _ => K1.out
      try simp only [Act.put, List.setIfInBounds_toArray, List.set_cons_zero, List.set_cons_succ]
      repeat (first
        | (refine Rg.q (o := ?_) (v := ?_) ?_ ?_ ?_ ?_ ?_
           rotate_left 2
           · (simp only [List.getElem?_toArray, List.getElem?_cons_succ, List.getElem?_cons_zero]; rfl)
           · exact fun _ _ _ h => h
           · first | rfl | (go_simp; done)
           · (intro x_ hx; (try dsimp only at hx); first | ((refine (ex_ix 30 71 33 _ _ ad A bs.length c i _ Try.underlying30 (by kernel_rfl) rfl rfl HA.out rfl rfl hil).trans ?_; with_reducible rfl)) | ((refine (ex_ld rfl rfl (L1 _ hx)).trans ?_; with_reducible rfl)) | (have q1 := hx.cell c3 id; have q2 := hx.cell y0 id; have q3 := hx.cell c1 id; (try clear hx); go_simp; (try rw [if_neg (by omega)]); (try rw [if_pos (by omega)]); (try go_simp); try with_reducible rfl))
           try simp only [Act.put, List.setIfInBounds_toArray, List.set_cons_zero, List.set_cons_succ])
        | (refine Rg.skip (o := ?_) ?_ ?_ ?_ ?_
           rotate_left 1
           · (simp only [List.getElem?_toArray, List.getElem?_cons_succ, List.getElem?_cons_zero]; rfl)
           · exact fun _ _ _ h => h
           · first | rfl | (go_simp; done)
           try simp only [Act.put, List.setIfInBounds_toArray, List.set_cons_zero, List.set_cons_succ]))
      refine Rg.e (o := ?_) ?_ ?_
      rotate_left 1
      · (simp only [List.getElem?_toArray, List.getElem?_cons_succ, List.getElem?_cons_zero]; rfl)
      intro K hK
      go_simp
      refine (Sha.ref_bytes_calls b.st b.h _).mono ?_
      rintro en x5 ⟨rfl, f1⟩
      have K2 : Aside0 (Fr No wr x5) := ⟨K1.out.none f1⟩
      clear f1
      go_simp
      refine hK.out _ _ (fun _ x => Fr No wr x) (fun k x hk h => h) ?_ ?_
      · exact fun _ _ => K2.out
      try simp only [Act.put, List.setIfInBounds_toArray, List.set_cons_zero, List.set_cons_succ]
      repeat (first
        | (refine Rg.q (o := ?_) (v := ?_) ?_ ?_ ?_ ?_ ?_
           rotate_left 2
           · (simp only [List.getElem?_toArray, List.getElem?_cons_succ, List.getElem?_cons_zero]; rfl)
           · exact fun _ _ _ h => h
           · first | rfl | (go_simp; done)
           · (intro x_ hx; (try dsimp only at hx); first | ((refine (ex_ix 30 71 33 _ _ ad A bs.length c i _ Try.underlying30 (by kernel_rfl) rfl rfl HA.out rfl rfl hil).trans ?_; with_reducible rfl)) | ((refine (ex_ld rfl rfl (L1 _ hx)).trans ?_; with_reducible rfl)) | (have q1 := hx.cell c3 id; have q2 := hx.cell y0 id; have q3 := hx.cell c1 id; (try clear hx); go_simp; (try rw [if_neg (by omega)]); (try rw [if_pos (by omega)]); (try go_simp); try with_reducible rfl))
           try simp only [Act.put, List.setIfInBounds_toArray, List.set_cons_zero, List.set_cons_succ])
        | (refine Rg.skip (o := ?_) ?_ ?_ ?_ ?_
           rotate_left 1
           · (simp only [List.getElem?_toArray, List.getElem?_cons_succ, List.getElem?_cons_zero]; rfl)
           · exact fun _ _ _ h => h
           · first | rfl | (go_simp; done)
           try simp only [Act.put, List.setIfInBounds_toArray, List.set_cons_zero, List.set_cons_succ]))
      refine Rg.done ?_
      go_simp
      clear L1 c3 c1 y0 hst
      go_wp2
      go_roundw
      case rel => exact ⟨i + 1, by go_num, by rw [HSN.out], by omega, ⟨HF.out.none K2.out⟩⟩
      case measure => simp [intOf]; omega
    · have hiI : ¬ (i : Int) < (bs.length : Int) := by omega
      have hin : i = bs.length := by omega
      have HT : Aside0 (bs.take i = bs) := ⟨by rw [hin]; exact List.take_length⟩
      rw [HT.out]
      go_wp2
      (try simp only [Exit.inBlock, Exit.then]); refine bodyPost_ret (results_list (rs := [.tmp 2, .tmp 3]) rfl (by simp) (.tmp (.tmp .nil))) rfl ?_
      exact ⟨rfl, F2.out.none HF.out⟩
theorem bytes_calls (size cut len : Int) (sl : Value) (bs : List BK) (w : World) (hv : Rd (fBk .i64) w sl bs) (hsz : size ≤ 9223372036854775807) (hln : len ≤ 9223372036854775807) :
    Calls Try.prog 24 #[.agg (sgC size cut len sl)] w fun e w' => e = .returned (.tuple #[.string (bstr (if chkE size cut len bs = 0 then sgB size cut len bs else [])), .int .i64 (chkE size cut len bs)]) ∧ Fr No w w' := by
  by_cases hE : chkE size cut len bs = 0
  · have hc := chk_cases size cut len bs
    have hq : 0 ≤ cut ∧ cut ≤ 32 ∧ bs.length ≤ 4096 := by
      rcases hc with h | h | h | h | h | h | h | h <;> omega
    obtain ⟨d, rfl⟩ := Int.eq_ofNat_of_zero_le hq.1
    rw [if_pos hE, hE]
    exact bytes_ok size d len sl bs w hv hsz hln (by omega) hq.2.2 hE
  · rw [if_neg hE]
    exact bytes_bad size cut len sl bs w hv hsz hln hE
end Go.Proofs.Ytinjkebhamhenaa.Ref6
