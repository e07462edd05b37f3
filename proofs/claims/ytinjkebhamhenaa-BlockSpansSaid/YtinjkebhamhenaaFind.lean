/- Table.Find: walked. -/
import Derived.Test.YtinjkebhamhenaaSpecFind
import Derived.Test.YtinjkebhamhenaaBlkT
import Derived.Test.YtinjkebhamhenaaShaC
set_option linter.unusedVariables false
set_option linter.unusedSimpArgs false
namespace Go.Proofs.Ytinjkebhamhenaa.Blk
open Go.RowKit Go.IntWalk Go.Proofs.YtinjkebhamhenaaW.PrintWords Go.Proofs.Ytinjkebhamhenaa.B Go.Proofs.Ytinjkebhamhenaa.PB Go.Proofs.Ytinjkebhamhenaa.SWeak Go.Proofs.Ytinjkebhamhenaa.Bk Go.Proofs.Ytinjkebhamhenaa.SBlk
attribute [local go_sem] B.max2_int B.min2_int B.max_two B.min_two

set_option maxHeartbeats 4000000 in
set_option maxRecDepth 100000 in
theorem find_calls (p sl vb : Value) (n m s L : Nat) (cut : Int) (bs : List BK) (b : List UInt8) (w : World) (hT : Tbl w p n s cut L sl bs) (hv : Rd (fBk .u32) w sl bs) (hn : bs.length ≤ 100000) (hb : RdB w vb b) (hbl : b.length ≤ 100000000) (hm : m < 4294967296) (hs : s ≤ 4096) (hL : L ≤ 9223372036854775807)
    (hin : ∀ i, i < bs.length → i * s < L) (h1 : -9223372036854775808 ≤ cut) (h2 : cut ≤ 9223372036854775807) : Calls Try.prog 15 #[p, .int .u32 (m : Int), vb] w fun e w' =>
    e = .returned (.tuple #[.int .i64 (fnd (findL (hit s L ⟨m, Sha.cut cut b, Sha.cut_length cut b, hm⟩ b.length) 0 bs)).1, .bool (fnd (findL (hit s L ⟨m, Sha.cut cut b, Sha.cut_length cut b, hm⟩ b.length) 0 bs)).2]) ∧ Fr No w w' := by
  obtain ⟨mb, hnm, rfl, hT1, hG⟩ := hT
  obtain ⟨A, c, rfl, hAc, hcm, _⟩ := id hv
  obtain ⟨A', c', rfl, hAc', hcm', _⟩ := id hb
  obtain ⟨t, ht⟩ : ∃ t : BK, (⟨m, Sha.cut cut b, Sha.cut_length cut b, hm⟩ : BK) = t := ⟨_, rfl⟩
  have htw : t.w = m := by rw [← ht]
  have hts : t.st = Sha.cut cut b := by rw [← ht]
  rw [ht]
  have hfi := find_idx (hit s L t b.length) m (fun i b h => (hit_w h).trans htw) bs
  obtain ⟨r, hr⟩ : ∃ r, findL (hit s L t b.length) 0 bs = r := ⟨_, rfl⟩
  rw [hr] at hfi ⊢
  obtain ⟨v, hrun, hOw, _, _⟩ := hG.at_ m hm (by omega)
  have hidx := idxL_mem m bs 0
  have hile := idxL_le m bs 0
  obtain ⟨zs, hzs⟩ : ∃ zs, idx bs m = zs := ⟨_, rfl⟩
  unfold idx at hzs
  rw [hzs] at hidx hile
  change (idxL 0 bs m).find? _ = _ at hfi
  change Ow fI 3 w v (idxL 0 bs m) at hOw
  rw [hzs] at hfi hOw
  obtain ⟨A2, c2, rfl⟩ := hOw.form
  have hRz : Rd fI w (.slice A2 zs.length c2) zs := hOw.rd
  have HZ := Aside0.mk hRz; have HI := Aside0.mk hidx; have HF0 := Aside0.mk hfi; have HS := Aside0.mk hts; have HW := Aside0.mk htw; have HV := Aside0.mk hv; have HB := Aside0.mk hb; have HIN := Aside0.mk hin; have HT := Aside0.mk hT1
  have HRN := Aside0.mk hrun
  have c4 : w.cell? ⟨mb + 1, 4, Option.none⟩ = some (.map (some mb)) := by rw [blk_cell hT1]; rfl
  have c1 : w.cell? ⟨mb + 1, 1, Option.none⟩ = some (.int .i64 cut) := by rw [blk_cell hT1]; rfl
  clear hT1 hv hb ht htw hts hfi hr hrun hOw hidx hzs hRz hin hG
  go_enter Try.func15, Try.ntmps15
  by_cases hz0 : zs.length = 0
  · have hz0I : ((zs.length : Int) == 0) = true := by rw [hz0]; rfl
    have e : r = none := by
      obtain rfl := List.length_eq_zero_iff.1 hz0
      have h9 := HF0.out
      cases r with
      | none => rfl
      | some i => cases h9
    subst e
    go_wp2_with (refine lsX rfl (ex_lookup HRN.out rfl rfl rfl) ?_)
    (try simp only [Exit.inBlock, Exit.then]); refine bodyPost_ret (results_list (rs := [.tmp 6, .tmp 7]) rfl (by simp) (.tmp (.tmp .nil))) rfl ?_
    exact ⟨rfl, Fr.refl _ _⟩
  · have hz0I : ((zs.length : Int) == 0) = false := by rw [beq_eq_false_iff_ne]; omega
    go_wp2_with (first | (refine lsX rfl (ex_lookup HRN.out rfl rfl rfl) ?_) | fail)
    have hc := Sha.cut_calls cut _ b w HB.out hbl h1 h2
    rw [← HS.out] at hc
    refine hc.mono ?_
    rintro e w1 ⟨rfl, hf⟩
    have F1 := Aside0.mk hf
    have HSZ : Aside0 ((t.st.map vu8).toArray.size = 32) := ⟨by simp [t.h]⟩
    clear hf hc c4 c1
    go_wp2_with (refine PB.stRow (.tmp 9) (.tmp 29) 53 w1.heap.size 53 _ (t.st.map vu8).toArray rfl rfl rfl rfl (heap_alloc_new w1 _) (by rw [HSZ.out]; kernel_rfl) (by rw [HSZ.out]; rfl) (by rw [Array.all_eq_true]; intro i hi; simp [Value.oneCell']) ?_; rw [World.setRow_alloc_new])
    have X9 : Aside0 ((w1.alloc (.cells (t.st.map vu8).toArray 53)).heap[w1.heap.size]? = some (.cells (t.st.map vu8).toArray 53 (0, 0))) := ⟨heap_alloc_new w1 _⟩
    have F2 : Aside0 (Fr No w (w1.alloc (.cells (t.st.map vu8).toArray 53))) := ⟨F1.out.alloc _⟩
    change Code.wp _ _ _ _ (w1.alloc (.cells (t.st.map vu8).toArray 53))
    generalize w1.alloc (.cells (t.st.map vu8).toArray 53) = w2 at X9 F2 ⊢
    go_loopw [32] (fun v32 wr => ∃ j : Nat, v32 = .int .i64 (j : Int) ∧ j ≤ zs.length ∧ Aside0 (∀ (k : Nat) (y : Int), k < j → zs[k]? = some y → hitZ (hit s L t b.length) bs y = false) ∧ Aside0 (Fr No w2 wr)) (fun v32 _ => zs.length - (intOf v32).toNat)
    case atStart => exact ⟨0, rfl, Nat.zero_le _, ⟨fun k y hk => absurd hk (by omega)⟩, ⟨Fr.refl _ _⟩⟩
    case round =>
      obtain ⟨j, rfl, hj, HH, HF⟩ := hrel
      by_cases hjl : j < zs.length
      · have hjI : (j : Int) < (zs.length : Int) := by omega
        obtain ⟨z, hz⟩ : ∃ z, zs[j]? = some z := ⟨_, List.getElem?_eq_getElem hjl⟩
        obtain ⟨i, hzi, b', hb', hbw⟩ := HI.out z (List.mem_of_getElem? hz)
        rw [Nat.zero_add] at hzi
        subst hzi
        have hil := (List.getElem?_eq_some_iff.1 hb').1
        have hiL := HIN.out i hil
        obtain ⟨q, hq⟩ : ∃ q, i * s = q := ⟨_, rfl⟩
        obtain ⟨k, hk⟩ : ∃ k, min s (L - q) = k := ⟨_, rfl⟩
        have hsp := fun W => span_calls s i L cut A bs.length c W hil hL hs hiL
        rw [hq] at hsp hiL
        rw [hk] at hsp
        have HH2 : Aside0 (hitZ (hit s L t b.length) bs (i : Int) = (decide (k = b.length) && decide (b' = t))) := ⟨by unfold hitZ hit; rw [Int.toNat_natCast, hb']; simp only; rw [hq, hk]⟩
        have FW : Aside0 (Fr No w wr) := ⟨F2.out.none HF.out⟩
        obtain ⟨ad2, hA2, hcz⟩ := rd_elem HZ.out j _ hz
        obtain ⟨ad, hA, hcv⟩ := rd_at HV.out i b' hb'
        have hz1 : wr.cell? (ad2.add j) = some (.int .i64 (i : Int)) := by
          have := (hcz.no FW.out) 0 (.int .i64 (i : Int)) rfl
          rw [add_add, show j * fI.sz + 0 = j from by rw [show fI.sz = 1 from rfl]; omega] at this
          exact this
        have LS : ∀ x, Fr No wr x → (loadVar 26 ⟨mb + 1, 0, none⟩).run Try.prog x = .ok (.agg (sgC s cut L (.slice A bs.length c))) x := fun x hx => run_loadVar_cells (cs := [.int .i64 s, .int .i64 cut, .int .i64 L, .slice A bs.length c]) (Cv.take (ds := [.map (some mb)]) (Cv.of_block (hx.heap (FW.out.heap HT.out id) id) 0)) Try.underlying26 rfl (by kernel_rfl)
        have HA := Aside0.mk hA; have HA2 := Aside0.mk hA2
        have HZJ := Aside0.mk hz; have HSP := Aside0.mk hsp; have HCV := Aside0.mk hcv
        clear hb' hz hA hA2 hcz hcv hsp hk hq
        go_wp2_with (first
          | (refine ixI (.tmp 30) (.tmp 32) ad2 A2 zs.length c2 j rfl rfl rfl HA2.out rfl hjl ?_)
          | (refine ldG (.tmp 39) 26 _ _ rfl rfl (LS _ (Fr.refl _ _)) (by first | rfl | (go_simp; done)) ?_)
          | fail)
        refine (HSP.out wr).mono ?_
        rintro e w4 ⟨rfl, hf⟩
        have F4 := Aside0.mk hf
        have FW4 : Aside0 (Fr No w w4) := ⟨FW.out.none hf⟩
        have FX : Aside0 (Fr No w w4.drew) := ⟨FW4.out.drew⟩
        clear hf LS hz1
        have LB : ∀ x, Fr No w x → (loadVar 55 (ad.add (i * 33))).run Try.prog x = .ok (.agg (bkC .u32 b')) x := ld_elem HCV.out Try.underlying55 rfl (by rw [bkL_length]; kernel_rfl)
        have c3 : w.cell? ⟨mb + 1, 3, Option.none⟩ = some (.slice A bs.length c) := by rw [blk_cell HT.out]; rfl
        have h9w : Aside0 (w4.heap[w1.heap.size]? = some (.cells (t.st.map vu8).toArray 53 (0, 0))) := ⟨F4.out.heap (HF.out.heap X9.out id) id⟩
        have L9 : ∀ x, Fr No w4 x → (loadVar 53 ⟨w1.heap.size, 0, none⟩).run Try.prog x = .ok (Arr.av t.st) x := ld_all (P := Try.prog) (ty := 53) h9w.out Try.underlying53 rfl (by rw [HSZ.out]; kernel_rfl)
        have BP : ∀ W : World, (Instr.build 55 #[(0, .int .u32 (m : Int)), (1, Arr.av t.st)]).run Try.prog W = .ok (.agg (bkC .u32 t)) W := fun W => by rw [← HW.out]; exact buildP t W
        have qn := fun W => eqlP b' t W
        have qg := fun x y W => run_eqGuard_agg (P := Try.prog) W .eql 55 x y (bkC .u32 b') (bkC .u32 t) (by kernel_rfl)
        by_cases hkb : k = b.length
        · have hkI : ((k : Int) == (b.length : Int)) = true := by rw [hkb]; simp
          obtain ⟨B, hB⟩ : ∃ B : Bool, decide (b' = t) = B := ⟨_, rfl⟩
          have HH3 := HH2.out
          rw [decide_eq_true hkb, Bool.true_and, hB] at HH3
          rw [hB] at qn
          have HH4 := Aside0.mk HH3
          clear HH3 hB
          subst hkb
          go_wp2
          refine Rg.start (fun _ x => Fr No w4 x) (by kernel_rfl) (by kernel_rfl) [] [] (by kernel_rfl) (.q 0 0 (.q 1 0 (.q 2 0 (.q 3 0 (.q 4 0 (.q 5 0 (.q 6 0 (.q 7 0 (.q 8 0 (.q 9 0 (.q 10 0 (.q 11 0 (.q 12 0 (.q 13 0 (.q 14 0 (.q 15 0 (.q 16 0 (.q 17 0 (.done))))))))))))))))))) (by kernel_rfl) ?_ ?_
          · exact fun _ => (Fr.refl _ _).drew
          repeat (first
            | (refine Rg.q (o := ?_) (v := ?_) ?_ ?_ ?_ ?_ ?_
               rotate_left 2
               · (simp only [List.getElem?_toArray, List.getElem?_cons_succ, List.getElem?_cons_zero]; rfl)
               · exact fun _ _ _ h => h
               · first | rfl | (go_simp; done)
               · (intro x_ hx; (try dsimp only at hx); first | (first|(refine (ex_ix 24 55 33 (.tmp 54) (.tmp 55) ad A bs.length c i _ Try.underlying24 (by kernel_rfl) rfl rfl HA.out rfl rfl hil).trans ?_; with_reducible rfl)|(refine (ex_build (BP _) rfl (by kernel_rfl)).trans ?_; with_reducible rfl)) | (first|(refine (ex_ld rfl rfl (LB _ (FW4.out.none hx))).trans ?_; with_reducible rfl)|(refine (ex_ld rfl rfl (L9 _ hx)).trans ?_; with_reducible rfl)) | (have q1 := (FW4.out.none hx).cell c3 id; (try clear hx); go_simp; (try rw [if_neg (by omega)]); (try rw [if_pos (by omega)]); (try go_simp); try with_reducible rfl))
               try simp only [Act.put, List.setIfInBounds_toArray, List.set_cons_zero, List.set_cons_succ])
            | (refine Rg.skip (o := ?_) ?_ ?_ ?_ ?_
               rotate_left 1
               · (simp only [List.getElem?_toArray, List.getElem?_cons_succ, List.getElem?_cons_zero]; rfl)
               · exact fun _ _ _ h => h
               · first | rfl | (go_simp; done)
               try simp only [Act.put, List.setIfInBounds_toArray, List.set_cons_zero, List.set_cons_succ]))
          refine Rg.done ?_
          go_simp
          clear LB L9 BP qn qg c3
          cases B
          · go_wp2
            go_roundw
            case rel => exact ⟨j + 1, by go_num, by omega, ⟨fun k y hk hy => by
              by_cases hkj : k = j
              · subst hkj; rw [HZJ.out] at hy; injection hy with hy; subst hy; exact HH4.out
              · exact HH.out k y (by omega) hy⟩, ⟨HF.out.none (F4.out.drew)⟩⟩
            case measure => simp [intOf]; omega
          · have e : r = some i := by
              have h9 := HF0.out
              rw [find_some HZJ.out HH4.out HH.out] at h9
              cases r with
              | none => cases h9
              | some i' => simp only [Option.map_some, Option.some.injEq] at h9; rw [Int.ofNat_inj.1 h9]
            subst e
            go_wp2
            (try simp only [Exit.inBlock, Exit.then]); refine bodyPost_ret (results_list (rs := [.tmp 6, .tmp 7]) rfl (by simp) (.tmp (.tmp .nil))) rfl ?_
            exact ⟨rfl, FX.out⟩
        · have hkI : ((k : Int) == (b.length : Int)) = false := by rw [beq_eq_false_iff_ne]; omega
          have HH4 : Aside0 (hitZ (hit s L t b.length) bs (i : Int) = false) := ⟨by rw [HH2.out, decide_eq_false hkb]; rfl⟩
          go_wp2
          refine Rg.start (fun _ x => Fr No w4 x) (by kernel_rfl) (by kernel_rfl) [] [] (by kernel_rfl) (.q 0 0 (.q 1 0 (.q 2 0 (.q 3 0 (.q 4 0 (.q 5 0 (.q 6 0 (.q 7 0 (.q 8 0 (.q 9 0 (.q 10 0 (.q 11 0 (.q 12 0 (.q 13 0 (.q 14 0 (.q 15 0 (.q 16 0 (.q 17 0 (.done))))))))))))))))))) (by kernel_rfl) ?_ ?_
          · exact fun _ => (Fr.refl _ _).drew
          repeat (first
            | (refine Rg.q (o := ?_) (v := ?_) ?_ ?_ ?_ ?_ ?_
               rotate_left 2
               · (simp only [List.getElem?_toArray, List.getElem?_cons_succ, List.getElem?_cons_zero]; rfl)
               · exact fun _ _ _ h => h
               · first | rfl | (go_simp; done)
               · (intro x_ hx; (try dsimp only at hx); first | (first|(refine (ex_ix 24 55 33 (.tmp 54) (.tmp 55) ad A bs.length c i _ Try.underlying24 (by kernel_rfl) rfl rfl HA.out rfl rfl hil).trans ?_; with_reducible rfl)|(refine (ex_build (BP _) rfl (by kernel_rfl)).trans ?_; with_reducible rfl)) | (first|(refine (ex_ld rfl rfl (LB _ (FW4.out.none hx))).trans ?_; with_reducible rfl)|(refine (ex_ld rfl rfl (L9 _ hx)).trans ?_; with_reducible rfl)) | (have q1 := (FW4.out.none hx).cell c3 id; (try clear hx); go_simp; (try rw [if_neg (by omega)]); (try rw [if_pos (by omega)]); (try go_simp); try with_reducible rfl))
               try simp only [Act.put, List.setIfInBounds_toArray, List.set_cons_zero, List.set_cons_succ])
            | (refine Rg.skip (o := ?_) ?_ ?_ ?_ ?_
               rotate_left 1
               · (simp only [List.getElem?_toArray, List.getElem?_cons_succ, List.getElem?_cons_zero]; rfl)
               · exact fun _ _ _ h => h
               · first | rfl | (go_simp; done)
               try simp only [Act.put, List.setIfInBounds_toArray, List.set_cons_zero, List.set_cons_succ]))
          refine Rg.done ?_
          go_simp
          clear LB L9 BP qn qg c3
          go_wp2
          go_roundw
          case rel => exact ⟨j + 1, by go_num, by omega, ⟨fun k y hk hy => by
            by_cases hkj : k = j
            · subst hkj; rw [HZJ.out] at hy; injection hy with hy; subst hy; exact HH4.out
            · exact HH.out k y (by omega) hy⟩, ⟨HF.out.none (F4.out.drew)⟩⟩
          case measure => simp [intOf]; omega
      · have hjI : ¬ (j : Int) < (zs.length : Int) := by omega
        have e : r = none := by
          have h9 := HF0.out
          rw [find_none (fun k y hy => HH.out k y (by have := (List.getElem?_eq_some_iff.1 hy).1; omega) hy)] at h9
          cases r with
          | none => rfl
          | some i => cases h9
        subst e
        go_wp2
        (try simp only [Exit.inBlock, Exit.then]); refine bodyPost_ret (results_list (rs := [.tmp 6, .tmp 7]) rfl (by simp) (.tmp (.tmp .nil))) rfl ?_
        exact ⟨rfl, F2.out.none HF.out⟩
end Go.Proofs.Ytinjkebhamhenaa.Blk
