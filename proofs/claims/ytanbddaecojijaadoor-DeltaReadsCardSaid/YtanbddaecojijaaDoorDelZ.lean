/- delta.Bytes: walked. The document's Bytes of tokens: walked. -/
import Derived.Test.YtanbddaecojijaaDoorTk
import Derived.Test.YtanbddaecojijaaDoorSpecTB
import Derived.Test.YtanbddaecojijaaDoorBlkB
import Derived.Test.YtanbddaecojijaaDoorCodeN
set_option linter.unusedVariables false
set_option linter.unusedSimpArgs false
namespace Go.Proofs.YtanbddaecojijaaDoor.Tk
open Go.RowKit Go.IntWalk Go.Proofs.YtanbddaecojijaaDoorW.PrintWords Go.Proofs.YtanbddaecojijaaDoor.B Go.Proofs.YtanbddaecojijaaDoor.PB Go.Proofs.YtanbddaecojijaaDoor.STell Go.Proofs.YtanbddaecojijaaDoor.STB Go.Proofs.YtanbddaecojijaaDoor.SCode Go.Proofs.YtanbddaecojijaaDoor.Blk

theorem len_step {n i k : Nat} (h : n ≤ 6 + i * 6000) (hk : k ≤ 6000) : n + k ≤ 6 + (i + 1) * 6000 := by rw [Nat.add_mul]; omega
theorem len_all {n i : Nat} (h : n ≤ 6 + i * 6000) (hi : i ≤ 8192) : n ≤ 60000000 := by
  have : i * 6000 ≤ 8192 * 6000 := Nat.mul_le_mul_right _ hi
  omega
set_option maxHeartbeats 8000000 in
set_option maxRecDepth 100000 in
theorem bytes_calls (vl : Value) (fs : List TV) (w : World) (hv : Rd fT w vl fs) (hes : ∀ e ∈ fs, RdB w e.dv e.xs) (hxs : ∀ e ∈ fs, e.xs.length ≤ 5000) (hn : fs.length ≤ 4000000000000) :
    Calls Tryd.prog 20 #[vl] w fun e w' => ∃ v, e = .returned (.tuple #[v, .int .i64 (bytesE (fs.map TV.tok))]) ∧ On w w' v (bytesB (fs.map TV.tok)) := by
  obtain ⟨A, c, rfl, hlc, hcm, _⟩ := id hv
  obtain ⟨E, hE⟩ : ∃ E, bytesE (fs.map TV.tok) = E := ⟨_, rfl⟩
  obtain ⟨X, hX⟩ : ∃ X, bytesB (fs.map TV.tok) = X := ⟨_, rfl⟩
  have HV := Aside0.mk hv; have HES := Aside0.mk hes; have HXS := Aside0.mk hxs; have HE := Aside0.mk hE; have HX := Aside0.mk hX
  rw [hE, hX]
  clear hv hes hxs hE hX hcm
  by_cases hL : 8192 < fs.length
  · have hLI : (8192 : Int) < (fs.length : Int) := by omega
    have hb := bytes_long (L := fs.map TV.tok) (by rw [List.length_map]; exact hL)
    have HE2 : Aside0 (E = 2 ∧ X = []) := ⟨HE.out.symm.trans hb.1, HX.out.symm.trans hb.2⟩
    clear hb
    go_enter Tryd.func20, Tryd.ntmps20
    go_wp2
    (try simp only [Exit.inBlock, Exit.then]); refine bodyPost_ret (results_list (rs := [.tmp 2, .tmp 3]) rfl (by simp) (.tmp (.tmp .nil))) rfl ?_
    rw [HE2.out.1, HE2.out.2]
    exact ⟨_, rfl, On.nil (Fr.refl _ _)⟩
  have hLI : ¬ (8192 : Int) < (fs.length : Int) := by omega
  have hLm : ¬ 8192 < (fs.map TV.tok).length := by rw [List.length_map]; exact hL
  have HLM := Aside0.mk hLm
  clear hLm
  go_enter Tryd.func20, Tryd.ntmps20
  go_wp2_with fail
  refine (CodeW.num_calls (.slice none 0 0) [] fs.length w (Ow.nil _ _ _) (by simp)).mono ?_
  rintro e w1 ⟨v1, rfl, o1, f1, a1, _⟩
  have N1 : Aside0 (On w w1 v1 (numI fs.length)) := ⟨(On.nil (Fr.refl No w)).step o1 f1 a1⟩
  clear o1 f1 a1
  go_wp2_with fail
  go_loopw [4, 15] (fun v4 v15 wr => ∃ (i : Nat) (out : List UInt8), v15 = .int .i64 (i : Int) ∧ i ≤ fs.length ∧ out.length ≤ 6 + i * 6000 ∧ Aside0 (out = numI fs.length ++ encZ ((fs.map TV.tok).take i)) ∧ Aside0 (On w wr v4 out) ∧ Aside0 (∀ t ∈ (fs.map TV.tok).take i, okB t = true)) (fun _ v15 _ => fs.length - (intOf v15).toNat)
  case atStart => exact ⟨0, numI fs.length, rfl, Nat.zero_le _, by have := numI_length fs.length; omega, ⟨by simp [encZ]⟩, N1, ⟨fun t ht => by simp at ht⟩⟩
  case round =>
    obtain ⟨i, out, rfl, hi, hout, HOUT, HN, HALL⟩ := hrel
    by_cases hil : i < fs.length
    · have hiI : (i : Int) < (fs.length : Int) := by omega
      obtain ⟨e, he⟩ : ∃ e, fs[i]? = some e := ⟨_, List.getElem?_eq_getElem hil⟩
      have hem := List.mem_of_getElem? he
      have HRB := Aside0.mk (HES.out e hem)
      have hxl := HXS.out e hem
      have hLt : (fs.map TV.tok)[i]? = some e.tok := by rw [List.getElem?_map, he]; rfl
      have hst := encZ_take _ i _ hLt
      have hel := encT_length e.tok
      obtain ⟨ad, hA, hcv⟩ := rd_elem (HV.out.no HN.out.fr) i e he
      obtain ⟨F, C, Ax, px, xs⟩ := e
      dsimp only [TV.dv, TV.tok] at HRB hxl hLt hst hel
      have hoa := len_all hout (by omega)
      have HST : Aside0 (numI fs.length ++ encZ ((fs.map TV.tok).take (i + 1)) = out ++ encT (F, C, xs)) := ⟨by rw [hst, HOUT.out, List.append_assoc]⟩
      have HLEN : Aside0 ((out ++ encT (F, C, xs)).length ≤ 6 + (i + 1) * 6000) := ⟨by rw [List.length_append]; exact len_step hout (by omega)⟩
      have HLT := Aside0.mk hLt
      obtain rfl := hA
      have k0 : wr.cell? (ad.add (i * 3)) = some (.int .i64 F) := by have := hcv 0 _ rfl; rw [add_add, Nat.add_zero] at this; exact this
      have k1 : wr.cell? { block := (ad.add (i * 3)).block, off := (ad.add (i * 3)).off + 1 } = some (.int .i64 C) := hcv 1 _ rfl
      have k2 : wr.cell? { block := (ad.add (i * 3)).block, off := (ad.add (i * 3)).off + 2 } = some (.slice Ax xs.length px) := hcv 2 _ rfl
      clear hcv he hem hLt hst hel hout
      go_upto_region 8 with fail
      have XB0 := heap_alloc_new wr (.cells #[.int .i64 F, .int .i64 C, .slice Ax xs.length px] 117)
      have HNX : Aside0 (On w (wr.alloc (.cells #[.int .i64 F, .int .i64 C, .slice Ax xs.length px] 117)) u4 out) := ⟨HN.out.no ((Fr.refl _ _).alloc _)⟩
      change Code.wp _ _ _ _ (wr.alloc (.cells #[.int .i64 F, .int .i64 C, .slice Ax xs.length px] 117))
      generalize wr.alloc (.cells #[.int .i64 F, .int .i64 C, .slice Ax xs.length px] 117) = wx at XB0 HNX ⊢
      obtain ⟨g, hg⟩ : ∃ g, wr.heap.size = g := ⟨_, rfl⟩
      rw [hg] at XB0 ⊢
      clear hg
      have XB := Aside0.mk XB0
      have d0 : wx.cell? ⟨g, 0, Option.none⟩ = some (.int .i64 F) := by rw [blk_cell XB0]; rfl
      have d1 : wx.cell? ⟨g, 1, Option.none⟩ = some (.int .i64 C) := by rw [blk_cell XB0]; rfl
      have d2 : wx.cell? ⟨g, 2, Option.none⟩ = some (.slice Ax xs.length px) := by rw [blk_cell XB0]; rfl
      clear XB0 k0 k1 k2
      have hcase : (0 < C ∧ ¬ C < 0 ∧ F < 0) ∨ (0 < C ∧ ¬ F < 0 ∧ 1099511627776 < F) ∨ (0 < C ∧ ¬ F < 0 ∧ F ≤ 1099511627776 ∧ 1099511627776 < C) ∨ (0 < C ∧ ¬ F < 0 ∧ F ≤ 1099511627776 ∧ C ≤ 1099511627776 ∧ xs.length ≠ 0) ∨ (0 < C ∧ ¬ F < 0 ∧ F ≤ 1099511627776 ∧ C ≤ 1099511627776 ∧ xs.length = 0) ∨ (C < 0) ∨ (C = 0 ∧ F ≠ 0) ∨ (C = 0 ∧ F = 0 ∧ xs.length = 0) ∨ (C = 0 ∧ F = 0 ∧ xs.length ≠ 0) := by omega
      rcases hcase with ⟨h1, h0, h2⟩ | ⟨h1, h2, h3⟩ | ⟨h1, h2, h3, h4⟩ | ⟨h1, h2, h3, h4, h5⟩ | ⟨h1, h2, h3, h4, h5⟩ | h1 | ⟨h1, h2⟩ | ⟨h1, h2, h3⟩ | ⟨h1, h2, h3⟩
      · have hbad := bytes_bad HLM.out HLT.out (bad_of (t := (F, C, xs)) (fun h => by have := h.2.1; simp only at this; omega) (fun h => by have := h.1; simp only at this; omega))
        have HE2 : Aside0 (E = 80 ∧ X = []) := ⟨HE.out.symm.trans hbad.1, HX.out.symm.trans hbad.2⟩
        clear hbad
        have hc0 : (C == 0) = false := by rw [beq_eq_false_iff_ne]; omega
        go_wp2
        (try simp only [Exit.inBlock, Exit.then]); refine bodyPost_ret (results_list (rs := [.tmp 2, .tmp 3]) rfl (by simp) (.tmp (.tmp .nil))) rfl ?_
        rw [HE2.out.1, HE2.out.2]
        exact ⟨_, rfl, On.nil HNX.out.fr⟩
      · have hbad := bytes_bad HLM.out HLT.out (bad_of (t := (F, C, xs)) (fun h => by have := h.2.2.1; simp only at this; omega) (fun h => by have := h.1; simp only at this; omega))
        have HE2 : Aside0 (E = 80 ∧ X = []) := ⟨HE.out.symm.trans hbad.1, HX.out.symm.trans hbad.2⟩
        clear hbad
        have hc0 : (C == 0) = false := by rw [beq_eq_false_iff_ne]; omega
        have h3n : ¬ F ≤ 1099511627776 := by omega
        clear h3
        go_wp2
        (try simp only [Exit.inBlock, Exit.then]); refine bodyPost_ret (results_list (rs := [.tmp 2, .tmp 3]) rfl (by simp) (.tmp (.tmp .nil))) rfl ?_
        rw [HE2.out.1, HE2.out.2]
        exact ⟨_, rfl, On.nil HNX.out.fr⟩
      · have hbad := bytes_bad HLM.out HLT.out (bad_of (t := (F, C, xs)) (fun h => by have := h.2.2.2.1; simp only at this; omega) (fun h => by have := h.1; simp only at this; omega))
        have HE2 : Aside0 (E = 80 ∧ X = []) := ⟨HE.out.symm.trans hbad.1, HX.out.symm.trans hbad.2⟩
        clear hbad
        have hc0 : (C == 0) = false := by rw [beq_eq_false_iff_ne]; omega
        have h4n : ¬ C ≤ 1099511627776 := by omega
        clear h4
        go_wp2
        (try simp only [Exit.inBlock, Exit.then]); refine bodyPost_ret (results_list (rs := [.tmp 2, .tmp 3]) rfl (by simp) (.tmp (.tmp .nil))) rfl ?_
        rw [HE2.out.1, HE2.out.2]
        exact ⟨_, rfl, On.nil HNX.out.fr⟩
      · have hbad := bytes_bad HLM.out HLT.out (bad_of (t := (F, C, xs)) (fun h => by have := h.2.2.2.2; simp only at this; exact h5 (by rw [this]; rfl)) (fun h => by have := h.1; simp only at this; omega))
        have HE2 : Aside0 (E = 80 ∧ X = []) := ⟨HE.out.symm.trans hbad.1, HX.out.symm.trans hbad.2⟩
        clear hbad
        have hc0 : (C == 0) = false := by rw [beq_eq_false_iff_ne]; omega
        have hx0 : ((xs.length : Int) == 0) = false := by rw [beq_eq_false_iff_ne]; omega
        clear h5
        go_wp2
        (try simp only [Exit.inBlock, Exit.then]); refine bodyPost_ret (results_list (rs := [.tmp 2, .tmp 3]) rfl (by simp) (.tmp (.tmp .nil))) rfl ?_
        rw [HE2.out.1, HE2.out.2]
        exact ⟨_, rfl, On.nil HNX.out.fr⟩
      · have hok := enc_blk (t := (F, C, xs)) ⟨h1, by simp only; omega, h3, h4, List.length_eq_zero_iff.1 h5⟩
        have HNA := Aside0.mk (all_next HALL.out HLT.out hok.1)
        have HET : Aside0 (out ++ encT (F, C, xs) = out ++ numI C ++ numI F) := ⟨by rw [hok.2, List.append_assoc]⟩
        have hx0 : ((xs.length : Int) == 0) = true := by rw [h5]; rfl
        have hlc1 := numI_length C
        clear hok h5
        go_wp2_with fail
        refine Rg.start (fun _ y => y.heap[g]? = some (.cells #[.int .i64 F, .int .i64 C, .slice Ax xs.length px] 117 (0, 0))) (by kernel_rfl) (by kernel_rfl) [3, 6] [[1, 2, 0, 3], [4, 5, 1, 2, 0, 3, 6]] (by kernel_rfl) (.q 0 0 (.q 1 0 (.q 2 0 (.q 4 1 (.q 5 1 (.e 3 1 (.e 6 2 (.q 7 2 (.done))))))))) (by kernel_rfl) ?_ ?_
        · exact fun _ => XB.out
        repeat (first
          | (refine Rg.q (o := ?_) (v := ?_) ?_ ?_ ?_ ?_ ?_
             rotate_left 2
             · (simp only [List.getElem?_toArray, List.getElem?_cons_succ, List.getElem?_cons_zero]; rfl)
             · exact fun _ _ _ h => h
             · first | rfl | (go_simp; done)
             · (intro x_ hx; (try dsimp only at hx); (have q0 := (fun i => blk_cell hx i)); go_simp; (try rw [if_neg (by omega)]); (try rw [if_pos (by omega)]); (try go_simp); try with_reducible rfl)
             try simp only [Act.put, List.setIfInBounds_toArray, List.set_cons_zero, List.set_cons_succ])
          | (refine Rg.skip (o := ?_) ?_ ?_ ?_ ?_
             rotate_left 1
             · (simp only [List.getElem?_toArray, List.getElem?_cons_succ, List.getElem?_cons_zero]; rfl)
             · exact fun _ _ _ h => h
             · first | rfl | (go_simp; done)
             try simp only [Act.put, List.setIfInBounds_toArray, List.set_cons_zero, List.set_cons_succ]))
        refine Rg.e (o := ?_) ?_ ?_
        rotate_left 1
        · (simp only [List.getElem?_toArray, List.getElem?_cons_succ, List.getElem?_cons_zero]; rfl)
        intro K hK
        go_simp
        have HN1 : Aside0 (On w wx.drew u4 out) := ⟨HNX.out.no (Fr.refl _ _).drew⟩
        refine (CodeW.num_calls u4 out C wx.drew HN1.out.own (by omega)).mono ?_
        rintro en x1 ⟨v5, rfl, o1, f1, a1, _⟩
        have N2 : Aside0 (On w x1 v5 (out ++ numI C)) := ⟨HN1.out.step o1 f1 a1⟩
        have hnb : ∀ q v zs W cs, OwB W v zs → W.heap[q]? = some (.cells cs 117 (0, 0)) → ¬ blk v q := fun q v zs W cs hv hb hq => by
          obtain ⟨cs', hb'⟩ := hv.typed q hq
          rw [hb] at hb'; injection hb' with hb'; injection hb' with _ e2; exact absurd e2 (by decide)
        have XB1 : Aside0 (x1.heap[g]? = some (.cells #[.int .i64 F, .int .i64 C, .slice Ax xs.length px] 117 (0, 0))) := ⟨f1.heap XB.out (hnb _ _ _ _ _ HN1.out.own XB.out)⟩
        have HNB := Aside0.mk hnb
        clear o1 f1 a1 hnb
        go_simp
        refine hK.out _ _ (fun _ y => y.heap[g]? = some (.cells #[.int .i64 F, .int .i64 C, .slice Ax xs.length px] 117 (0, 0))) (fun k x hk h => h) ?_ ?_
        · exact fun _ _ => XB1.out
        try simp only [Act.put, List.setIfInBounds_toArray, List.set_cons_zero, List.set_cons_succ]
        repeat (first
          | (refine Rg.q (o := ?_) (v := ?_) ?_ ?_ ?_ ?_ ?_
             rotate_left 2
             · (simp only [List.getElem?_toArray, List.getElem?_cons_succ, List.getElem?_cons_zero]; rfl)
             · exact fun _ _ _ h => h
             · first | rfl | (go_simp; done)
             · (intro x_ hx; (try dsimp only at hx); (have q0 := (fun i => blk_cell hx i)); go_simp; (try rw [if_neg (by omega)]); (try rw [if_pos (by omega)]); (try go_simp); try with_reducible rfl)
             try simp only [Act.put, List.setIfInBounds_toArray, List.set_cons_zero, List.set_cons_succ])
          | (refine Rg.skip (o := ?_) ?_ ?_ ?_ ?_
             rotate_left 1
             · (simp only [List.getElem?_toArray, List.getElem?_cons_succ, List.getElem?_cons_zero]; rfl)
             · exact fun _ _ _ h => h
             · first | rfl | (go_simp; done)
             try simp only [Act.put, List.setIfInBounds_toArray, List.set_cons_zero, List.set_cons_succ]))
        refine Rg.e (o := ?_) ?_ ?_
        rotate_left 1
        · (simp only [List.getElem?_toArray, List.getElem?_cons_succ, List.getElem?_cons_zero]; rfl)
        intro K hK
        go_simp
        refine (CodeW.num_calls v5 (out ++ numI C) F x1 N2.out.own (by rw [List.length_append]; omega)).mono ?_
        rintro en x2 ⟨v6, rfl, o1, f1, a1, _⟩
        have N3 : Aside0 (On w x2 v6 (out ++ numI C ++ numI F)) := ⟨N2.out.step o1 f1 a1⟩
        have XB2 : Aside0 (x2.heap[g]? = some (.cells #[.int .i64 F, .int .i64 C, .slice Ax xs.length px] 117 (0, 0))) := ⟨f1.heap XB1.out (HNB.out _ _ _ _ _ N2.out.own XB1.out)⟩
        clear o1 f1 a1 d0 d1 d2
        go_simp
        refine hK.out _ _ (fun _ y => y.heap[g]? = some (.cells #[.int .i64 F, .int .i64 C, .slice Ax xs.length px] 117 (0, 0))) (fun k x hk h => h) ?_ ?_
        · exact fun _ _ => XB2.out
        try simp only [Act.put, List.setIfInBounds_toArray, List.set_cons_zero, List.set_cons_succ]
        repeat (first
          | (refine Rg.q (o := ?_) (v := ?_) ?_ ?_ ?_ ?_ ?_
             rotate_left 2
             · (simp only [List.getElem?_toArray, List.getElem?_cons_succ, List.getElem?_cons_zero]; rfl)
             · exact fun _ _ _ h => h
             · first | rfl | (go_simp; done)
             · (intro x_ hx; (try dsimp only at hx); (skip); go_simp; (try rw [if_neg (by omega)]); (try rw [if_pos (by omega)]); (try go_simp); try with_reducible rfl)
             try simp only [Act.put, List.setIfInBounds_toArray, List.set_cons_zero, List.set_cons_succ])
          | (refine Rg.skip (o := ?_) ?_ ?_ ?_ ?_
             rotate_left 1
             · (simp only [List.getElem?_toArray, List.getElem?_cons_succ, List.getElem?_cons_zero]; rfl)
             · exact fun _ _ _ h => h
             · first | rfl | (go_simp; done)
             try simp only [Act.put, List.setIfInBounds_toArray, List.set_cons_zero, List.set_cons_succ]))
        refine Rg.done ?_
        go_simp
        go_wp2
        go_roundw
        case rel => exact ⟨i + 1, out ++ numI C ++ numI F, by go_num, by omega, by rw [← HET.out]; exact HLEN.out, ⟨by rw [HST.out, HET.out]⟩, N3, HNA⟩
        case measure => simp [intOf]; omega
      · have hbad := bytes_bad HLM.out HLT.out (bad_of (t := (F, C, xs)) (fun h => by have := h.1; simp only at this; omega) (fun h => by have := h.1; simp only at this; omega))
        have HE2 : Aside0 (E = 80 ∧ X = []) := ⟨HE.out.symm.trans hbad.1, HX.out.symm.trans hbad.2⟩
        clear hbad
        have hc0 : (C == 0) = false := by rw [beq_eq_false_iff_ne]; omega
        have hn1 : ¬ 0 < C := by omega
        go_wp2
        (try simp only [Exit.inBlock, Exit.then]); refine bodyPost_ret (results_list (rs := [.tmp 2, .tmp 3]) rfl (by simp) (.tmp (.tmp .nil))) rfl ?_
        rw [HE2.out.1, HE2.out.2]
        exact ⟨_, rfl, On.nil HNX.out.fr⟩
      · have hbad := bytes_bad HLM.out HLT.out (bad_of (t := (F, C, xs)) (fun h => by have := h.1; simp only at this; omega) (fun h => by have := h.2.1; simp only at this; omega))
        have HE2 : Aside0 (E = 80 ∧ X = []) := ⟨HE.out.symm.trans hbad.1, HX.out.symm.trans hbad.2⟩
        clear hbad
        have hf0 : (F == 0) = false := by rw [beq_eq_false_iff_ne]; exact h2
        have hn1 : ¬ 0 < C := by omega
        have hc0 : (C == 0) = true := by rw [beq_iff_eq]; exact h1
        clear h1
        go_wp2
        (try simp only [Exit.inBlock, Exit.then]); refine bodyPost_ret (results_list (rs := [.tmp 2, .tmp 3]) rfl (by simp) (.tmp (.tmp .nil))) rfl ?_
        rw [HE2.out.1, HE2.out.2]
        exact ⟨_, rfl, On.nil HNX.out.fr⟩
      · have hbad := bytes_bad HLM.out HLT.out (bad_of (t := (F, C, xs)) (fun h => by have := h.1; simp only at this; omega) (fun h => h.2.2 (List.length_eq_zero_iff.1 h3)))
        have HE2 : Aside0 (E = 80 ∧ X = []) := ⟨HE.out.symm.trans hbad.1, HX.out.symm.trans hbad.2⟩
        clear hbad
        have hf0 : (F == 0) = true := by rw [beq_iff_eq]; exact h2
        have hn1 : ¬ 0 < C := by omega
        have hc0 : (C == 0) = true := by rw [beq_iff_eq]; exact h1
        have hx0 : ¬ (0 : Int) < (xs.length : Int) := by omega
        clear h1 h2
        go_wp2
        (try simp only [Exit.inBlock, Exit.then]); refine bodyPost_ret (results_list (rs := [.tmp 2, .tmp 3]) rfl (by simp) (.tmp (.tmp .nil))) rfl ?_
        rw [HE2.out.1, HE2.out.2]
        exact ⟨_, rfl, On.nil HNX.out.fr⟩
      · have hok := enc_raw (t := (F, C, xs)) ⟨h1, h2, fun e => h3 (by rw [show xs = [] from e]; rfl)⟩
        have HNA := Aside0.mk (all_next HALL.out HLT.out hok.1)
        have HET : Aside0 (out ++ encT (F, C, xs) = out ++ numI 0 ++ numI xs.length ++ xs) := ⟨by rw [hok.2]; simp only [List.append_assoc]⟩
        have hx0 : (0 : Int) < (xs.length : Int) := by omega
        have hx1 : (xs.length : Int) ≤ 1099511627776 := by omega
        have hf0 : (F == 0) = true := by rw [beq_iff_eq]; exact h2
        have hn1 : ¬ 0 < C := by omega
        have hc0 : (C == 0) = true := by rw [beq_iff_eq]; exact h1
        have hlc1 := numI_length 0
        have hlc2 := numI_length (xs.length : Int)
        clear hok h1 h2 h3
        go_wp2_with fail
        refine Rg.start (fun _ y => y.heap[g]? = some (.cells #[.int .i64 F, .int .i64 C, .slice Ax xs.length px] 117 (0, 0))) (by kernel_rfl) (by kernel_rfl) [1, 5] [[0, 1], [2, 3, 4, 0, 1, 5]] (by kernel_rfl) (.q 0 0 (.q 2 1 (.q 3 1 (.q 4 1 (.e 1 1 (.e 5 2 (.q 6 2 (.done)))))))) (by kernel_rfl) ?_ ?_
        · exact fun _ => XB.out
        repeat (first
          | (refine Rg.q (o := ?_) (v := ?_) ?_ ?_ ?_ ?_ ?_
             rotate_left 2
             · (simp only [List.getElem?_toArray, List.getElem?_cons_succ, List.getElem?_cons_zero]; rfl)
             · exact fun _ _ _ h => h
             · first | rfl | (go_simp; done)
             · (intro x_ hx; (try dsimp only at hx); (have q0 := (fun i => blk_cell hx i)); go_simp; (try rw [if_neg (by omega)]); (try rw [if_pos (by omega)]); (try go_simp); try with_reducible rfl)
             try simp only [Act.put, List.setIfInBounds_toArray, List.set_cons_zero, List.set_cons_succ])
          | (refine Rg.skip (o := ?_) ?_ ?_ ?_ ?_
             rotate_left 1
             · (simp only [List.getElem?_toArray, List.getElem?_cons_succ, List.getElem?_cons_zero]; rfl)
             · exact fun _ _ _ h => h
             · first | rfl | (go_simp; done)
             try simp only [Act.put, List.setIfInBounds_toArray, List.set_cons_zero, List.set_cons_succ]))
        refine Rg.e (o := ?_) ?_ ?_
        rotate_left 1
        · (simp only [List.getElem?_toArray, List.getElem?_cons_succ, List.getElem?_cons_zero]; rfl)
        intro K hK
        go_simp
        have HN1 : Aside0 (On w wx.drew u4 out) := ⟨HNX.out.no (Fr.refl _ _).drew⟩
        refine (CodeW.num_calls u4 out 0 wx.drew HN1.out.own (by omega)).mono ?_
        rintro en x1 ⟨v5, rfl, o1, f1, a1, _⟩
        have N2 : Aside0 (On w x1 v5 (out ++ numI 0)) := ⟨HN1.out.step o1 f1 a1⟩
        have hnb : ∀ q v zs W cs, OwB W v zs → W.heap[q]? = some (.cells cs 117 (0, 0)) → ¬ blk v q := fun q v zs W cs hv hb hq => by
          obtain ⟨cs', hb'⟩ := hv.typed q hq
          rw [hb] at hb'; injection hb' with hb'; injection hb' with _ e2; exact absurd e2 (by decide)
        have XB1 : Aside0 (x1.heap[g]? = some (.cells #[.int .i64 F, .int .i64 C, .slice Ax xs.length px] 117 (0, 0))) := ⟨f1.heap XB.out (hnb _ _ _ _ _ HN1.out.own XB.out)⟩
        have HNB := Aside0.mk hnb
        clear o1 f1 a1 hnb
        go_simp
        refine hK.out _ _ (fun _ y => y.heap[g]? = some (.cells #[.int .i64 F, .int .i64 C, .slice Ax xs.length px] 117 (0, 0))) (fun k x hk h => h) ?_ ?_
        · exact fun _ _ => XB1.out
        try simp only [Act.put, List.setIfInBounds_toArray, List.set_cons_zero, List.set_cons_succ]
        repeat (first
          | (refine Rg.q (o := ?_) (v := ?_) ?_ ?_ ?_ ?_ ?_
             rotate_left 2
             · (simp only [List.getElem?_toArray, List.getElem?_cons_succ, List.getElem?_cons_zero]; rfl)
             · exact fun _ _ _ h => h
             · first | rfl | (go_simp; done)
             · (intro x_ hx; (try dsimp only at hx); (have q0 := (fun i => blk_cell hx i)); go_simp; (try rw [if_neg (by omega)]); (try rw [if_pos (by omega)]); (try go_simp); try with_reducible rfl)
             try simp only [Act.put, List.setIfInBounds_toArray, List.set_cons_zero, List.set_cons_succ])
          | (refine Rg.skip (o := ?_) ?_ ?_ ?_ ?_
             rotate_left 1
             · (simp only [List.getElem?_toArray, List.getElem?_cons_succ, List.getElem?_cons_zero]; rfl)
             · exact fun _ _ _ h => h
             · first | rfl | (go_simp; done)
             try simp only [Act.put, List.setIfInBounds_toArray, List.set_cons_zero, List.set_cons_succ]))
        refine Rg.e (o := ?_) ?_ ?_
        rotate_left 1
        · (simp only [List.getElem?_toArray, List.getElem?_cons_succ, List.getElem?_cons_zero]; rfl)
        intro K hK
        go_simp
        refine (CodeW.num_calls v5 (out ++ numI 0) xs.length x1 N2.out.own (by rw [List.length_append]; omega)).mono ?_
        rintro en x2 ⟨v6, rfl, o1, f1, a1, _⟩
        have N3 : Aside0 (On w x2 v6 (out ++ numI 0 ++ numI xs.length)) := ⟨N2.out.step o1 f1 a1⟩
        have XB2 : Aside0 (x2.heap[g]? = some (.cells #[.int .i64 F, .int .i64 C, .slice Ax xs.length px] 117 (0, 0))) := ⟨f1.heap XB1.out (HNB.out _ _ _ _ _ N2.out.own XB1.out)⟩
        clear o1 f1 a1 d0 d1 d2
        go_simp
        refine hK.out _ _ (fun _ y => y.heap[g]? = some (.cells #[.int .i64 F, .int .i64 C, .slice Ax xs.length px] 117 (0, 0))) (fun k x hk h => h) ?_ ?_
        · exact fun _ _ => XB2.out
        try simp only [Act.put, List.setIfInBounds_toArray, List.set_cons_zero, List.set_cons_succ]
        repeat (first
          | (refine Rg.q (o := ?_) (v := ?_) ?_ ?_ ?_ ?_ ?_
             rotate_left 2
             · (simp only [List.getElem?_toArray, List.getElem?_cons_succ, List.getElem?_cons_zero]; rfl)
             · exact fun _ _ _ h => h
             · first | rfl | (go_simp; done)
             · (intro x_ hx; (try dsimp only at hx); (skip); go_simp; (try rw [if_neg (by omega)]); (try rw [if_pos (by omega)]); (try go_simp); try with_reducible rfl)
             try simp only [Act.put, List.setIfInBounds_toArray, List.set_cons_zero, List.set_cons_succ])
          | (refine Rg.skip (o := ?_) ?_ ?_ ?_ ?_
             rotate_left 1
             · (simp only [List.getElem?_toArray, List.getElem?_cons_succ, List.getElem?_cons_zero]; rfl)
             · exact fun _ _ _ h => h
             · first | rfl | (go_simp; done)
             try simp only [Act.put, List.setIfInBounds_toArray, List.set_cons_zero, List.set_cons_succ]))
        refine Rg.done ?_
        go_simp
        have d2 : x2.cell? ⟨g, 2, Option.none⟩ = some (.slice Ax xs.length px) := by rw [blk_cell XB2.out]; rfl
        go_wp2_with (at_builtin; refine apBs v6 (out ++ numI 0 ++ numI xs.length) (.slice Ax xs.length px) xs rfl (.tmp 78) (.tmp 80) rfl rfl rfl N3.out.own (HRB.out.no N3.out.fr) (by rw [List.length_append, List.length_append]; omega) ?_; intro v7 w7 i1 i2 i3 i4; have N4 : Aside0 (On w w7 v7 (out ++ numI 0 ++ numI xs.length ++ xs)) := ⟨N3.out.step i1 i2 i3⟩; clear i1 i2 i3 i4)
        go_roundw
        case rel => exact ⟨i + 1, out ++ numI 0 ++ numI xs.length ++ xs, by go_num, by omega, by rw [← HET.out]; exact HLEN.out, ⟨by rw [HST.out, HET.out]⟩, N4, HNA⟩
        case measure => simp [intOf]; omega
    · have hiI : ¬ (i : Int) < (fs.length : Int) := by omega
      have hil2 : i = fs.length := by omega
      have hg := bytes_good HLM.out (fun t ht => HALL.out t (by rw [hil2, ← List.length_map (f := TV.tok), List.take_length]; exact ht))
      have HE2 : Aside0 (E = 0 ∧ X = out) := ⟨HE.out.symm.trans hg.1, by rw [← HX.out, hg.2, HOUT.out, hil2]; unfold encL; rw [List.length_map, ← List.length_map (f := TV.tok), List.take_length]⟩
      clear hg
      go_wp2
      (try simp only [Exit.inBlock, Exit.then]); refine bodyPost_ret (results_list (rs := [.tmp 2, .tmp 3]) rfl (by simp) (.tmp (.tmp .nil))) rfl ?_
      rw [HE2.out.1, HE2.out.2]
      exact ⟨_, rfl, HN.out⟩
end Go.Proofs.YtanbddaecojijaaDoor.Tk
namespace Go.Proofs.YtanbddaecojijaaDoor.Tk
open Go.RowKit Go.IntWalk Go.Proofs.YtanbddaecojijaaDoorW.PrintWords Go.Proofs.YtanbddaecojijaaDoor.B Go.Proofs.YtanbddaecojijaaDoor.PB Go.Proofs.YtanbddaecojijaaDoor.STell Go.Proofs.YtanbddaecojijaaDoor.STB Go.Proofs.YtanbddaecojijaaDoor.SCode

theorem len_stepR {n i k : Nat} (h : n ≤ 6 + i * 6000) (hk : k ≤ 6000) : n + k ≤ 6 + (i + 1) * 6000 := by rw [Nat.add_mul]; omega
theorem len_allR {n i : Nat} (h : n ≤ 6 + i * 6000) (hi : i ≤ 8192) : n ≤ 60000000 := by
  have : i * 6000 ≤ 8192 * 6000 := Nat.mul_le_mul_right _ hi
  omega
end Go.Proofs.YtanbddaecojijaaDoor.Tk
