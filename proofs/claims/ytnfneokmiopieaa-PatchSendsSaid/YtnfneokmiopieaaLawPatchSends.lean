/- The walk of the law PatchSends. -/
import Derived.Test.YtnfneokmiopieaaPatS
import Derived.Test.YtnfneokmiopieaaPatJ
import Derived.Test.YtnfneokmiopieaaShaH
import Derived.Test.YtnfneokmiopieaaLiftB
import Derived.OpenShut
set_option linter.unusedVariables false
set_option linter.unusedSimpArgs false
namespace Go.Proofs.Ytnfneokmiopieaa.LPatchSends
open Go.ChangeShapes Go.RowKit Go.IntWalk Go.Proofs.YtnfneokmiopieaaW.PrintWords Go.Proofs.Ytnfneokmiopieaa.B Go.Proofs.Ytnfneokmiopieaa.PB Go.Proofs.Ytnfneokmiopieaa.SWeak Go.Proofs.Ytnfneokmiopieaa.Bk Go.Proofs.Ytnfneokmiopieaa.SBlk Go.Proofs.Ytnfneokmiopieaa.Blk Go.Proofs.Ytnfneokmiopieaa.L6 Go.Proofs.Ytnfneokmiopieaa.STell Go.Proofs.Ytnfneokmiopieaa.SJoin Go.Proofs.Ytnfneokmiopieaa.Tk Go.Proofs.Ytnfneokmiopieaa.L7 Go.Proofs.Ytnfneokmiopieaa.Pat

set_option maxHeartbeats 8000000 in
set_option maxRecDepth 100000 in
theorem walk_out (vb : Value) (b : List UInt8) (vd : Value) (d : List UInt8) (size cut whole : Int) (w : World) (hb : RdB w vb b) (hd : RdB w vd d) (hout : 200 < b.length ∨ 200 < d.length) : Calls Try.prog 3 #[vb, vd, .agg #[.int .i64 size, .int .i64 cut, .int .i64 whole]] w fun e w' => e = .returned (.bool true) ∧ Fr No w w' := by
  obtain ⟨A, c, rfl, _⟩ := id hb
  obtain ⟨A', c', rfl, _⟩ := id hd
  clear hb hd
  have hc : (200 : Int) < (b.length : Int) ∨ (¬ (200 : Int) < (b.length : Int) ∧ (200 : Int) < (d.length : Int)) := by omega
  clear hout
  rcases hc with h1 | ⟨h1, h2⟩
  all_goals
    go_enter Try.func3, Try.ntmps3
    go_wp2_with fail
    refine (sends_calls _).mono ?_
    rintro e w1 ⟨rfl, hf⟩
    have F1 : Aside0 (Fr No w w1) := ⟨((Fr.refl _ _).alloc _).none hf⟩
    clear hf
    go_wp2
    go_ret
    exact ⟨rfl, F1.out⟩

set_option maxHeartbeats 8000000 in
set_option maxRecDepth 100000 in
theorem walk_ok (vb : Value) (b : List UInt8) (vd : Value) (d : List UInt8) (size cut whole : Int) (w : World) (hb : RdB w vb b) (hd : RdB w vd d) (hsz : size ≤ 9223372036854775807) (hw1 : -9223372036854775808 ≤ whole) (hw2 : whole ≤ 9223372036854775807) (h1 : ¬ (200 : Int) < (b.length : Int)) (h2 : ¬ (200 : Int) < (d.length : Int)) : Calls Try.prog 3 #[vb, vd, .agg #[.int .i64 size, .int .i64 cut, .int .i64 whole]] w fun e w' => e = .returned (.bool true) ∧ Fr No w w' := by
  obtain ⟨A0, c0, rfl, hbc, _⟩ := id hb
  obtain ⟨A', c', rfl, hdc, _⟩ := id hd
  have HB := Aside0.mk hb; have HD0 := Aside0.mk hd
  clear hb hd
  go_enter Try.func3, Try.ntmps3
  go_upto_region 1 with fail
  have X0 := heap_alloc_new w (.cells #[.int .i64 size, .int .i64 cut, .int .i64 whole] 23)
  have F0 : Aside0 (Fr No w (w.alloc (.cells #[.int .i64 size, .int .i64 cut, .int .i64 whole] 23))) := ⟨(Fr.refl _ _).alloc _⟩
  change Code.wp _ _ _ _ (w.alloc (.cells #[.int .i64 size, .int .i64 cut, .int .i64 whole] 23))
  generalize w.alloc (.cells #[.int .i64 size, .int .i64 cut, .int .i64 whole] 23) = w0 at X0 F0 ⊢
  go_wp2_with fail
  refine (sends_calls w0).mono ?_
  rintro e w1 ⟨rfl, hf⟩
  have F1 : Aside0 (Fr No w w1) := ⟨F0.out.none hf⟩
  have k0 : w1.cell? ⟨w.heap.size, 0, Option.none⟩ = some (.int .i64 size) := by rw [blk_cell (hf.heap X0 id)]; rfl
  have k1 : w1.cell? ⟨w.heap.size, 1, Option.none⟩ = some (.int .i64 cut) := by rw [blk_cell (hf.heap X0 id)]; rfl
  have k2 : w1.cell? ⟨w.heap.size, 2, Option.none⟩ = some (.int .i64 whole) := by rw [blk_cell (hf.heap X0 id)]; rfl
  clear hf X0
  go_wp2_with fail
  refine Rg.start (fun _ x => Fr No w1 x) (by kernel_rfl) (by kernel_rfl) [] [] (by kernel_rfl) (.q 0 0 (.q 1 0 (.q 2 0 (.q 3 0 (.q 4 0 (.q 5 0 (.q 6 0 (.q 7 0 (.q 8 0 (.done)))))))))) (by kernel_rfl) ?_ ?_
  · exact fun _ => (Fr.refl _ _).drew
  repeat (first
    | (refine Rg.q (o := ?_) (v := ?_) ?_ ?_ ?_ ?_ ?_
       rotate_left 2
       · (simp only [List.getElem?_toArray, List.getElem?_cons_succ, List.getElem?_cons_zero]; rfl)
       · exact fun _ _ _ h => h
       · first | rfl | (go_simp; done)
       · (intro x_ hx; (try dsimp only at hx); (have q0 := hx.cell k0 id; have q1 := hx.cell k1 id; have q2 := hx.cell k2 id); go_simp; (try rw [if_neg (by omega)]); (try rw [if_pos (by omega)]); (try go_simp); try with_reducible rfl)
       try simp only [Act.put, List.setIfInBounds_toArray, List.set_cons_zero, List.set_cons_succ])
    | (refine Rg.skip (o := ?_) ?_ ?_ ?_ ?_
       rotate_left 1
       · (simp only [List.getElem?_toArray, List.getElem?_cons_succ, List.getElem?_cons_zero]; rfl)
       · exact fun _ _ _ h => h
       · first | rfl | (go_simp; done)
       try simp only [Act.put, List.setIfInBounds_toArray, List.set_cons_zero, List.set_cons_succ]))
  refine Rg.done ?_
  go_simp
  have F1' : Aside0 (Fr No w w1.drew) := ⟨F1.out.drew⟩
  clear k0 k1 k2
  generalize w1.drew = w2 at F1' ⊢
  go_wp2_with fail
  by_cases hE : makeE b.length size cut = 0
  · obtain ⟨s, d0, rfl, rfl, hs1, hs2, hd2⟩ := made7 hE
    have hmk := fun W h => make_ok (.slice A0 b.length c0) b s d0 W h (by omega) (by omega) hE
    have hbl := blocks_length s d0 b (cnt b.length s)
    have hcl := cnt_le b.length s (by omega)
    have htr := tellR_made hE d
    have hck := chk_made hE
    have hgd := good_made (b := b) (cut := d0) hs1 d
    have hup := upto_tell (s := s) (by omega) (fB s b.length d0 (blocks s d0 b (cnt b.length s))) d [] 0 (fun t ht => by cases ht)
    have hln := tell_length (s := s) (by omega) (fB s b.length d0 (blocks s d0 b (cnt b.length s))) d []
    have hcn := countI_nat b.length s (by omega)
    rw [Int.toNat_natCast] at hck
    simp only [Int.toNat_natCast] at hmk
    have hsd := send_ok (.slice A0 b.length c0) (.slice A' d.length c') b d s d0 whole w2 (HB.out.no F1'.out) (HD0.out.no F1'.out) (by omega) (by omega) hs1 hs2 hE hw1 hw2
    obtain ⟨R, hR⟩ : ∃ R, sendA b d s d0 whole = R := ⟨_, rfl⟩
    rw [hR] at hsd
    unfold sendA sendL at hR
    obtain ⟨bs, hbs⟩ : ∃ bs, blocks s d0 b (cnt b.length s) = bs := ⟨_, rfl⟩
    simp only [hbs] at hmk hbl htr hck hgd hup hln hR
    obtain ⟨L, hL⟩ : ∃ L, tell s (fB s b.length d0 bs) d [] = L := ⟨_, rfl⟩
    rw [hL] at htr hgd hup hln hR
    rw [List.length_nil, Nat.zero_add] at hln
    rw [Nat.zero_add] at hup
    have hjz := joinL_good hcn (by omega) L 0 [] hgd.ok (fun t ht => by have := hup t ht; omega) (by rw [List.length_nil]; omega)
    have hjl : (joinR b s L).1.length ≤ 65536 := joinL_len _ _ _ (Nat.zero_le _)
    have hjat : joinR b s L = ((joinR b s L).1, 0, (joinR b s L).2.2) := by
      have : (joinR b s L).2.1 = 0 := hjz
      rw [← this]
    obtain ⟨J, hJ⟩ : ∃ J, (joinR b s L).1 = J := ⟨_, rfl⟩
    obtain ⟨at9, hat9⟩ : ∃ at9, (joinR b s L).2.2 = at9 := ⟨_, rfl⟩
    rw [hJ, hat9] at hjat
    rw [hJ] at hjl
    have hRR : R = if Sha.cut whole J = Sha.cut whole d then (J, none) else ([], some (L.length, 81)) := by
      rw [← hR]
      unfold applyR
      rw [hjat, if_neg (by simp)]
    have hbb : bs.length ≤ 200 := by omega
    have hfx := fun e (he : e ∈ L) => hup e he
    have hfc := fun e (he : e ∈ L) => (hgd.ok e he)
    have HMK := Aside0.mk hmk; have HTR := Aside0.mk htr; have HCK := Aside0.mk hck; have HLN := Aside0.mk hln; have HRR := Aside0.mk hRR; have HJT := Aside0.mk hjat; have HFX := Aside0.mk hfx; have HFC := Aside0.mk hfc
    clear hmk htr hck hgd hup hln hR hL hbs hE hbl hcl hcn hjz hJ hat9 hRR hjat hfx hfc
    refine hsd.mono ?_
    rintro e w3 ⟨v, rfl, hN⟩
    obtain ⟨Av, cv, hvf⟩ := hN.own.form
    subst hvf
    obtain ⟨O, hO⟩ : ∃ O, (if R.2.isSome = true then d else R.1) = O := ⟨_, rfl⟩
    obtain ⟨tw, htw⟩ : ∃ tw, R.2.isSome = tw := ⟨_, rfl⟩
    rw [hO] at hN ⊢
    rw [htw] at hO ⊢
    have F3 : Aside0 (Fr No w w3) := ⟨F1'.out.none hN.fr⟩
    have HN := Aside0.mk hN.own
    have HOO := Aside0.mk hO; have HTW := Aside0.mk htw
    clear hsd hN hO htw
    go_wp2_with fail
    refine (HMK.out w3 (HB.out.no F3.out)).mono ?_
    rintro e w4 ⟨sl, rfl, hS, hf⟩
    have F4 : Aside0 (Fr No w3 w4) := ⟨hf⟩
    obtain ⟨A, c, rfl⟩ := hS.1.form
    have HS := Aside0.mk hS
    clear hf hS
    go_upto_region 8 with fail
    refine name_alloc (fun w5 h5 f5 => ?_)
    have XS := Aside0.mk h5
    have F5 : Aside0 (Fr No w3 w5) := ⟨F4.out.none f5⟩
    have HV : Aside0 (Rd (fBk .u32) w5 (.slice A bs.length c) bs) := ⟨HS.out.1.rd.no f5⟩
    clear h5 f5 HS
    obtain ⟨g, hg⟩ : ∃ g, w4.heap.size = g := ⟨_, rfl⟩
    rw [hg] at XS ⊢
    clear hg
    have LD := ld_all (P := Try.prog) (ty := 30) XS.out Try.underlying30 rfl (by kernel_rfl)
    go_wp2_with (first
      | (refine ldG (.tmp 13) 30 _ _ rfl rfl (LD _ (Fr.refl _ _)) (by first | rfl | (go_simp; done)) ?_)
      | fail)
    refine (dmake_calls s d0 b.length (.slice A bs.length c) (.slice A' d.length c') bs d w5 HV.out (HD0.out.no (F3.out.none F5.out)) (by omega) (by omega) (by omega)).mono ?_
    rw [HTR.out, HCK.out]
    rintro e w6 ⟨vt, rfl, hT, hf⟩
    obtain ⟨At, ct, rfl⟩ := hT.form
    obtain ⟨fs, hT, hfs⟩ := hT
    have F6 : Aside0 (Fr No w3 w6) := ⟨F5.out.none hf⟩
    have hll : L.length = fs.length := by rw [← hfs, List.length_map]
    have hfl : fs.length ≤ 200 := by have := HLN.out; omega
    rw [hll] at hT ⊢
    have HT := Aside0.mk hT; have HFS := Aside0.mk hfs
    clear hf hT hfs LD hll
    go_wp2_with fail
    have HB6 := Aside0.mk (HB.out.no (F3.out.none F6.out)); have HD6 := Aside0.mk (HD0.out.no (F3.out.none F6.out)); have HN6 := Aside0.mk (HN.out.no F6.out)
    refine Rg.start (fun _ x => Fr No w6 x) (by kernel_rfl) (by kernel_rfl) [4, 5] [[3, 4], [3, 4, 2, 0, 1, 5]] (by kernel_rfl) (.q 0 1 (.q 1 1 (.q 2 1 (.q 3 0 (.e 4 1 (.e 5 2 (.q 6 2 (.q 7 2 (.q 8 2 (.q 9 2 (.q 10 2 (.q 11 2 (.q 12 2 (.done)))))))))))))) (by kernel_rfl) ?_ ?_
    · exact fun _ => (Fr.refl _ _).drew
    repeat (first
      | (refine Rg.q (o := ?_) (v := ?_) ?_ ?_ ?_ ?_ ?_
         rotate_left 2
         · (simp only [List.getElem?_toArray, List.getElem?_cons_succ, List.getElem?_cons_zero]; rfl)
         · exact fun _ _ _ h => h
         · first | rfl | (go_simp; done)
         · (intro x_ hx; (try dsimp only at hx); (have q0 := str_of_rd (HB6.out.no hx)); go_simp; (try rw [if_neg (by omega)]); (try rw [if_pos (by omega)]); (try go_simp); try with_reducible rfl)
         try simp only [Act.put, List.setIfInBounds_toArray, List.set_cons_zero, List.set_cons_succ])
      | (refine Rg.skip (o := ?_) ?_ ?_ ?_ ?_
         rotate_left 1
         · (simp only [List.getElem?_toArray, List.getElem?_cons_succ, List.getElem?_cons_zero]; rfl)
         · exact fun _ _ _ h => h
         · first | rfl | (go_simp; done)
         try simp only [Act.put, List.setIfInBounds_toArray, List.set_cons_zero, List.set_cons_succ]))
    refine Rg.e (o := ?_) ?_ ?_
    rotate_left 1
    · (simp only [List.getElem?_toArray, List.getElem?_cons_succ, List.getElem?_cons_zero]; rfl)
    intro K hK
    go_simp
    have HT7 := HT.out.no (Fr.refl No w6).drew
    refine (plain8_calls _ fs _ HT7.row.rd (fun e he => (HT7.own e he).1.rd) (by omega)).mono ?_
    rintro en x1 ⟨vp, rfl, hP, hf⟩
    have G1 : Aside0 (Fr No w6 x1) := ⟨((Fr.refl No w6).drew).none hf⟩
    have HP := Aside0.mk hP
    clear hf hP HT7
    go_simp
    refine hK.out _ _ (fun _ x => Fr No w6 x) (fun k x hk h => h) ?_ ?_
    · exact fun _ _ => G1.out
    try simp only [Act.put, List.setIfInBounds_toArray, List.set_cons_zero, List.set_cons_succ]
    repeat (first
      | (refine Rg.q (o := ?_) (v := ?_) ?_ ?_ ?_ ?_ ?_
         rotate_left 2
         · (simp only [List.getElem?_toArray, List.getElem?_cons_succ, List.getElem?_cons_zero]; rfl)
         · exact fun _ _ _ h => h
         · first | rfl | (go_simp; done)
         · (intro x_ hx; (try dsimp only at hx); (have q0 := str_of_rd (HB6.out.no hx)); go_simp; (try rw [if_neg (by omega)]); (try rw [if_pos (by omega)]); (try go_simp); try with_reducible rfl)
         try simp only [Act.put, List.setIfInBounds_toArray, List.set_cons_zero, List.set_cons_succ])
      | (refine Rg.skip (o := ?_) ?_ ?_ ?_ ?_
         rotate_left 1
         · (simp only [List.getElem?_toArray, List.getElem?_cons_succ, List.getElem?_cons_zero]; rfl)
         · exact fun _ _ _ h => h
         · first | rfl | (go_simp; done)
         try simp only [Act.put, List.setIfInBounds_toArray, List.set_cons_zero, List.set_cons_succ]))
    refine Rg.e (o := ?_) ?_ ?_
    rotate_left 1
    · (simp only [List.getElem?_toArray, List.getElem?_cons_succ, List.getElem?_cons_zero]; rfl)
    intro K hK
    go_simp
    rw [HFS.out] at HP
    refine (rjoin_calls vp b s L x1 HP.out.rd (by omega) (by have := HLN.out; omega) (by omega) (fun e he => by have := HFX.out e he; omega) (fun e he => ?_)).mono ?_
    · have h8 := HFC.out e he
      have h9 := h8.c0; have h10 := h8.f0
      rcases (by omega : e.2.1 = 0 ∨ 0 < e.2.1) with h3 | h3
      · omega
      · have := (h8.blk h3).2; have := cnt_le b.length s (by omega); omega
    rw [HJT.out]
    rintro en x2 ⟨rfl, hf⟩
    have G2 : Aside0 (Fr No w6 x2) := ⟨G1.out.none hf⟩
    clear hf
    go_simp
    refine hK.out _ _ (fun _ x => Fr No w6 x) (fun k x hk h => h) ?_ ?_
    · exact fun _ _ => G2.out
    try simp only [Act.put, List.setIfInBounds_toArray, List.set_cons_zero, List.set_cons_succ]
    repeat (first
      | (refine Rg.q (o := ?_) (v := ?_) ?_ ?_ ?_ ?_ ?_
         rotate_left 2
         · (simp only [List.getElem?_toArray, List.getElem?_cons_succ, List.getElem?_cons_zero]; rfl)
         · exact fun _ _ _ h => h
         · first | rfl | (go_simp; done)
         · (intro x_ hx; (try dsimp only at hx); (skip); go_simp; (try rw [if_neg (by omega)]); (try rw [if_pos (by omega)]); (try go_simp); try with_reducible rfl)
         try simp only [Act.put, List.setIfInBounds_toArray, List.set_cons_zero, List.set_cons_succ])
      | (refine Rg.skip (o := ?_) ?_ ?_ ?_ ?_
         rotate_left 1
         · (simp only [List.getElem?_toArray, List.getElem?_cons_succ, List.getElem?_cons_zero]; rfl)
         · exact fun _ _ _ h => h
         · first | rfl | (go_simp; done)
         try simp only [Act.put, List.setIfInBounds_toArray, List.set_cons_zero, List.set_cons_succ]))
    refine Rg.done ?_
    go_simp
    have q1 : (convert 22 9 (.slice A' d.length c')).run Try.prog x2 = .ok (.string (bstr d)) x2 := str_of_rd (HD6.out.no G2.out)
    go_wp2_with fail
    clear q1
    have hcs : (Sha.cut whole J = Sha.cut whole d ∧ tw = false ∧ O = J) ∨ (¬ Sha.cut whole J = Sha.cut whole d ∧ tw = true ∧ O = d) := by
      by_cases hc : Sha.cut whole J = Sha.cut whole d
      · have := HRR.out
        rw [if_pos hc] at this
        exact .inl ⟨hc, by rw [← HTW.out, this]; rfl, by rw [← HOO.out, ← HTW.out, this]; rfl⟩
      · have := HRR.out
        rw [if_neg hc] at this
        refine .inr ⟨hc, by rw [← HTW.out, this]; rfl, by rw [← HOO.out, ← HTW.out, this]; rfl⟩
    have HCS := Aside0.mk hcs
    clear hcs
    obtain ⟨B1, hB1⟩ : ∃ B1 : Bool, (J == d) = B1 := ⟨_, rfl⟩
    obtain ⟨B2, hB2⟩ : ∃ B2 : Bool, (!decide (Sha.cut whole J = Sha.cut whole d)) = B2 := ⟨_, rfl⟩
    rw [hB1]
    have hjs : (bstr J).size ≤ 100000000 := by rw [bstr_size]; omega
    have hds : (bstr d).size ≤ 100000000 := by rw [bstr_size]; omega
    have qe := fun W => Arr.run_neq Try.underlying41 W (Sha.cut whole J) (Sha.cut whole d) (Sha.cut_length _ _) (Sha.cut_length _ _)
    unfold Arr.av at qe
    simp only [hB2] at qe
    have qg := fun x y W => run_eqGuard_agg (P := Try.prog) W .neq 41 x y ((Sha.cut whole J).map vu8).toArray ((Sha.cut whole d).map vu8).toArray (by kernel_rfl)
    have HB1 := Aside0.mk hB1; have HB2 := Aside0.mk hB2; have HJS := Aside0.mk hjs; have HDS := Aside0.mk hds
    clear hB1 hB2 hjs hds
    refine Rg.start (fun _ x => Fr No x2 x) (by kernel_rfl) (by kernel_rfl) [2, 6] [[1, 0, 2], [1, 0, 2, 4, 5, 3, 6]] (by kernel_rfl) (.q 0 0 (.q 1 0 (.q 3 1 (.q 4 1 (.q 5 1 (.e 2 1 (.e 6 2 (.q 7 2 (.q 8 2 (.done)))))))))) (by kernel_rfl) ?_ ?_
    · exact fun _ => (Fr.refl _ _).drew
    repeat (first
      | (refine Rg.q (o := ?_) (v := ?_) ?_ ?_ ?_ ?_ ?_
         rotate_left 2
         · (simp only [List.getElem?_toArray, List.getElem?_cons_succ, List.getElem?_cons_zero]; rfl)
         · exact fun _ _ _ h => h
         · first | rfl | (go_simp; done)
         · (intro x_ hx; (try dsimp only at hx); (have q0 := str_of_rd ((HD6.out.no G2.out).no hx)); go_simp; (try rw [if_neg (by omega)]); (try rw [if_pos (by omega)]); (try go_simp); try with_reducible rfl)
         try simp only [Act.put, List.setIfInBounds_toArray, List.set_cons_zero, List.set_cons_succ])
      | (refine Rg.skip (o := ?_) ?_ ?_ ?_ ?_
         rotate_left 1
         · (simp only [List.getElem?_toArray, List.getElem?_cons_succ, List.getElem?_cons_zero]; rfl)
         · exact fun _ _ _ h => h
         · first | rfl | (go_simp; done)
         try simp only [Act.put, List.setIfInBounds_toArray, List.set_cons_zero, List.set_cons_succ]))
    refine Rg.e (o := ?_) ?_ ?_
    rotate_left 1
    · (simp only [List.getElem?_toArray, List.getElem?_cons_succ, List.getElem?_cons_zero]; rfl)
    intro K hK
    go_simp
    refine (Sha.ref_cut_calls whole (bstr J) _ HJS.out hw1 hw2).mono ?_
    rintro en y1 ⟨rfl, hf⟩
    have Y1 : Aside0 (Fr No x2 y1) := ⟨((Fr.refl No x2).drew).none hf⟩
    clear hf
    rw [Sha.data_bstr]
    unfold Arr.av
    go_simp
    refine hK.out _ _ (fun _ x => Fr No x2 x) (fun k x hk h => h) ?_ ?_
    · exact fun _ _ => Y1.out
    try simp only [Act.put, List.setIfInBounds_toArray, List.set_cons_zero, List.set_cons_succ]
    repeat (first
      | (refine Rg.q (o := ?_) (v := ?_) ?_ ?_ ?_ ?_ ?_
         rotate_left 2
         · (simp only [List.getElem?_toArray, List.getElem?_cons_succ, List.getElem?_cons_zero]; rfl)
         · exact fun _ _ _ h => h
         · first | rfl | (go_simp; done)
         · (intro x_ hx; (try dsimp only at hx); (have q0 := str_of_rd ((HD6.out.no G2.out).no hx)); go_simp; (try rw [if_neg (by omega)]); (try rw [if_pos (by omega)]); (try go_simp); try with_reducible rfl)
         try simp only [Act.put, List.setIfInBounds_toArray, List.set_cons_zero, List.set_cons_succ])
      | (refine Rg.skip (o := ?_) ?_ ?_ ?_ ?_
         rotate_left 1
         · (simp only [List.getElem?_toArray, List.getElem?_cons_succ, List.getElem?_cons_zero]; rfl)
         · exact fun _ _ _ h => h
         · first | rfl | (go_simp; done)
         try simp only [Act.put, List.setIfInBounds_toArray, List.set_cons_zero, List.set_cons_succ]))
    refine Rg.e (o := ?_) ?_ ?_
    rotate_left 1
    · (simp only [List.getElem?_toArray, List.getElem?_cons_succ, List.getElem?_cons_zero]; rfl)
    intro K hK
    go_simp
    refine (Sha.ref_cut_calls whole (bstr d) _ HDS.out hw1 hw2).mono ?_
    rintro en y2 ⟨rfl, hf⟩
    have Y2 : Aside0 (Fr No x2 y2) := ⟨Y1.out.none hf⟩
    clear hf
    rw [Sha.data_bstr]
    unfold Arr.av
    go_simp
    refine hK.out _ _ (fun _ x => Fr No x2 x) (fun k x hk h => h) ?_ ?_
    · exact fun _ _ => Y2.out
    try simp only [Act.put, List.setIfInBounds_toArray, List.set_cons_zero, List.set_cons_succ]
    repeat (first
      | (refine Rg.q (o := ?_) (v := ?_) ?_ ?_ ?_ ?_ ?_
         rotate_left 2
         · (simp only [List.getElem?_toArray, List.getElem?_cons_succ, List.getElem?_cons_zero]; rfl)
         · exact fun _ _ _ h => h
         · first | rfl | (go_simp; done)
         · (intro x_ hx; (try dsimp only at hx); (skip); go_simp; (try rw [if_neg (by omega)]); (try rw [if_pos (by omega)]); (try go_simp); try with_reducible rfl)
         try simp only [Act.put, List.setIfInBounds_toArray, List.set_cons_zero, List.set_cons_succ])
      | (refine Rg.skip (o := ?_) ?_ ?_ ?_ ?_
         rotate_left 1
         · (simp only [List.getElem?_toArray, List.getElem?_cons_succ, List.getElem?_cons_zero]; rfl)
         · exact fun _ _ _ h => h
         · first | rfl | (go_simp; done)
         try simp only [Act.put, List.setIfInBounds_toArray, List.set_cons_zero, List.set_cons_succ]))
    refine Rg.done ?_
    go_simp
    clear qe qg
    have F9 : Aside0 (Fr No w6 y2) := ⟨G2.out.none Y2.out⟩
    have qd : (convert 22 9 (.slice A' d.length c')).run Try.prog y2 = .ok (.string (bstr d)) y2 := str_of_rd (HD6.out.no F9.out)
    have qo : (convert 22 9 (.slice Av O.length cv)).run Try.prog y2 = .ok (.string (bstr O)) y2 := str_of_rd (HN6.out.no F9.out).rd
    rcases HCS.out with ⟨hc, rfl, rfl⟩ | ⟨hc, rfl, rfl⟩
    · have hb2 : B2 = false := by rw [← HB2.out]; simp [hc]
      subst hb2
      have hb1 := HB1.out
      clear hc
      cases B1 with
      | true =>
        go_wp2
        go_ret
        exact ⟨rfl, (F3.out.none F6.out).none F9.out⟩
      | false =>
        go_wp2
        go_ret
        exact ⟨rfl, (F3.out.none F6.out).none F9.out⟩
    · have hb2 : B2 = true := by rw [← HB2.out]; simp [hc]
      subst hb2
      clear hc
      go_wp2
      go_ret
      exact ⟨rfl, (F3.out.none F6.out).none F9.out⟩
  · have hE0 : (makeE b.length size cut == 0) = false := by rw [beq_eq_false_iff_ne]; exact hE
    have hsd := send_bad (.slice A0 b.length c0) (.slice A' d.length c') b d size cut whole w2 (HB.out.no F1'.out) (HD0.out.no F1'.out) hsz hE
    have hmb := fun W h => make_bad (.slice A0 b.length c0) b size cut W h hsz hE
    obtain ⟨E, hEE⟩ : ∃ E, makeE b.length size cut = E := ⟨_, rfl⟩
    rw [hEE] at hE0 hsd
    simp only [hEE] at hmb
    have HMB := Aside0.mk hmb
    clear hmb hE hEE
    refine hsd.mono ?_
    rintro e w3 ⟨rfl, hf⟩
    have F3 : Aside0 (Fr No w w3) := ⟨F1'.out.none hf⟩
    clear hf hsd
    go_wp2_with fail
    refine (HMB.out w3 (HB.out.no F3.out)).mono ?_
    rintro e w4 ⟨rfl, hf⟩
    have F4 : Aside0 (Fr No w w4) := ⟨F3.out.none hf⟩
    clear hf
    go_wp2
    go_ret
    exact ⟨rfl, F4.out.alloc _⟩
theorem walk (vb : Value) (b : List UInt8) (vd : Value) (d : List UInt8) (size cut whole : Int) (w : World) (hb : RdB w vb b ∧ b.length ≤ reach) (hd : RdB w vd d ∧ d.length ≤ reach) (hs : (Lit.int .i64 size).wf = true ∧ (Lit.int .i64 cut).wf = true ∧ (Lit.int .i64 whole).wf = true) : Calls Try.prog 3 #[vb, vd, .agg #[.int .i64 size, .int .i64 cut, .int .i64 whole]] w fun e w' => e = .returned (.bool true) ∧ Fr No w w' := by
  by_cases h : 200 < b.length ∨ 200 < d.length
  · exact walk_out vb b vd d size cut whole w hb.1 hd.1 h
  · exact walk_ok vb b vd d size cut whole w hb.1 hd.1 (bounds_i64 hs.1).2 (bounds_i64 hs.2.2).1 (bounds_i64 hs.2.2).2 (by omega) (by omega)
end Go.Proofs.Ytnfneokmiopieaa.LPatchSends
