/- The walk of the law DeltaJoined. -/
import Derived.Test.YtebgkmfecmlanaaDelH
import Derived.Test.YtebgkmfecmlanaaSpecDel2
import Derived.Test.YtebgkmfecmlanaaLiftB
import Derived.OpenShut
set_option linter.unusedVariables false
set_option linter.unusedSimpArgs false
namespace Go.Proofs.Ytebgkmfecmlanaa.LDeltaJoined
open Go.ChangeShapes Go.RowKit Go.IntWalk Go.Proofs.YtebgkmfecmlanaaW.PrintWords Go.Proofs.Ytebgkmfecmlanaa.B Go.Proofs.Ytebgkmfecmlanaa.PB Go.Proofs.Ytebgkmfecmlanaa.SWeak Go.Proofs.Ytebgkmfecmlanaa.Bk Go.Proofs.Ytebgkmfecmlanaa.SBlk Go.Proofs.Ytebgkmfecmlanaa.Blk Go.Proofs.Ytebgkmfecmlanaa.L6 Go.Proofs.Ytebgkmfecmlanaa.STell Go.Proofs.Ytebgkmfecmlanaa.Tk Go.Proofs.Ytebgkmfecmlanaa.L7

set_option maxHeartbeats 8000000 in
set_option maxRecDepth 100000 in
theorem walk_out (vb : Value) (b : List UInt8) (vd : Value) (d : List UInt8) (size cut : Int) (w : World) (hb : RdB w vb b) (hd : RdB w vd d) (hout : 300 < b.length ∨ 300 < d.length) : Calls Try.prog 5 #[vb, vd, .agg #[.int .i64 size, .int .i64 cut]] w fun e w' => e = .returned (.bool true) ∧ Fr No w w' := by
  obtain ⟨A, c, rfl, _⟩ := id hb
  obtain ⟨A', c', rfl, _⟩ := id hd
  clear hb hd
  have hc : (300 : Int) < (b.length : Int) ∨ (¬ (300 : Int) < (b.length : Int) ∧ (300 : Int) < (d.length : Int)) := by omega
  clear hout
  rcases hc with h1 | ⟨h1, h2⟩
  all_goals
    go_enter Try.func5, Try.ntmps5
    go_wp2_with fail
    refine (tells_calls _).mono ?_
    rintro e w1 ⟨rfl, hf⟩
    have F1 : Aside0 (Fr No w w1) := ⟨((Fr.refl _ _).alloc _).none hf⟩
    clear hf
    go_wp2
    go_ret
    exact ⟨rfl, F1.out⟩

set_option maxHeartbeats 8000000 in
set_option maxRecDepth 100000 in
theorem walk_ok (vb : Value) (b : List UInt8) (vd : Value) (d : List UInt8) (size cut : Int) (w : World) (hb : RdB w vb b) (hd : RdB w vd d) (hsz : size ≤ 9223372036854775807) (h1 : ¬ (300 : Int) < (b.length : Int)) (h2 : ¬ (300 : Int) < (d.length : Int)) : Calls Try.prog 5 #[vb, vd, .agg #[.int .i64 size, .int .i64 cut]] w fun e w' => e = .returned (.bool true) ∧ Fr No w w' := by
  obtain ⟨A0, c0, rfl, hbc, _⟩ := id hb
  obtain ⟨A', c', rfl, hdc, _⟩ := id hd
  have HB := Aside0.mk hb; have HD0 := Aside0.mk hd
  clear hb hd
  go_enter Try.func5, Try.ntmps5
  go_upto_region 1 with fail
  have X0 := heap_alloc_new w (.cells #[.int .i64 size, .int .i64 cut] 23)
  have F0 : Aside0 (Fr No w (w.alloc (.cells #[.int .i64 size, .int .i64 cut] 23))) := ⟨(Fr.refl _ _).alloc _⟩
  change Code.wp _ _ _ _ (w.alloc (.cells #[.int .i64 size, .int .i64 cut] 23))
  generalize w.alloc (.cells #[.int .i64 size, .int .i64 cut] 23) = w0 at X0 F0 ⊢
  go_wp2_with fail
  refine (tells_calls w0).mono ?_
  rintro e w1 ⟨rfl, hf⟩
  have F1 : Aside0 (Fr No w w1) := ⟨F0.out.none hf⟩
  have k0 : w1.cell? ⟨w.heap.size, 0, Option.none⟩ = some (.int .i64 size) := by rw [blk_cell (hf.heap X0 id)]; rfl
  have k1 : w1.cell? ⟨w.heap.size, 1, Option.none⟩ = some (.int .i64 cut) := by rw [blk_cell (hf.heap X0 id)]; rfl
  clear hf X0
  go_wp2_with fail
  by_cases hE : makeE b.length size cut = 0
  · have hbl := makeS_length b size cut
    unfold makeS at hbl
    rw [if_pos hE] at hbl
    dsimp only at hbl
    obtain ⟨s, d0, rfl, rfl, hs1, hs2, hd2⟩ := made7 hE
    have htm := tellR_made hE d
    have hto := tellR_made hE b
    have hgm := good_made (b := b) (cut := d0) hs1 d
    have hom := own_made (b := b) (cut := d0) hs1
    have hcm := chk_made hE
    rw [Int.toNat_natCast] at hbl hcm
    have hbn := blocks_length s d0 b (cnt b.length s)
    obtain ⟨L, hL⟩ : ∃ L, tell s (fB s b.length d0 (blocks s d0 b (cnt b.length s))) d [] = L := ⟨_, rfl⟩
    obtain ⟨L2, hL2⟩ : ∃ L2, tell s (fB s b.length d0 (blocks s d0 b (cnt b.length s))) b [] = L2 := ⟨_, rfl⟩
    rw [hL] at htm hgm
    rw [hL2] at hto hom
    rw [← hbn] at hgm hom
    refine (make_ok _ b s d0 w1 (HB.out.no F1.out) (by omega) hsz hE).mono ?_
    rintro e w2 ⟨sl, rfl, hO, hf⟩
    have F2 : Aside0 (Fr No w w2) := ⟨F1.out.none hf⟩
    rw [Int.toNat_natCast] at hO
    obtain ⟨bs, hbs⟩ : ∃ bs, blocks s d0 b (cnt b.length s) = bs := ⟨_, rfl⟩
    rw [hbs] at hO hbl htm hto hgm hom hcm
    obtain ⟨A, c, rfl⟩ := hO.1.form
    have HO := Aside0.mk hO
    have HTM := Aside0.mk htm; have HTO := Aside0.mk hto; have HGM := Aside0.mk hgm; have HOM := Aside0.mk hom; have HCM := Aside0.mk hcm
    clear hf hO k0 k1 hbs hE htm hto hgm hom hcm hbn hL hL2
    go_upto_region 6 with fail
    have XS : Aside0 ((w2.alloc (.cells (sgC s d0 b.length (.slice A bs.length c)) 27)).heap[w2.heap.size]? = some (.cells (sgC s d0 b.length (.slice A bs.length c)) 27 (0, 0))) := ⟨heap_alloc_new w2 _⟩
    have FB : Aside0 (Fr No w (w2.alloc (.cells (sgC s d0 b.length (.slice A bs.length c)) 27))) := ⟨F2.out.alloc _⟩
    have HV : Aside0 (Rd (fBk .u32) (w2.alloc (.cells (sgC s d0 b.length (.slice A bs.length c)) 27)) (.slice A bs.length c) bs) := ⟨HO.out.1.rd.no ((Fr.refl _ _).alloc _)⟩
    change Code.wp _ _ _ _ (w2.alloc (.cells (sgC s d0 b.length (.slice A bs.length c)) 27))
    generalize w2.alloc (.cells (sgC s d0 b.length (.slice A bs.length c)) 27) = w4 at XS FB HV ⊢
    have HD := Aside0.mk (HD0.out.no FB.out)
    clear HO
    obtain ⟨g, hg⟩ : ∃ g, w2.heap.size = g := ⟨_, rfl⟩
    rw [hg] at XS ⊢
    clear hg
    have hdm := fun W h1 h2 => dmake_calls s d0 b.length (.slice A bs.length c) (.slice A' d.length c') bs d W h1 h2 (by omega) (by omega) (by omega)
    have hdo := fun W h1 h2 => dmake_calls s d0 b.length (.slice A bs.length c) (.slice A0 b.length c0) bs b W h1 h2 (by omega) (by omega) (by omega)
    have hX := tellR_length s d0 b.length bs d
    have hX2 := tellR_length s d0 b.length bs b
    simp only [HTM.out, HTO.out, HCM.out] at hdm hdo hX hX2
    have HDM := Aside0.mk hdm; have HDO := Aside0.mk hdo
    clear hdm hdo
    have LD := ld_all (P := Try.prog) (ty := 27) XS.out Try.underlying27 rfl (by kernel_rfl)
    go_wp2_with (first
      | (refine ldG (.tmp 7) 27 _ _ rfl rfl (LD _ (Fr.refl _ _)) (by first | rfl | (go_simp; done)) ?_)
      | fail)
    refine (HDM.out w4 HV.out HD.out).mono ?_
    rintro e w5 ⟨vo, rfl, hT, hf⟩
    obtain ⟨fs, hT, hfs⟩ := hT
    have hfl : fs.length ≤ 300 := by rw [← hfs, List.length_map] at hX; omega
    have F5 : Aside0 (Fr No w4 w5) := ⟨hf⟩
    have HT := Aside0.mk hT
    have HTK : Aside0 (∀ (i : Nat) (e : TV), fs[i]? = some e → okT bs.length e.tok) := ⟨fun i e he => HGM.out.ok _ (by rw [← hfs]; exact List.mem_map_of_mem (List.mem_of_getElem? he))⟩
    have HAP : Aside0 (∀ (i : Nat) (p e : TV), fs[i]? = some p → fs[i + 1]? = some e → joins p.tok e.tok = none) := ⟨fun i p e hp he => HGM.out.ap i _ _ (by rw [← hfs, List.getElem?_map, hp]; rfl) (by rw [← hfs, List.getElem?_map, he]; rfl)⟩
    obtain ⟨Av, cv, rfl⟩ := hT.row.form
    clear hf hT hfs hX LD
    go_wp2_with fail
    go_loopw [48] (fun v48 wr => ∃ i : Nat, v48 = .int .i64 (i : Int) ∧ i ≤ fs.length ∧ Aside0 (Fr No w5 wr)) (fun v48 _ => fs.length - (intOf v48).toNat)
    case atStart => exact ⟨0, rfl, Nat.zero_le _, ⟨Fr.refl _ _⟩⟩
    case round =>
      obtain ⟨i, rfl, hi, HF⟩ := hrel
      by_cases hil : i < fs.length
      · have hiI : (i : Int) < (fs.length : Int) := by omega
        obtain ⟨e, he⟩ : ∃ e, fs[i]? = some e := ⟨_, List.getElem?_eq_getElem hil⟩
        have hok := HTK.out i e he
        obtain ⟨ad, hA, hcv⟩ := rd_elem (HT.out.row.rd.no HF.out) i e he
        obtain ⟨f1, q1, A1, p1, x1⟩ := e
        have HE := Aside0.mk he
        obtain rfl := hA
        have k0 : wr.cell? (ad.add (i * 3)) = some (.int .i64 f1) := by have := hcv 0 _ rfl; rw [add_add, Nat.add_zero] at this; exact this
        have k1 : wr.cell? { block := (ad.add (i * 3)).block, off := (ad.add (i * 3)).off + 1 } = some (.int .i64 q1) := hcv 1 _ rfl
        have k2 : wr.cell? { block := (ad.add (i * 3)).block, off := (ad.add (i * 3)).off + 2 } = some (.slice A1 x1.length p1) := hcv 2 _ rfl
        clear hcv he
        obtain ⟨o1, o2, o3, o4⟩ := hok
        dsimp only [TV.tok] at o1 o2 o3 o4
        go_upto_region 14 with fail
        have XB := heap_alloc_new wr (.cells #[.int .i64 f1, .int .i64 q1, .slice A1 x1.length p1] 46)
        have FX : Aside0 (Fr No wr (wr.alloc (.cells #[.int .i64 f1, .int .i64 q1, .slice A1 x1.length p1] 46))) := ⟨(Fr.refl _ _).alloc _⟩
        change Code.wp _ _ _ _ (wr.alloc (.cells #[.int .i64 f1, .int .i64 q1, .slice A1 x1.length p1] 46))
        generalize wr.alloc (.cells #[.int .i64 f1, .int .i64 q1, .slice A1 x1.length p1] 46) = wx at XB FX ⊢
        have d0' : wx.cell? ⟨wr.heap.size, 0, Option.none⟩ = some (.int .i64 f1) := by rw [blk_cell XB]; rfl
        have d1' : wx.cell? ⟨wr.heap.size, 1, Option.none⟩ = some (.int .i64 q1) := by rw [blk_cell XB]; rfl
        have d2' : wx.cell? ⟨wr.heap.size, 2, Option.none⟩ = some (.slice A1 x1.length p1) := by rw [blk_cell XB]; rfl
        have c3 : wx.cell? ⟨g, 3, Option.none⟩ = some (.slice A bs.length c) := by rw [blk_cell (FX.out.heap (HF.out.heap (F5.out.heap XS.out id) id) id)]; rfl
        clear XB k0 k1 k2
        have hprev : i = 0 ∨ ∃ j pf pc pA pp px, i = j + 1 ∧ fs[j]? = some (⟨pf, pc, pA, pp, px⟩ : TV) := by
          rcases Nat.eq_zero_or_pos i with h | h
          · exact .inl h
          · obtain ⟨pe, hp⟩ : ∃ pe, fs[i - 1]? = some pe := ⟨_, List.getElem?_eq_getElem (by omega)⟩
            exact .inr ⟨i - 1, pe.f, pe.c, pe.A, pe.cp, pe.xs, by omega, hp⟩
        rcases (by omega : 0 < q1 ∨ q1 ≤ 0) with hq | hq
        · obtain ⟨g1, g2⟩ := o3 hq
          subst g1
          have hn1 : ¬ q1 < 0 := by omega
          have hn2 : ¬ f1 < 0 := by omega
          have hn3 : ¬ (bs.length : Int) < f1 + q1 := by omega
          have hn4 : (q1 == 0) = false := by rw [beq_eq_false_iff_ne]; omega
          have hw9 : IntKind.i64.wrap (f1 + q1) = f1 + q1 := by rw [i64_left]; exact wrap64_in _ (by omega)
          clear o3 o4
          go_wp2_with fail
          clear hn1 hn2 hn3 hw9 c3 d2'
          rcases hprev with rfl | ⟨j, pf, pc, pA, pp, px, rfl, hp⟩
          · skip
            refine Rg.start (fun _ x => Fr No wx x) (by kernel_rfl) (by kernel_rfl) [] [] (by kernel_rfl) (.q 0 0 (.q 1 0 (.q 2 0 (.q 3 0 (.q 4 0 (.q 5 0 (.q 6 0 (.q 7 0 (.q 8 0 (.q 9 0 (.q 10 0 (.q 11 0 (.q 12 0 (.q 13 0 (.q 14 0 (.q 15 0 (.q 16 0 (.q 17 0 (.q 18 0 (.q 19 0 (.q 20 0 (.q 21 0 (.q 22 0 (.q 23 0 (.q 24 0 (.q 25 0 (.q 26 0 (.q 27 0 (.q 28 0 (.q 29 0 (.q 30 0 (.q 31 0 (.q 32 0 (.q 33 0 (.q 34 0 (.q 35 0 (.q 36 0 (.q 37 0 (.q 38 0 (.q 39 0 (.q 40 0 (.q 41 0 (.q 42 0 (.q 43 0 (.q 44 0 (.q 45 0 (.q 46 0 (.q 47 0 (.done))))))))))))))))))))))))))))))))))))))))))))))))) (by kernel_rfl) ?_ ?_
            · exact fun _ => (Fr.refl _ _).drew
            repeat (first
              | (refine Rg.q (o := ?_) (v := ?_) ?_ ?_ ?_ ?_ ?_
                 rotate_left 2
                 · (simp only [List.getElem?_toArray, List.getElem?_cons_succ, List.getElem?_cons_zero]; rfl)
                 · exact fun _ _ _ h => h
                 · first | rfl | (go_simp; done)
                 · (intro x_ hx; (try dsimp only at hx); first | (fail) | (fail) | (skip; (try clear hx); go_simp; (try rw [if_neg (by omega)]); (try rw [if_pos (by omega)]); (try go_simp); try with_reducible rfl))
                 try simp only [Act.put, List.setIfInBounds_toArray, List.set_cons_zero, List.set_cons_succ])
              | (refine Rg.skip (o := ?_) ?_ ?_ ?_ ?_
                 rotate_left 1
                 · (simp only [List.getElem?_toArray, List.getElem?_cons_succ, List.getElem?_cons_zero]; rfl)
                 · exact fun _ _ _ h => h
                 · first | rfl | (go_simp; done)
                 try simp only [Act.put, List.setIfInBounds_toArray, List.set_cons_zero, List.set_cons_succ]))
            refine Rg.done ?_
            go_simp
            go_wp2
            go_roundw
            case rel => exact ⟨1, by go_num, by omega, ⟨(HF.out.none FX.out).drew⟩⟩
            case measure => simp [intOf]; omega
          · skip
            have hjn := apart_cases (HTK.out _ _ hp) (HTK.out _ _ HE.out) (HAP.out _ _ _ hp HE.out)
            have hpo := HTK.out _ _ hp
            dsimp only [TV.tok] at hjn
            obtain ⟨ad', hA', hcp⟩ := rd_elem ((HT.out.row.rd.no HF.out).no FX.out) j _ hp
            obtain rfl : ad = ad' := by injection hA'
            have m0 : wx.cell? (ad.add (j * 3)) = some (.int .i64 pf) := by have := hcp 0 _ rfl; rw [add_add, Nat.add_zero] at this; exact this
            have m1 : wx.cell? { block := (ad.add (j * 3)).block, off := (ad.add (j * 3)).off + 1 } = some (.int .i64 pc) := hcp 1 _ rfl
            have hjl : j < fs.length := by omega
            have hj1 : ((j + 1 : Nat) : Int) - 1 = (j : Int) := by omega
            have hwj : IntKind.i64.wrap ((j : Nat) : Int) = (j : Int) := by rw [i64_left]; exact wrap64_in _ (by omega)
            have hpb : 0 ≤ pf ∧ 0 ≤ pc := ⟨hpo.f0, hpo.c0⟩
            have hpsum : 0 < pc → pf + pc ≤ (bs.length : Int) := fun h9 => (hpo.blk h9).2
            clear hp hA' hcp hpo
            rcases hjn with ⟨h1, h2⟩ | ⟨h1, h2⟩ | ⟨h1, h2, h3⟩
            · omega
            · have h4 : ¬ 0 < pc := by omega
              refine Rg.start (fun _ x => Fr No wx x) (by kernel_rfl) (by kernel_rfl) [] [] (by kernel_rfl) (.q 0 0 (.q 1 0 (.q 2 0 (.q 3 0 (.q 4 0 (.q 5 0 (.q 6 0 (.q 7 0 (.q 8 0 (.q 9 0 (.q 10 0 (.q 11 0 (.q 12 0 (.q 13 0 (.q 14 0 (.q 15 0 (.q 16 0 (.q 17 0 (.q 18 0 (.q 19 0 (.q 20 0 (.q 21 0 (.q 22 0 (.q 23 0 (.q 24 0 (.q 25 0 (.q 26 0 (.q 27 0 (.q 28 0 (.q 29 0 (.q 30 0 (.q 31 0 (.q 32 0 (.q 33 0 (.q 34 0 (.q 35 0 (.q 36 0 (.q 37 0 (.q 38 0 (.q 39 0 (.q 40 0 (.q 41 0 (.q 42 0 (.q 43 0 (.q 44 0 (.q 45 0 (.q 46 0 (.q 47 0 (.done))))))))))))))))))))))))))))))))))))))))))))))))) (by kernel_rfl) ?_ ?_
              · exact fun _ => (Fr.refl _ _).drew
              repeat (first
                | (refine Rg.q (o := ?_) (v := ?_) ?_ ?_ ?_ ?_ ?_
                   rotate_left 2
                   · (simp only [List.getElem?_toArray, List.getElem?_cons_succ, List.getElem?_cons_zero]; rfl)
                   · exact fun _ _ _ h => h
                   · first | rfl | (go_simp; done)
                   · (intro x_ hx; (try dsimp only at hx); first | ((refine (ex_ix 31 46 3 _ _ ad (some ad) fs.length cv j _ Try.underlying31 (by kernel_rfl) rfl rfl rfl rfl (by omega) hjl).trans ?_; with_reducible rfl)) | (fail) | (have z1 := hx.cell d1' id; have z2 := hx.cell m1 id; (try clear hx); go_simp; (try rw [if_neg (by omega)]); (try rw [if_pos (by omega)]); (try go_simp); try with_reducible rfl))
                   try simp only [Act.put, List.setIfInBounds_toArray, List.set_cons_zero, List.set_cons_succ])
                | (refine Rg.skip (o := ?_) ?_ ?_ ?_ ?_
                   rotate_left 1
                   · (simp only [List.getElem?_toArray, List.getElem?_cons_succ, List.getElem?_cons_zero]; rfl)
                   · exact fun _ _ _ h => h
                   · first | rfl | (go_simp; done)
                   try simp only [Act.put, List.setIfInBounds_toArray, List.set_cons_zero, List.set_cons_succ]))
              refine Rg.done ?_
              go_simp
              go_wp2
              go_roundw
              case rel => exact ⟨j + 1 + 1, by go_num, by omega, ⟨(HF.out.none FX.out).drew⟩⟩
              case measure => simp [intOf]; omega
            · have h4 : (pf + pc == f1) = false := by rw [beq_eq_false_iff_ne]; exact h3
              have hpbs : pf + pc ≤ 1000000000 := by have := hpsum h2; omega
              have hw8 : IntKind.i64.wrap (pf + pc) = pf + pc := by rw [i64_left]; exact wrap64_in _ (by omega)
              clear h3
              refine Rg.start (fun _ x => Fr No wx x) (by kernel_rfl) (by kernel_rfl) [] [] (by kernel_rfl) (.q 0 0 (.q 1 0 (.q 2 0 (.q 3 0 (.q 4 0 (.q 5 0 (.q 6 0 (.q 7 0 (.q 8 0 (.q 9 0 (.q 10 0 (.q 11 0 (.q 12 0 (.q 13 0 (.q 14 0 (.q 15 0 (.q 16 0 (.q 17 0 (.q 18 0 (.q 19 0 (.q 20 0 (.q 21 0 (.q 22 0 (.q 23 0 (.q 24 0 (.q 25 0 (.q 26 0 (.q 27 0 (.q 28 0 (.q 29 0 (.q 30 0 (.q 31 0 (.q 32 0 (.q 33 0 (.q 34 0 (.q 35 0 (.q 36 0 (.q 37 0 (.q 38 0 (.q 39 0 (.q 40 0 (.q 41 0 (.q 42 0 (.q 43 0 (.q 44 0 (.q 45 0 (.q 46 0 (.q 47 0 (.done))))))))))))))))))))))))))))))))))))))))))))))))) (by kernel_rfl) ?_ ?_
              · exact fun _ => (Fr.refl _ _).drew
              repeat (first
                | (refine Rg.q (o := ?_) (v := ?_) ?_ ?_ ?_ ?_ ?_
                   rotate_left 2
                   · (simp only [List.getElem?_toArray, List.getElem?_cons_succ, List.getElem?_cons_zero]; rfl)
                   · exact fun _ _ _ h => h
                   · first | rfl | (go_simp; done)
                   · (intro x_ hx; (try dsimp only at hx); first | ((refine (ex_ix 31 46 3 _ _ ad (some ad) fs.length cv j _ Try.underlying31 (by kernel_rfl) rfl rfl rfl rfl (by omega) hjl).trans ?_; with_reducible rfl)) | (fail) | (have z0 := hx.cell d0' id; have z1 := hx.cell d1' id; have z2 := hx.cell m1 id; have z3 := hx.cell m0 id; (try clear hx); go_simp; (try rw [if_neg (by omega)]); (try rw [if_pos (by omega)]); (try go_simp); try with_reducible rfl))
                   try simp only [Act.put, List.setIfInBounds_toArray, List.set_cons_zero, List.set_cons_succ])
                | (refine Rg.skip (o := ?_) ?_ ?_ ?_ ?_
                   rotate_left 1
                   · (simp only [List.getElem?_toArray, List.getElem?_cons_succ, List.getElem?_cons_zero]; rfl)
                   · exact fun _ _ _ h => h
                   · first | rfl | (go_simp; done)
                   try simp only [Act.put, List.setIfInBounds_toArray, List.set_cons_zero, List.set_cons_succ]))
              refine Rg.done ?_
              go_simp
              go_wp2
              go_roundw
              case rel => exact ⟨j + 1 + 1, by go_num, by omega, ⟨(HF.out.none FX.out).drew⟩⟩
              case measure => simp [intOf]; omega
        · obtain rfl : q1 = 0 := by omega
          obtain ⟨g1, g2⟩ := o4 rfl
          subst g1
          have hn4 : ((x1.length : Int) == 0) = false := by rw [beq_eq_false_iff_ne]; intro h9; exact g2 (List.length_eq_zero_iff.1 (by omega))
          clear o3 o4 g2
          go_wp2_with fail
          clear hn4 c3 d2'
          rcases hprev with rfl | ⟨j, pf, pc, pA, pp, px, rfl, hp⟩
          · skip
            refine Rg.start (fun _ x => Fr No wx x) (by kernel_rfl) (by kernel_rfl) [] [] (by kernel_rfl) (.q 0 0 (.q 1 0 (.q 2 0 (.q 3 0 (.q 4 0 (.q 5 0 (.q 6 0 (.q 7 0 (.q 8 0 (.q 9 0 (.q 10 0 (.q 11 0 (.q 12 0 (.q 13 0 (.q 14 0 (.q 15 0 (.q 16 0 (.q 17 0 (.q 18 0 (.q 19 0 (.q 20 0 (.q 21 0 (.q 22 0 (.q 23 0 (.q 24 0 (.q 25 0 (.q 26 0 (.q 27 0 (.q 28 0 (.q 29 0 (.q 30 0 (.q 31 0 (.q 32 0 (.q 33 0 (.q 34 0 (.q 35 0 (.q 36 0 (.q 37 0 (.q 38 0 (.q 39 0 (.q 40 0 (.q 41 0 (.q 42 0 (.q 43 0 (.q 44 0 (.q 45 0 (.q 46 0 (.q 47 0 (.done))))))))))))))))))))))))))))))))))))))))))))))))) (by kernel_rfl) ?_ ?_
            · exact fun _ => (Fr.refl _ _).drew
            repeat (first
              | (refine Rg.q (o := ?_) (v := ?_) ?_ ?_ ?_ ?_ ?_
                 rotate_left 2
                 · (simp only [List.getElem?_toArray, List.getElem?_cons_succ, List.getElem?_cons_zero]; rfl)
                 · exact fun _ _ _ h => h
                 · first | rfl | (go_simp; done)
                 · (intro x_ hx; (try dsimp only at hx); first | (fail) | (fail) | (skip; (try clear hx); go_simp; (try rw [if_neg (by omega)]); (try rw [if_pos (by omega)]); (try go_simp); try with_reducible rfl))
                 try simp only [Act.put, List.setIfInBounds_toArray, List.set_cons_zero, List.set_cons_succ])
              | (refine Rg.skip (o := ?_) ?_ ?_ ?_ ?_
                 rotate_left 1
                 · (simp only [List.getElem?_toArray, List.getElem?_cons_succ, List.getElem?_cons_zero]; rfl)
                 · exact fun _ _ _ h => h
                 · first | rfl | (go_simp; done)
                 try simp only [Act.put, List.setIfInBounds_toArray, List.set_cons_zero, List.set_cons_succ]))
            refine Rg.done ?_
            go_simp
            go_wp2
            go_roundw
            case rel => exact ⟨1, by go_num, by omega, ⟨(HF.out.none FX.out).drew⟩⟩
            case measure => simp [intOf]; omega
          · skip
            have hjn := apart_cases (HTK.out _ _ hp) (HTK.out _ _ HE.out) (HAP.out _ _ _ hp HE.out)
            have hpo := HTK.out _ _ hp
            dsimp only [TV.tok] at hjn
            obtain ⟨ad', hA', hcp⟩ := rd_elem ((HT.out.row.rd.no HF.out).no FX.out) j _ hp
            obtain rfl : ad = ad' := by injection hA'
            have m0 : wx.cell? (ad.add (j * 3)) = some (.int .i64 pf) := by have := hcp 0 _ rfl; rw [add_add, Nat.add_zero] at this; exact this
            have m1 : wx.cell? { block := (ad.add (j * 3)).block, off := (ad.add (j * 3)).off + 1 } = some (.int .i64 pc) := hcp 1 _ rfl
            have hjl : j < fs.length := by omega
            have hj1 : ((j + 1 : Nat) : Int) - 1 = (j : Int) := by omega
            have hwj : IntKind.i64.wrap ((j : Nat) : Int) = (j : Int) := by rw [i64_left]; exact wrap64_in _ (by omega)
            have hpb : 0 ≤ pf ∧ 0 ≤ pc := ⟨hpo.f0, hpo.c0⟩
            clear hp hA' hcp hpo
            have h4 : 0 < pc := by omega
            have h5 : (pc == 0) = false := by rw [beq_eq_false_iff_ne]; omega
            clear hjn
            refine Rg.start (fun _ x => Fr No wx x) (by kernel_rfl) (by kernel_rfl) [] [] (by kernel_rfl) (.q 0 0 (.q 1 0 (.q 2 0 (.q 3 0 (.q 4 0 (.q 5 0 (.q 6 0 (.q 7 0 (.q 8 0 (.q 9 0 (.q 10 0 (.q 11 0 (.q 12 0 (.q 13 0 (.q 14 0 (.q 15 0 (.q 16 0 (.q 17 0 (.q 18 0 (.q 19 0 (.q 20 0 (.q 21 0 (.q 22 0 (.q 23 0 (.q 24 0 (.q 25 0 (.q 26 0 (.q 27 0 (.q 28 0 (.q 29 0 (.q 30 0 (.q 31 0 (.q 32 0 (.q 33 0 (.q 34 0 (.q 35 0 (.q 36 0 (.q 37 0 (.q 38 0 (.q 39 0 (.q 40 0 (.q 41 0 (.q 42 0 (.q 43 0 (.q 44 0 (.q 45 0 (.q 46 0 (.q 47 0 (.done))))))))))))))))))))))))))))))))))))))))))))))))) (by kernel_rfl) ?_ ?_
            · exact fun _ => (Fr.refl _ _).drew
            repeat (first
              | (refine Rg.q (o := ?_) (v := ?_) ?_ ?_ ?_ ?_ ?_
                 rotate_left 2
                 · (simp only [List.getElem?_toArray, List.getElem?_cons_succ, List.getElem?_cons_zero]; rfl)
                 · exact fun _ _ _ h => h
                 · first | rfl | (go_simp; done)
                 · (intro x_ hx; (try dsimp only at hx); first | ((refine (ex_ix 31 46 3 _ _ ad (some ad) fs.length cv j _ Try.underlying31 (by kernel_rfl) rfl rfl rfl rfl (by omega) hjl).trans ?_; with_reducible rfl)) | (fail) | (have z1 := hx.cell d1' id; have z2 := hx.cell m1 id; (try clear hx); go_simp; (try rw [if_neg (by omega)]); (try rw [if_pos (by omega)]); (try go_simp); try with_reducible rfl))
                 try simp only [Act.put, List.setIfInBounds_toArray, List.set_cons_zero, List.set_cons_succ])
              | (refine Rg.skip (o := ?_) ?_ ?_ ?_ ?_
                 rotate_left 1
                 · (simp only [List.getElem?_toArray, List.getElem?_cons_succ, List.getElem?_cons_zero]; rfl)
                 · exact fun _ _ _ h => h
                 · first | rfl | (go_simp; done)
                 try simp only [Act.put, List.setIfInBounds_toArray, List.set_cons_zero, List.set_cons_succ]))
            refine Rg.done ?_
            go_simp
            go_wp2
            go_roundw
            case rel => exact ⟨j + 1 + 1, by go_num, by omega, ⟨(HF.out.none FX.out).drew⟩⟩
            case measure => simp [intOf]; omega
      · have hiI : ¬ (i : Int) < (fs.length : Int) := by omega
        have F6 : Aside0 (Fr No w4 wr) := ⟨F5.out.none HF.out⟩
        have LD6 := ld_all (P := Try.prog) (ty := 27) (F6.out.heap XS.out id) Try.underlying27 rfl (by kernel_rfl)
        go_wp2_with (first
          | (refine ldG (.tmp 7) 27 _ _ rfl rfl (LD6 _ (Fr.refl _ _)) (by first | rfl | (go_simp; done)) ?_)
          | fail)
        refine (HDO.out wr (HV.out.no F6.out) ((HB.out.no FB.out).no F6.out)).mono ?_
        rintro e w7 ⟨v2, rfl, hT2, hf⟩
        obtain ⟨f2, hT2, hf2⟩ := hT2
        have hfl2 : f2.length ≤ 300 := by rw [← hf2, List.length_map] at hX2; omega
        have F7 : Aside0 (Fr No w4 w7) := ⟨F6.out.none hf⟩
        have HT2 := Aside0.mk hT2
        obtain ⟨Aw, cw, rfl⟩ := hT2.row.form
        have HBR : Aside0 (∀ (i : Nat) (e : TV), f2[i]? = some e → 0 < e.c ∧ sumC (L2.take (i + 1)) = sumC (L2.take i) + e.c) := ⟨fun i e he => by
          have h1 : L2[i]? = some e.tok := by rw [← hf2, List.getElem?_map, he]; rfl
          exact ⟨(HOM.out.1 _ (List.mem_of_getElem? h1)).1, sumC_take L2 i _ h1⟩⟩
        have HLL : Aside0 (L2.take f2.length = L2) := ⟨List.take_of_length_le (by rw [← hf2, List.length_map]; exact Nat.le_refl _)⟩
        have HBD : Aside0 (∀ i, 0 ≤ sumC (L2.take i) ∧ sumC (L2.take i) ≤ (bs.length : Int)) := ⟨fun i => by rw [← HOM.out.2]; exact sumC_bound HOM.out.1 i⟩
        clear hf hT2 hf2 hX2 LD6
        go_wp2_with fail
        go_loopw [14, 151] (fun v14 v151 wx => ∃ (i : Nat) (z : Int), v151 = .int .i64 (i : Int) ∧ v14 = .int .i64 z ∧ i ≤ f2.length ∧ 0 ≤ z ∧ z ≤ 1000000 ∧ Aside0 (z = sumC (L2.take i)) ∧ Aside0 (Fr No w7 wx)) (fun _ v151 _ => f2.length - (intOf v151).toNat)
        case atStart => exact ⟨0, 0, rfl, rfl, Nat.zero_le _, by omega, by omega, ⟨rfl⟩, ⟨Fr.refl _ _⟩⟩
        case round =>
          obtain ⟨i, z, rfl, rfl, hi2, hz1, hz2, HZ, HF2⟩ := hrel
          by_cases hil2 : i < f2.length
          · have hiI2 : (i : Int) < (f2.length : Int) := by omega
            obtain ⟨e, he⟩ : ∃ e, f2[i]? = some e := ⟨_, List.getElem?_eq_getElem hil2⟩
            obtain ⟨hc0, hcs⟩ := HBR.out i e he
            have hbd := HBD.out (i + 1)
            rw [hcs, ← HZ.out] at hbd
            obtain ⟨ad, hA, hcv⟩ := rd_elem (HT2.out.row.rd.no HF2.out) i e he
            obtain ⟨f1, q1, A1, p1, x1⟩ := e
            obtain rfl := hA
            dsimp only at hc0 hcs hbd
            have HCS := Aside0.mk hcs
            have k0 : wr.cell? (ad.add (i * 3)) = some (.int .i64 f1) := by have := hcv 0 _ rfl; rw [add_add, Nat.add_zero] at this; exact this
            have k1 : wr.cell? { block := (ad.add (i * 3)).block, off := (ad.add (i * 3)).off + 1 } = some (.int .i64 q1) := hcv 1 _ rfl
            have k2 : wr.cell? { block := (ad.add (i * 3)).block, off := (ad.add (i * 3)).off + 2 } = some (.slice A1 x1.length p1) := hcv 2 _ rfl
            clear hcv he hcs
            go_upto_region 24 with fail
            have XB := heap_alloc_new wr (.cells #[.int .i64 f1, .int .i64 q1, .slice A1 x1.length p1] 46)
            have FX : Aside0 (Fr No wr (wr.alloc (.cells #[.int .i64 f1, .int .i64 q1, .slice A1 x1.length p1] 46))) := ⟨(Fr.refl _ _).alloc _⟩
            change Code.wp _ _ _ _ (wr.alloc (.cells #[.int .i64 f1, .int .i64 q1, .slice A1 x1.length p1] 46))
            generalize wr.alloc (.cells #[.int .i64 f1, .int .i64 q1, .slice A1 x1.length p1] 46) = wx at XB FX ⊢
            have d1' : wx.cell? ⟨wr.heap.size, 1, Option.none⟩ = some (.int .i64 q1) := by rw [blk_cell XB]; rfl
            have hq0 : (q1 == 0) = false := by rw [beq_eq_false_iff_ne]; omega
            have hwz : IntKind.i64.wrap (z + q1) = z + q1 := by rw [i64_left]; exact wrap64_in _ (by omega)
            clear XB k0 k1 k2
            go_wp2
            go_roundw
            case rel => exact ⟨i + 1, z + q1, by go_num, rfl, by omega, by omega, by omega, ⟨by rw [HCS.out, ← HZ.out]⟩, ⟨HF2.out.none FX.out⟩⟩
            case measure => simp [intOf]; omega
          · have hiI2 : ¬ (i : Int) < (f2.length : Int) := by omega
            obtain rfl : i = f2.length := by omega
            have hzb : z = (bs.length : Int) := by rw [HZ.out, HLL.out]; exact HOM.out.2
            subst hzb
            have c3 : wr.cell? ⟨g, 3, Option.none⟩ = some (.slice A bs.length c) := by rw [blk_cell ((F7.out.none HF2.out).heap XS.out id)]; rfl
            go_wp2
            go_ret
            exact ⟨rfl, (FB.out.none F7.out).none HF2.out⟩
  · have hE0 : (makeE b.length size cut == 0) = false := by rw [beq_eq_false_iff_ne]; exact hE
    refine (make_bad _ b size cut w1 (HB.out.no F1.out) hsz hE).mono ?_
    obtain ⟨E, hEE⟩ : ∃ E, makeE b.length size cut = E := ⟨_, rfl⟩
    rw [hEE] at hE0 ⊢
    rintro e w2 ⟨rfl, hf⟩
    have F2 : Aside0 (Fr No w w2) := ⟨F1.out.none hf⟩
    clear hf k0 k1
    go_wp2
    go_ret
    exact ⟨rfl, F2.out.alloc _⟩
theorem walk (vb : Value) (b : List UInt8) (vd : Value) (d : List UInt8) (size cut : Int) (w : World) (hb : RdB w vb b ∧ b.length ≤ reach) (hd : RdB w vd d ∧ d.length ≤ reach) (hs : (Lit.int .i64 size).wf = true ∧ (Lit.int .i64 cut).wf = true) : Calls Try.prog 5 #[vb, vd, .agg #[.int .i64 size, .int .i64 cut]] w fun e w' => e = .returned (.bool true) ∧ Fr No w w' := by
  by_cases h : 300 < b.length ∨ 300 < d.length
  · exact walk_out vb b vd d size cut w hb.1 hd.1 h
  · exact walk_ok vb b vd d size cut w hb.1 hd.1 (bounds_i64 hs.1).2 (by omega) (by omega)
end Go.Proofs.Ytebgkmfecmlanaa.LDeltaJoined
