/- The walk of the law DeltaRaw. -/
import Derived.Test.YtebgkmfecmlanaaDelH
import Derived.Test.YtebgkmfecmlanaaLiftB
import Derived.OpenShut
set_option linter.unusedVariables false
set_option linter.unusedSimpArgs false
namespace Go.Proofs.Ytebgkmfecmlanaa.LDeltaRaw
open Go.ChangeShapes Go.RowKit Go.IntWalk Go.Proofs.YtebgkmfecmlanaaW.PrintWords Go.Proofs.Ytebgkmfecmlanaa.B Go.Proofs.Ytebgkmfecmlanaa.PB Go.Proofs.Ytebgkmfecmlanaa.SWeak Go.Proofs.Ytebgkmfecmlanaa.Bk Go.Proofs.Ytebgkmfecmlanaa.SBlk Go.Proofs.Ytebgkmfecmlanaa.Blk Go.Proofs.Ytebgkmfecmlanaa.L6 Go.Proofs.Ytebgkmfecmlanaa.STell Go.Proofs.Ytebgkmfecmlanaa.Tk Go.Proofs.Ytebgkmfecmlanaa.L7

set_option maxHeartbeats 8000000 in
set_option maxRecDepth 100000 in
theorem walk (s : LB.SV) (vd : Value) (d : List UInt8) (w : World) (hs : s.ok w) (hd0 : RdB w vd d ∧ d.length ≤ reach) : Calls Try.prog 4 #[s.v, vd] w fun e w' => e = .returned (.bool true) ∧ Fr No w w' := by
  obtain ⟨size, cut, len, sl, bs⟩ := s
  obtain ⟨hv, hw1, hw2, hw3⟩ := hs
  obtain ⟨hd, _⟩ := hd0
  change Calls Try.prog 4 #[.agg (sgC size cut len sl), vd] w fun e w' => e = .returned (.bool true) ∧ Fr No w w'
  dsimp only at hv hw1 hw2 hw3
  have hsz := (bounds_i64 hw1).2; have hln := (bounds_i64 hw3).2
  obtain ⟨A, c, rfl, _⟩ := id hv
  obtain ⟨A', c', rfl, _⟩ := id hd
  have HV0 := Aside0.mk hv; have HD0 := Aside0.mk hd
  clear hv hd hw1 hw2 hw3
  go_enter Try.func4, Try.ntmps4
  go_upto_region 1 with fail
  have hb := heap_alloc_new w (.cells (sgC size cut len (.slice A bs.length c)) 27)
  have F0 : Aside0 (Fr No w (w.alloc (.cells (sgC size cut len (.slice A bs.length c)) 27))) := ⟨(Fr.refl _ _).alloc _⟩
  change Code.wp _ _ _ _ (w.alloc (.cells (sgC size cut len (.slice A bs.length c)) 27))
  generalize w.alloc (.cells (sgC size cut len (.slice A bs.length c)) 27) = w0 at hb F0 ⊢
  go_wp2_with fail
  refine (tells_calls w0).mono ?_
  rintro e w4 ⟨rfl, hf⟩
  have FB : Aside0 (Fr No w w4) := ⟨F0.out.none hf⟩
  have XS : Aside0 (w4.heap[w.heap.size]? = some (.cells (sgC size cut len (.slice A bs.length c)) 27 (0, 0))) := ⟨hf.heap hb id⟩
  have c3 : w4.cell? ⟨w.heap.size, 3, Option.none⟩ = some (.slice A bs.length c) := by rw [blk_cell XS.out]; rfl
  have HV := Aside0.mk (HV0.out.no FB.out); have HD := Aside0.mk (HD0.out.no FB.out)
  clear hf hb
  have hcc : (60 : Int) < (bs.length : Int) ∨ (¬ (60 : Int) < (bs.length : Int) ∧ (80 : Int) < (d.length : Int)) ∨ (¬ (60 : Int) < (bs.length : Int) ∧ ¬ (80 : Int) < (d.length : Int)) := by omega
  rcases hcc with h1 | ⟨h1, h2⟩ | ⟨h1, h2⟩
  · go_wp2
    go_ret
    exact ⟨rfl, FB.out⟩
  · go_wp2
    go_ret
    exact ⟨rfl, FB.out⟩
  · have hdm := fun W h1 h2 => dmake_calls size cut len (.slice A bs.length c) (.slice A' d.length c') bs d W h1 h2 (by omega) hsz hln
    have hrm := fun v W h1 => rmake_calls size cut len v bs d W h1 (by omega) hsz hln
    have hX := tellR_length size cut len bs d
    obtain ⟨X, hXX⟩ : ∃ X, tellR size cut len bs d = X := ⟨_, rfl⟩
    obtain ⟨E, hEE⟩ : ∃ E, chkE size cut len bs = E := ⟨_, rfl⟩
    simp only [hXX, hEE] at hdm hrm hX
    have HDM := Aside0.mk hdm; have HRM := Aside0.mk hrm
    clear hdm hrm hXX hEE
    have LD := ld_all (P := Try.prog) (ty := 27) XS.out Try.underlying27 rfl (by kernel_rfl)
    go_wp2_with (first
      | (refine ldG (.tmp 2) 27 _ _ rfl rfl (LD _ (Fr.refl _ _)) (by first | rfl | (go_simp; done)) ?_)
      | fail)
    refine (HDM.out w4 HV.out HD.out).mono ?_
    rintro e w5 ⟨vo, rfl, hT, hf⟩
    obtain ⟨fs, hT, hfs⟩ := hT
    have hfl : fs.length ≤ 1000000 := by rw [← hfs, List.length_map] at hX; omega
    have F5 : Aside0 (Fr No w4 w5) := ⟨hf⟩
    have HT := Aside0.mk hT; have HFS := Aside0.mk hfs
    clear hf hT hfs hX LD c3
    go_wp2
    have LP := ld_all (P := Try.prog) (ty := 27) (F5.out.heap XS.out id) Try.underlying27 rfl (by kernel_rfl)
    refine Rg.start (fun _ x => Fr No w5 x) (by kernel_rfl) (by kernel_rfl) [1, 4] [[0, 1], [2, 3, 0, 1, 4]] (by kernel_rfl) (.q 0 0 (.q 2 1 (.q 3 1 (.e 1 1 (.e 4 2 (.q 5 2 (.q 6 2 (.q 7 2 (.q 8 2 (.q 9 2 (.done))))))))))) (by kernel_rfl) ?_ ?_
    · exact fun _ => (Fr.refl _ _).drew
    repeat (first
      | (refine Rg.q (o := ?_) (v := ?_) ?_ ?_ ?_ ?_ ?_
         rotate_left 2
         · (simp only [List.getElem?_toArray, List.getElem?_cons_succ, List.getElem?_cons_zero]; rfl)
         · exact fun _ _ _ h => h
         · first | rfl | (go_simp; done)
         · (intro x_ hx; (try dsimp only at hx); first | ((refine (ex_ld rfl rfl (LP _ hx)).trans ?_; with_reducible rfl)) | (fail) | (have q3 := str_of_rd ((HD.out.no F5.out).no hx); (try clear hx); go_simp; (try rw [if_neg (by omega)]); (try rw [if_pos (by omega)]); (try go_simp); try with_reducible rfl))
         try simp only [Act.put, List.setIfInBounds_toArray, List.set_cons_zero, List.set_cons_succ])
      | (refine Rg.skip (o := ?_) ?_ ?_ ?_ ?_
         rotate_left 1
         · (simp only [List.getElem?_toArray, List.getElem?_cons_succ, List.getElem?_cons_zero]; rfl)
         · exact fun _ _ _ h => h
         · first | rfl | (go_simp; done)
         try simp only [Act.put, List.setIfInBounds_toArray, List.set_cons_zero, List.set_cons_succ]))
    refine Rg.e (o := ?_) ?_ ?_
    rotate_left 1
    · (simp only [List.getElem?_toArray, List.getElem?_cons_succ, List.getElem?_cons_zero]; rfl)
    intro K hK
    go_simp
    refine (sums7_calls size cut len (.slice A bs.length c) bs _ ((HV.out.no F5.out).no (Fr.refl _ _).drew) (by omega)).mono ?_
    rintro en x1 ⟨sp, rfl, hPl, hf⟩
    have G1 : Aside0 (Fr No w5 x1) := ⟨((Fr.refl No w5).drew).none hf⟩
    have HPL := Aside0.mk hPl
    clear hf hPl
    go_simp
    refine hK.out _ _ (fun _ x => Fr No w5 x) (fun k x hk h => h) ?_ ?_
    · exact fun _ _ => G1.out
    try simp only [Act.put, List.setIfInBounds_toArray, List.set_cons_zero, List.set_cons_succ]
    repeat (first
      | (refine Rg.q (o := ?_) (v := ?_) ?_ ?_ ?_ ?_ ?_
         rotate_left 2
         · (simp only [List.getElem?_toArray, List.getElem?_cons_succ, List.getElem?_cons_zero]; rfl)
         · exact fun _ _ _ h => h
         · first | rfl | (go_simp; done)
         · (intro x_ hx; (try dsimp only at hx); first | ((refine (ex_ld rfl rfl (LP _ hx)).trans ?_; with_reducible rfl)) | (fail) | (have q3 := str_of_rd ((HD.out.no F5.out).no hx); (try clear hx); go_simp; (try rw [if_neg (by omega)]); (try rw [if_pos (by omega)]); (try go_simp); try with_reducible rfl))
         try simp only [Act.put, List.setIfInBounds_toArray, List.set_cons_zero, List.set_cons_succ])
      | (refine Rg.skip (o := ?_) ?_ ?_ ?_ ?_
         rotate_left 1
         · (simp only [List.getElem?_toArray, List.getElem?_cons_succ, List.getElem?_cons_zero]; rfl)
         · exact fun _ _ _ h => h
         · first | rfl | (go_simp; done)
         try simp only [Act.put, List.setIfInBounds_toArray, List.set_cons_zero, List.set_cons_succ]))
    refine Rg.e (o := ?_) ?_ ?_
    rotate_left 1
    · (simp only [List.getElem?_toArray, List.getElem?_cons_succ, List.getElem?_cons_zero]; rfl)
    intro K hK
    go_simp
    refine (HRM.out sp x1 HPL.out.1.rd).mono ?_
    rintro en x2 ⟨vr, rfl, hO, hf⟩
    have G2 : Aside0 (Fr No w5 x2) := ⟨G1.out.none hf⟩
    have HO := Aside0.mk hO
    clear hf hO
    go_simp
    refine hK.out _ _ (fun _ x => Fr No w5 x) (fun k x hk h => h) ?_ ?_
    · exact fun _ _ => G2.out
    try simp only [Act.put, List.setIfInBounds_toArray, List.set_cons_zero, List.set_cons_succ]
    repeat (first
      | (refine Rg.q (o := ?_) (v := ?_) ?_ ?_ ?_ ?_ ?_
         rotate_left 2
         · (simp only [List.getElem?_toArray, List.getElem?_cons_succ, List.getElem?_cons_zero]; rfl)
         · exact fun _ _ _ h => h
         · first | rfl | (go_simp; done)
         · (intro x_ hx; (try dsimp only at hx); (skip); go_simp; (try rw [if_neg (by omega)]); (try rw [if_pos (by omega)]); (try go_simp); try with_reducible rfl)
         try simp only [Act.put, List.setIfInBounds_toArray, List.set_cons_zero, List.set_cons_succ])
      | (refine Rg.skip (o := ?_) ?_ ?_ ?_ ?_
         rotate_left 1
         · (simp only [List.getElem?_toArray, List.getElem?_cons_succ, List.getElem?_cons_zero]; rfl)
         · exact fun _ _ _ h => h
         · first | rfl | (go_simp; done)
         try simp only [Act.put, List.setIfInBounds_toArray, List.set_cons_zero, List.set_cons_succ]))
    refine Rg.done ?_
    go_simp
    clear LP
    go_wp2_with fail
    have HT2 := (HT.out.no G2.out)
    refine (plain7_calls vo fs x2 HT2.row.rd (fun e he => (HT2.own e he).1.rd) hfl).mono ?_
    rintro e w8 ⟨vp, rfl, hP, hf⟩
    have F8 : Aside0 (Fr No w5 w8) := ⟨G2.out.none hf⟩
    have HP := Aside0.mk hP; have HO8 := Aside0.mk (HO.out.no hf)
    clear hf hP HT2
    go_wp2_with fail
    refine (same7_calls vp vr X w8 (by rw [← HFS.out]; exact HP.out.rd) HO8.out.rd).mono ?_
    rintro e w9 ⟨rfl, hf⟩
    have F9 : Aside0 (Fr No w5 w9) := ⟨F8.out.none hf⟩
    clear hf
    go_wp2
    go_ret
    exact ⟨rfl, (FB.out.none F5.out).none F9.out⟩
end Go.Proofs.Ytebgkmfecmlanaa.LDeltaRaw
