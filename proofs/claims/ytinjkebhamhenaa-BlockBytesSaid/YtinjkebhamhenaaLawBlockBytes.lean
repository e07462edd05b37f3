/- The walk of the law BlockBytes. -/
import Derived.Test.YtinjkebhamhenaaSums6
import Derived.Test.YtinjkebhamhenaaPlain6
import Derived.Test.YtinjkebhamhenaaBlkB
import Derived.Test.YtinjkebhamhenaaRef6B
import Derived.Test.YtinjkebhamhenaaLiftB
import Derived.OpenShut
set_option linter.unusedVariables false
set_option linter.unusedSimpArgs false
namespace Go.Proofs.Ytinjkebhamhenaa.LBlockBytes
open Go.ChangeShapes Go.RowKit Go.IntWalk Go.Proofs.YtinjkebhamhenaaW.PrintWords Go.Proofs.Ytinjkebhamhenaa.B Go.Proofs.Ytinjkebhamhenaa.PB Go.Proofs.Ytinjkebhamhenaa.SWeak Go.Proofs.Ytinjkebhamhenaa.Bk Go.Proofs.Ytinjkebhamhenaa.SBlk Go.Proofs.Ytinjkebhamhenaa.Blk Go.Proofs.Ytinjkebhamhenaa.L6

set_option maxHeartbeats 8000000 in
set_option maxRecDepth 100000 in
theorem walk (s : LB.SV) (w : World) (hs : s.ok w) : Calls Try.prog 7 #[s.v] w fun e w' => e = .returned (.bool true) ∧ Fr No w w' := by
  obtain ⟨size, cut, len, sl, bs⟩ := s
  obtain ⟨hv, hw1, hw2, hw3⟩ := hs
  change Calls Try.prog 7 #[.agg (sgC size cut len sl)] w fun e w' => e = .returned (.bool true) ∧ Fr No w w'
  dsimp only at hv hw1 hw2 hw3
  have b1 := (bounds_i64 hw1).2; have b3 := (bounds_i64 hw3).2
  obtain ⟨A, c, rfl, _⟩ := id hv
  have HV := Aside0.mk hv
  clear hv hw1 hw2 hw3
  go_enter Try.func7, Try.ntmps7
  go_upto_region 1 with fail
  have hb := heap_alloc_new w (.cells (sgC size cut len (.slice A bs.length c)) 26)
  have F0 : Aside0 (Fr No w (w.alloc (.cells (sgC size cut len (.slice A bs.length c)) 26))) := ⟨(Fr.refl _ _).alloc _⟩
  change Code.wp _ _ _ _ (w.alloc (.cells (sgC size cut len (.slice A bs.length c)) 26))
  generalize w.alloc (.cells (sgC size cut len (.slice A bs.length c)) 26) = w0 at hb F0 ⊢
  go_wp2_with fail
  refine (sums_calls w0).mono ?_
  rintro e w1 ⟨rfl, hf⟩
  have F1 : Aside0 (Fr No w w1) := ⟨F0.out.none hf⟩
  have XS : Aside0 (w1.heap[w.heap.size]? = some (.cells (sgC size cut len (.slice A bs.length c)) 26 (0, 0))) := ⟨hf.heap hb id⟩
  have c3 : w1.cell? ⟨w.heap.size, 3, Option.none⟩ = some (.slice A bs.length c) := by rw [blk_cell XS.out]; rfl
  clear hf hb
  by_cases hn : 100 < bs.length
  · have hnI : (100 : Int) < (bs.length : Int) := by omega
    go_wp2
    go_ret
    exact ⟨rfl, F1.out⟩
  · have hnI : ¬ (100 : Int) < (bs.length : Int) := by omega
    have hby := fun W hW => bytes_calls size cut len (.slice A bs.length c) bs W hW b1 b3
    have hrb := fun v W hW => Ref6.bytes_calls size cut len v bs W hW b1 b3
    have hck := fun W hW => check_calls size cut len (.slice A bs.length c) bs W hW b1 b3
    have hrc := fun v W hW => Ref6.check_calls size cut len v bs W hW b1 b3
    obtain ⟨X, hX⟩ : ∃ X, (if chkE size cut len bs = 0 then sgB size cut len bs else []) = X := ⟨_, rfl⟩
    obtain ⟨E, hE⟩ : ∃ E, chkE size cut len bs = E := ⟨_, rfl⟩
    rw [hX] at hby hrb
    rw [hE] at hby hrb hck hrc
    have HBY := Aside0.mk hby; have HRB := Aside0.mk hrb; have HCK := Aside0.mk hck; have HRC := Aside0.mk hrc
    clear hby hrb hck hrc hX hE
    have LD := ld_all (P := Try.prog) (ty := 26) XS.out Try.underlying26 rfl (by kernel_rfl)
    go_wp2_with (first
      | (refine ldG (.tmp 1) 26 _ _ rfl rfl (LD _ (Fr.refl _ _)) (by first | rfl | (go_simp; done)) ?_)
      | fail)
    refine (HBY.out w1 (HV.out.no F1.out)).mono ?_
    rintro e w2 ⟨v, rfl, hN⟩
    obtain ⟨Av, cv, rfl⟩ := hN.own.form
    have HN := Aside0.mk hN
    clear hN c3
    go_wp2_with (first
      | (refine ldG (.tmp 1) 26 _ _ rfl rfl (LD _ HN.out.fr) (by first | rfl | (go_simp; done)) ?_)
      | fail)
    refine (plain_calls size cut len (.slice A bs.length c) bs w2 ((HV.out.no F1.out).no HN.out.fr) (by omega)).mono ?_
    rintro e w3 ⟨sp, rfl, hP, hf⟩
    have F3 : Aside0 (Fr No w2 w3) := ⟨hf⟩
    have HP := Aside0.mk hP
    clear hf hP
    go_wp2_with fail
    refine (HRB.out sp w3 HP.out.1.rd).mono ?_
    rintro e w4 ⟨rfl, hf⟩
    have F4 : Aside0 (Fr No w2 w4) := ⟨F3.out.none hf⟩
    clear hf
    have F14 : Aside0 (Fr No w1 w4) := ⟨HN.out.fr.none F4.out⟩
    clear LD
    have LP := ld_all (P := Try.prog) (ty := 26) (F14.out.heap XS.out id) Try.underlying26 rfl (by kernel_rfl)
    go_wp2
    refine Rg.start (fun _ x => Fr No w4 x) (by kernel_rfl) (by kernel_rfl) [11, 13, 14] [[6, 4, 5, 7, 1, 0, 2, 3, 8, 9, 10, 11], [10, 11, 6, 4, 5, 7, 1, 0, 2, 3, 8, 9, 12, 13], [10, 11, 6, 4, 5, 7, 1, 0, 2, 3, 8, 9, 12, 13, 14]] (by kernel_rfl) (.q 0 0 (.q 1 0 (.q 2 0 (.q 3 0 (.q 4 0 (.q 5 0 (.q 6 0 (.q 7 0 (.q 8 0 (.q 9 0 (.q 10 0 (.q 12 1 (.e 11 1 (.e 13 2 (.e 14 3 (.q 15 3 (.q 16 3 (.q 17 3 (.done))))))))))))))))))) (by kernel_rfl) ?_ ?_
    · exact fun _ => (Fr.refl _ _).drew
    repeat (first
      | (refine Rg.q (o := ?_) (v := ?_) ?_ ?_ ?_ ?_ ?_
         rotate_left 2
         · (simp only [List.getElem?_toArray, List.getElem?_cons_succ, List.getElem?_cons_zero]; rfl)
         · exact fun _ _ _ h => h
         · first | rfl | (go_simp; done)
         · (intro x_ hx; (try dsimp only at hx); first | ((refine (ex_ld rfl rfl (LP _ hx)).trans ?_; with_reducible rfl)) | (fail) | (have q1 := str_of_rd ((HN.out.own.rd.no F4.out).no hx); (try clear hx); go_simp; (try rw [if_neg (by omega)]); (try rw [if_pos (by omega)]); (try go_simp); try with_reducible rfl))
         try simp only [Act.put, List.setIfInBounds_toArray, List.set_cons_zero, List.set_cons_succ])
      | (refine Rg.skip (o := ?_) ?_ ?_ ?_ ?_
         rotate_left 1
         · (simp only [List.getElem?_toArray, List.getElem?_cons_succ, List.getElem?_cons_zero]; rfl)
         · exact fun _ _ _ h => h
         · first | rfl | (go_simp; done)
         try simp only [Act.put, List.setIfInBounds_toArray, List.set_cons_zero, List.set_cons_succ]))
    refine Rg.e (o := ?_) ?_ ?_
    rotate_left 1
    · (simp only [List.getElem?_toArray, List.getElem?_cons_succ, List.getElem?_cons_zero]; rfl)
    intro K hK
    rw [if_pos (by go_simp)]; go_simp
    refine (HCK.out _ (((HV.out.no F1.out).no F14.out).no (Fr.refl _ _).drew)).mono ?_
    rintro en x1 ⟨rfl, hf⟩
    have G1 : Aside0 (Fr No w4 x1) := ⟨((Fr.refl No w4).drew).none hf⟩
    clear hf
    go_simp
    refine hK.out _ _ (fun _ x => Fr No w4 x) (fun k x hk h => h) ?_ ?_
    · exact fun _ _ => G1.out
    try simp only [Act.put, List.setIfInBounds_toArray, List.set_cons_zero, List.set_cons_succ]
    repeat (first
      | (refine Rg.q (o := ?_) (v := ?_) ?_ ?_ ?_ ?_ ?_
         rotate_left 2
         · (simp only [List.getElem?_toArray, List.getElem?_cons_succ, List.getElem?_cons_zero]; rfl)
         · exact fun _ _ _ h => h
         · first | rfl | (go_simp; done)
         · (intro x_ hx; (try dsimp only at hx); first | ((refine (ex_ld rfl rfl (LP _ hx)).trans ?_; with_reducible rfl)) | (fail) | (have q1 := str_of_rd ((HN.out.own.rd.no F4.out).no hx); (try clear hx); go_simp; (try rw [if_neg (by omega)]); (try rw [if_pos (by omega)]); (try go_simp); try with_reducible rfl))
         try simp only [Act.put, List.setIfInBounds_toArray, List.set_cons_zero, List.set_cons_succ])
      | (refine Rg.skip (o := ?_) ?_ ?_ ?_ ?_
         rotate_left 1
         · (simp only [List.getElem?_toArray, List.getElem?_cons_succ, List.getElem?_cons_zero]; rfl)
         · exact fun _ _ _ h => h
         · first | rfl | (go_simp; done)
         try simp only [Act.put, List.setIfInBounds_toArray, List.set_cons_zero, List.set_cons_succ]))
    refine Rg.e (o := ?_) ?_ ?_
    rotate_left 1
    · (simp only [List.getElem?_toArray, List.getElem?_cons_succ, List.getElem?_cons_zero]; rfl)
    intro K hK
    rw [if_pos (by go_simp)]; go_simp
    refine (plain_calls size cut len (.slice A bs.length c) bs x1 (((HV.out.no F1.out).no F14.out).no G1.out) (by omega)).mono ?_
    rintro en x2 ⟨sp2, rfl, hP, hf⟩
    have G2 : Aside0 (Fr No w4 x2) := ⟨G1.out.none hf⟩
    have HP2 := Aside0.mk hP
    clear hf hP
    go_simp
    refine hK.out _ _ (fun _ x => Fr No w4 x) (fun k x hk h => h) ?_ ?_
    · exact fun _ _ => G2.out
    try simp only [Act.put, List.setIfInBounds_toArray, List.set_cons_zero, List.set_cons_succ]
    repeat (first
      | (refine Rg.q (o := ?_) (v := ?_) ?_ ?_ ?_ ?_ ?_
         rotate_left 2
         · (simp only [List.getElem?_toArray, List.getElem?_cons_succ, List.getElem?_cons_zero]; rfl)
         · exact fun _ _ _ h => h
         · first | rfl | (go_simp; done)
         · (intro x_ hx; (try dsimp only at hx); first | ((refine (ex_ld rfl rfl (LP _ hx)).trans ?_; with_reducible rfl)) | (fail) | (have q1 := str_of_rd ((HN.out.own.rd.no F4.out).no hx); (try clear hx); go_simp; (try rw [if_neg (by omega)]); (try rw [if_pos (by omega)]); (try go_simp); try with_reducible rfl))
         try simp only [Act.put, List.setIfInBounds_toArray, List.set_cons_zero, List.set_cons_succ])
      | (refine Rg.skip (o := ?_) ?_ ?_ ?_ ?_
         rotate_left 1
         · (simp only [List.getElem?_toArray, List.getElem?_cons_succ, List.getElem?_cons_zero]; rfl)
         · exact fun _ _ _ h => h
         · first | rfl | (go_simp; done)
         try simp only [Act.put, List.setIfInBounds_toArray, List.set_cons_zero, List.set_cons_succ]))
    refine Rg.e (o := ?_) ?_ ?_
    rotate_left 1
    · (simp only [List.getElem?_toArray, List.getElem?_cons_succ, List.getElem?_cons_zero]; rfl)
    intro K hK
    rw [if_pos (by go_simp)]; go_simp
    refine (HRC.out sp2 x2 HP2.out.1.rd).mono ?_
    rintro en x3 ⟨rfl, hf⟩
    have G3 : Aside0 (Fr No w4 x3) := ⟨G2.out.none hf⟩
    clear hf
    go_simp
    refine hK.out _ _ (fun _ x => Fr No w4 x) (fun k x hk h => h) ?_ ?_
    · exact fun _ _ => G3.out
    try simp only [Act.put, List.setIfInBounds_toArray, List.set_cons_zero, List.set_cons_succ]
    repeat (first
      | (refine Rg.q (o := ?_) (v := ?_) ?_ ?_ ?_ ?_ ?_
         rotate_left 2
         · (simp only [List.getElem?_toArray, List.getElem?_cons_succ, List.getElem?_cons_zero]; rfl)
         · exact fun _ _ _ h => h
         · first | rfl | (go_simp; done)
         · (intro x_ hx; (try dsimp only at hx); (skip); go_simp; (try rw [if_neg (by omega)]); (try rw [if_pos (by omega)]); (try go_simp); try with_reducible rfl)
         try simp only [Act.put, List.setIfInBounds_toArray, List.set_cons_zero, List.set_cons_succ])
      | (refine Rg.skip (o := ?_) ?_ ?_ ?_ ?_
         rotate_left 1
         · (simp only [List.getElem?_toArray, List.getElem?_cons_succ, List.getElem?_cons_zero]; rfl)
         · exact fun _ _ _ h => h
         · first | rfl | (go_simp; done)
         try simp only [Act.put, List.setIfInBounds_toArray, List.set_cons_zero, List.set_cons_succ]))
    refine Rg.done ?_
    go_simp
    go_wp2
    go_ret
    exact ⟨rfl, (F1.out.none F14.out).none G3.out⟩
end Go.Proofs.Ytinjkebhamhenaa.LBlockBytes
