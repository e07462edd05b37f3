/- The walk of the law BlockMakes. -/
import Derived.Test.YtinjkebhamhenaaSums6
import Derived.Test.YtinjkebhamhenaaPlain6
import Derived.Test.YtinjkebhamhenaaSame6
import Derived.OpenShut
set_option linter.unusedVariables false
set_option linter.unusedSimpArgs false
namespace Go.Proofs.Ytinjkebhamhenaa.LBlockMakes
open Go.ChangeShapes Go.RowKit Go.IntWalk Go.Proofs.YtinjkebhamhenaaW.PrintWords Go.Proofs.Ytinjkebhamhenaa.B Go.Proofs.Ytinjkebhamhenaa.PB Go.Proofs.Ytinjkebhamhenaa.SWeak Go.Proofs.Ytinjkebhamhenaa.Bk Go.Proofs.Ytinjkebhamhenaa.SBlk Go.Proofs.Ytinjkebhamhenaa.Blk Go.Proofs.Ytinjkebhamhenaa.L6
attribute [local go_sem] B.max2_int B.min2_int B.max_two B.min_two

set_option maxHeartbeats 8000000 in
set_option maxRecDepth 100000 in
theorem walk (vb : Value) (b : List UInt8) (size cut : Int) (w : World) (hb : RdB w vb b ∧ b.length ≤ reach) (hs : (Lit.int .i64 size).wf = true) (hc : (Lit.int .i64 cut).wf = true) : Calls Try.prog 3 #[vb, .int .i64 size, .int .i64 cut] w fun e w' => e = .returned (.bool true) ∧ Fr No w w' := by
  have hbd := bounds_i64 hs
  have hs2 := hbd.2
  obtain ⟨hb, _⟩ := hb
  obtain ⟨A, c, rfl, hbc, _⟩ := id hb
  have hlen := hb.len_le
  have HB := Aside0.mk hb
  have hcs : (5000 : Int) < (b.length : Int) ∨ (b.length ≤ 5000 ∧ (b.length : Int) ≤ 200) ∨ (b.length ≤ 5000 ∧ (200 : Int) < (b.length : Int) ∧ size ≤ 0) ∨ (b.length ≤ 5000 ∧ (200 : Int) < (b.length : Int) ∧ 0 < size ∧ (b.length : Int) / size ≤ 40) ∨ ((b.length : Int) ≤ 5000 ∧ (200 : Int) < (b.length : Int) ∧ 0 < size ∧ (40 : Int) < (b.length : Int) / size ∧ (b.length : Int) / size < 4000) ∨ (b.length ≤ 5000 ∧ (200 : Int) < (b.length : Int) ∧ 0 < size ∧ (40 : Int) < (b.length : Int) / size ∧ 4000 ≤ (b.length : Int) / size) := by omega
  have hw : (b.length : Int) ≤ 5000 → 0 < size → wrap64 ((b.length : Int) / size) = (b.length : Int) / size := fun h5 h6 => by
    obtain ⟨q1, q2, _⟩ := div_facts b.length size (by omega) (by omega) (by omega)
    exact wrap64_in _ (by omega)
  have HW := Aside0.mk hw
  clear hb hs hc hbd hw
  rcases hcs with h1 | ⟨h0, h1⟩ | ⟨h0, h1, h2⟩ | ⟨h0, h1, h2, h3⟩ | ⟨h0, h1, h2, h3, h4⟩ | ⟨h0, h1, h2, h3, h4⟩
  all_goals try have hwq := HW.out (by omega) (by omega)
  case inl =>
    go_enter Try.func3, Try.ntmps3
    go_wp2_with fail
    refine (sums_calls w).mono ?_
    rintro e w1 ⟨rfl, hf⟩
    have F1 := Aside0.mk hf; clear hf
    go_wp2
    go_ret
    exact ⟨rfl, F1.out⟩
  case inr.inr.inr.inr.inl =>
    go_enter Try.func3, Try.ntmps3
    go_wp2_with fail
    refine (sums_calls w).mono ?_
    rintro e w1 ⟨rfl, hf⟩
    have F1 := Aside0.mk hf; clear hf
    go_wp2
    go_ret
    exact ⟨rfl, F1.out⟩
  all_goals
    go_enter Try.func3, Try.ntmps3
    go_wp2_with fail
    refine (sums_calls w).mono ?_
    rintro e w1 ⟨rfl, hf⟩
    have F1 := Aside0.mk hf; clear hf
    have hmk := fun v W hv => make_calls v b size cut W hv (by omega) hs2
    have hrm := fun W => Ref6.make_calls b size cut W (by omega) hs2
    obtain ⟨S, hS⟩ : ∃ S, makeS b size cut = S := ⟨_, rfl⟩
    obtain ⟨E, hE⟩ : ∃ E, makeE b.length size cut = E := ⟨_, rfl⟩
    have hSl : Aside0 (S.bs.length ≤ 1000000) := ⟨by rw [← hS]; exact makeS_length _ _ _⟩
    simp only [hS, hE] at hmk hrm
    have HMK := Aside0.mk hmk; have HRM := Aside0.mk hrm
    clear hmk hrm hS hE
    go_wp2_with fail
    refine (HMK.out _ w1 (HB.out.no F1.out)).mono ?_
    rintro e w2 ⟨sl, rfl, hO, hf⟩
    have F2 : Aside0 (Fr No w w2) := ⟨F1.out.none hf⟩
    obtain ⟨A1, c1, rfl⟩ := hO.1.form
    have HO := Aside0.mk hO
    clear hf hO
    go_upto_region 6 with fail
    have X3 : Aside0 ((w2.alloc (.cells (sgC S.size S.cut S.len (.slice A1 S.bs.length c1)) 26)).heap[w2.heap.size]? = some (.cells (sgC S.size S.cut S.len (.slice A1 S.bs.length c1)) 26 (0, 0))) := ⟨heap_alloc_new w2 _⟩
    have F3 : Aside0 (Fr No w2 (w2.alloc (.cells (sgC S.size S.cut S.len (.slice A1 S.bs.length c1)) 26))) := ⟨(Fr.refl _ _).alloc _⟩
    change Code.wp _ _ _ _ (w2.alloc (.cells (sgC S.size S.cut S.len (.slice A1 S.bs.length c1)) 26))
    generalize w2.alloc (.cells (sgC S.size S.cut S.len (.slice A1 S.bs.length c1)) 26) = w3 at X3 F3 ⊢
    have q1 : (convert 22 9 (.slice A b.length c)).run Try.prog w3 = .ok (.string (bstr b)) w3 := str_of_rd ((HB.out.no F2.out).no F3.out)
    go_wp2_with fail
    refine (HRM.out w3).mono ?_
    rintro e w4 ⟨sr, rfl, hO, hf⟩
    have F4 : Aside0 (Fr No w2 w4) := ⟨F3.out.none hf⟩
    have X4 : Aside0 (w4.heap[w2.heap.size]? = some (.cells (sgC S.size S.cut S.len (.slice A1 S.bs.length c1)) 26 (0, 0))) := ⟨hf.heap X3.out id⟩
    obtain ⟨A2, c2, rfl⟩ := hO.1.form
    have HR := Aside0.mk hO
    clear hf hO q1
    go_upto_region 7 with fail
    have X5 : Aside0 ((w4.alloc (.cells (sgC S.size S.cut S.len (.slice A2 S.bs.length c2)) 32)).heap[w4.heap.size]? = some (.cells (sgC S.size S.cut S.len (.slice A2 S.bs.length c2)) 32 (0, 0))) := ⟨heap_alloc_new w4 _⟩
    have F5 : Aside0 (Fr No w4 (w4.alloc (.cells (sgC S.size S.cut S.len (.slice A2 S.bs.length c2)) 32))) := ⟨(Fr.refl _ _).alloc _⟩
    change Code.wp _ _ _ _ (w4.alloc (.cells (sgC S.size S.cut S.len (.slice A2 S.bs.length c2)) 32))
    generalize w4.alloc (.cells (sgC S.size S.cut S.len (.slice A2 S.bs.length c2)) 32) = w5 at X5 F5 ⊢
    have LP := ld_all (P := Try.prog) (ty := 26) (F5.out.heap X4.out id) Try.underlying26 rfl (by kernel_rfl)
    have LR := ld_all (P := Try.prog) (ty := 32) X5.out Try.underlying32 rfl (by kernel_rfl)
    refine Rg.start (fun _ x => Fr No w5 x) (by kernel_rfl) (by kernel_rfl) [5, 7] [[1, 0, 2, 3, 4, 5], [6, 1, 0, 2, 3, 4, 5, 7]] (by kernel_rfl) (.q 0 0 (.q 1 0 (.q 2 0 (.q 3 0 (.q 4 0 (.q 6 1 (.e 5 1 (.e 7 2 (.q 8 2 (.q 9 2 (.done))))))))))) (by kernel_rfl) ?_ ?_
    · exact fun _ => (Fr.refl _ _).drew
    repeat (first
      | (refine Rg.q (o := ?_) (v := ?_) ?_ ?_ ?_ ?_ ?_
         rotate_left 2
         · (simp only [List.getElem?_toArray, List.getElem?_cons_succ, List.getElem?_cons_zero]; rfl)
         · exact fun _ _ _ h => h
         · first | rfl | (go_simp; done)
         · (intro x_ hx; (try dsimp only at hx); first | ((refine (ex_ld rfl rfl (LP _ hx)).trans ?_; with_reducible rfl)) | ((refine (ex_ld rfl rfl (LR _ hx)).trans ?_; with_reducible rfl)) | (skip; (try clear hx); go_simp; (try rw [if_neg (by omega)]); (try rw [if_pos (by omega)]); (try go_simp); try with_reducible rfl))
         try simp only [Act.put, List.setIfInBounds_toArray, List.set_cons_zero, List.set_cons_succ])
      | (refine Rg.skip (o := ?_) ?_ ?_ ?_ ?_
         rotate_left 1
         · (simp only [List.getElem?_toArray, List.getElem?_cons_succ, List.getElem?_cons_zero]; rfl)
         · exact fun _ _ _ h => h
         · first | rfl | (go_simp; done)
         try simp only [Act.put, List.setIfInBounds_toArray, List.set_cons_zero, List.set_cons_succ]))
    refine Rg.e (o := ?_) ?_ ?_
    rotate_left 1
    · (simp only [List.getElem?_toArray, List.getElem?_cons_succ, List.getElem?_cons_zero]; rfl)
    intro K hK
    rw [if_pos (by go_simp)]; go_simp
    refine (plain_calls S.size S.cut S.len (.slice A1 S.bs.length c1) S.bs _ (((HO.out.1.rd.no F4.out).no F5.out).no (Fr.refl _ _).drew) hSl.out).mono ?_
    rintro en x1 ⟨sp, rfl, hP, hf⟩
    have G1 : Aside0 (Fr No w5 x1) := ⟨((Fr.refl No w5).drew).none hf⟩
    have HP := Aside0.mk hP
    clear hf hP
    go_simp
    refine hK.out _ _ (fun _ x => Fr No w5 x) (fun k x hk h => h) ?_ ?_
    · exact fun _ _ => G1.out
    try simp only [Act.put, List.setIfInBounds_toArray, List.set_cons_zero, List.set_cons_succ]
    repeat (first
      | (refine Rg.q (o := ?_) (v := ?_) ?_ ?_ ?_ ?_ ?_
         rotate_left 2
         · (simp only [List.getElem?_toArray, List.getElem?_cons_succ, List.getElem?_cons_zero]; rfl)
         · exact fun _ _ _ h => h
         · first | rfl | (go_simp; done)
         · (intro x_ hx; (try dsimp only at hx); first | ((refine (ex_ld rfl rfl (LP _ hx)).trans ?_; with_reducible rfl)) | ((refine (ex_ld rfl rfl (LR _ hx)).trans ?_; with_reducible rfl)) | (skip; (try clear hx); go_simp; (try rw [if_neg (by omega)]); (try rw [if_pos (by omega)]); (try go_simp); try with_reducible rfl))
         try simp only [Act.put, List.setIfInBounds_toArray, List.set_cons_zero, List.set_cons_succ])
      | (refine Rg.skip (o := ?_) ?_ ?_ ?_ ?_
         rotate_left 1
         · (simp only [List.getElem?_toArray, List.getElem?_cons_succ, List.getElem?_cons_zero]; rfl)
         · exact fun _ _ _ h => h
         · first | rfl | (go_simp; done)
         try simp only [Act.put, List.setIfInBounds_toArray, List.set_cons_zero, List.set_cons_succ]))
    refine Rg.e (o := ?_) ?_ ?_
    rotate_left 1
    · (simp only [List.getElem?_toArray, List.getElem?_cons_succ, List.getElem?_cons_zero]; rfl)
    intro K hK
    rw [if_pos (by go_simp)]; go_simp
    refine (same_calls S.size S.cut S.len sp (.slice A2 S.bs.length c2) S.bs x1 HP.out.1.rd ((HR.out.1.rd.no F5.out).no G1.out)).mono ?_
    rintro en x2 ⟨rfl, hf⟩
    have G2 : Aside0 (Fr No w5 x2) := ⟨G1.out.none hf⟩
    clear hf
    go_simp
    refine hK.out _ _ (fun _ x => Fr No w5 x) (fun k x hk h => h) ?_ ?_
    · exact fun _ _ => G2.out
    try simp only [Act.put, List.setIfInBounds_toArray, List.set_cons_zero, List.set_cons_succ]
    repeat (first
      | (refine Rg.q (o := ?_) (v := ?_) ?_ ?_ ?_ ?_ ?_
         rotate_left 2
         · (simp only [List.getElem?_toArray, List.getElem?_cons_succ, List.getElem?_cons_zero]; rfl)
         · exact fun _ _ _ h => h
         · first | rfl | (go_simp; done)
         · (intro x_ hx; (try dsimp only at hx); (skip); go_simp; (try rw [if_neg (by omega)]); (try rw [if_pos (by omega)]); (try go_simp); try with_reducible rfl)
         try simp only [Act.put, List.setIfInBounds_toArray, List.set_cons_zero, List.set_cons_succ])
      | (refine Rg.skip (o := ?_) ?_ ?_ ?_ ?_
         rotate_left 1
         · (simp only [List.getElem?_toArray, List.getElem?_cons_succ, List.getElem?_cons_zero]; rfl)
         · exact fun _ _ _ h => h
         · first | rfl | (go_simp; done)
         try simp only [Act.put, List.setIfInBounds_toArray, List.set_cons_zero, List.set_cons_succ]))
    refine Rg.done ?_
    go_simp
    go_wp2
    go_ret
    exact ⟨rfl, ((F2.out.none F4.out).none F5.out).none G2.out⟩
end Go.Proofs.Ytinjkebhamhenaa.LBlockMakes
