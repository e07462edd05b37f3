/- The walk of the law PatchApplies. -/
import Derived.Test.YtnfneokmiopieaaDoorLawPatchJoins
import Derived.Test.YtnfneokmiopieaaDoorLiftP
import Derived.Test.YtnfneokmiopieaaDoorShaH
set_option linter.unusedVariables false
set_option linter.unusedSimpArgs false
namespace Go.Proofs.YtnfneokmiopieaaDoor.LPatchApplies
open Go.RowKit Go.IntWalk Go.Proofs.YtnfneokmiopieaaDoorW.PrintWords Go.Proofs.YtnfneokmiopieaaDoor.B Go.Proofs.YtnfneokmiopieaaDoor.PB Go.Proofs.YtnfneokmiopieaaDoor.Err Go.Proofs.YtnfneokmiopieaaDoor.STell Go.Proofs.YtnfneokmiopieaaDoor.SJoin Go.Proofs.YtnfneokmiopieaaDoor.Tk Go.Proofs.YtnfneokmiopieaaDoor.Pat Go.Proofs.YtnfneokmiopieaaDoor.Blk Go.Proofs.YtnfneokmiopieaaDoor.LPatchJoins

/-- What the document makes of a file that is told. -/
def applyP (old : List UInt8) (size : Int) (L : List Tok) (ct : Int) (st : List UInt8) : List UInt8 × Int × Int :=
  if (joinR old size L).2.1 ≠ 0 then ([], (joinR old size L).2.1, ((joinR old size L).2.2 : Int)) else if Sha.cut ct (joinR old size L).1 = st then ((joinR old size L).1, 0, 0) else ([], 81, (L.length : Int))
theorem applyP_R (old : List UInt8) (size : Int) (L : List Tok) (ct : Int) (st : List UInt8) : (applyP old size L ct st).1 = (applyR old size L ct st).1 ∧ ((noE (applyR old size L ct st).2 : Nat) : Int) = (applyP old size L ct st).2.1 ∧ ((applyP old size L ct st).2.1 ≠ 0 → plE (applyR old size L ct st).2 = (applyP old size L ct st).2.2) := by
  have hc := joinL_code (old := old) (size := size) L 0 []
  change 0 ≤ (joinR old size L).2.1 at hc
  unfold applyP applyR
  obtain ⟨J, hJ⟩ : ∃ J, joinR old size L = J := ⟨_, rfl⟩
  rw [hJ] at hc ⊢
  by_cases hz : J.2.1 = 0
  · have hz' : ¬ (J.2.1 ≠ 0) := by simpa using hz
    rw [if_neg hz', if_neg hz']
    by_cases hs : Sha.cut ct J.1 = st
    · rw [if_pos hs, if_pos hs]
      exact ⟨rfl, rfl, fun h => absurd rfl h⟩
    · rw [if_neg hs, if_neg hs]
      exact ⟨rfl, rfl, fun _ => rfl⟩
  · rw [if_pos hz, if_pos hz]
    unfold errJ
    rw [if_neg hz]
    refine ⟨rfl, ?_, fun _ => rfl⟩
    show ((J.2.1.toNat : Nat) : Int) = _
    dsimp only
    omega
set_option maxHeartbeats 8000000 in
set_option maxRecDepth 100000 in
theorem rapply_calls (vl : Value) (old : List UInt8) (size ct : Int) (st : List UInt8) (L : List Tok) (w : World) (hst : st.length = 32) (hv : Rd fD w vl L) (hol : old.length ≤ 100000) (hn : L.length ≤ 1000000) (hsz : size ≤ 9223372036854775807) (hxs : ∀ e ∈ L, e.2.2.length ≤ 100000000) (hF : ∀ e ∈ L, e.2.1 ≤ 9223372036854775807)
    (hc1 : -9223372036854775808 ≤ ct) (hc2 : ct ≤ 9223372036854775807) :
    Calls Tryd.prog 16 #[vl, .int .i64 ct, Arr.av st, .string (bstr old), .int .i64 size] w fun e w' => e = .returned (.tuple #[.string (bstr (applyP old size L ct st).1), .int .i64 (applyP old size L ct st).2.1, .int .i64 (applyP old size L ct st).2.2]) ∧ Fr No w w' := by
  obtain ⟨A, c, rfl, _⟩ := id hv
  obtain ⟨J, hJ⟩ : ∃ J, joinR old size L = J := ⟨_, rfl⟩
  have hjl : J.1.length ≤ 65536 := by rw [← hJ]; exact joinL_len _ _ _ (Nat.zero_le _)
  have hrj := fun W h => rjoin_calls (.slice A L.length c) old size L W h hol hn hsz hxs hF
  simp only [hJ] at hrj
  obtain ⟨R, hR⟩ : ∃ R, applyP old size L ct st = R := ⟨_, rfl⟩
  have HR : Aside0 (R = if J.2.1 ≠ 0 then ([], J.2.1, (J.2.2 : Int)) else if Sha.cut ct J.1 = st then (J.1, 0, 0) else ([], 81, (L.length : Int))) := ⟨by rw [← hR]; unfold applyP; rw [hJ]⟩
  rw [hR]
  have h32 : (st.map vu8).toArray.size = 32 := by simp [hst]
  have HV := Aside0.mk hv; have HRJ := Aside0.mk hrj; have HST := Aside0.mk hst; have H32 := Aside0.mk h32
  have hld : (bstr J.1).data.toList = J.1 := by simp [bstr]
  have HLD := Aside0.mk hld
  clear hv hrj hR hJ hxs hF hst h32 hld
  unfold Arr.av
  go_enter Tryd.func16, Tryd.ntmps16
  go_upto_region 1 with fail
  have XS0 := heap_alloc_new w (.cells (st.map vu8).toArray 38)
  have F1 : Aside0 (Fr No w (w.alloc (.cells (st.map vu8).toArray 38))) := ⟨(Fr.refl _ _).alloc _⟩
  change Code.wp _ _ _ _ (w.alloc (.cells (st.map vu8).toArray 38))
  generalize w.alloc (.cells (st.map vu8).toArray 38) = w1 at XS0 F1 ⊢
  have LS := ld_all (P := Tryd.prog) (ty := 38) XS0 Tryd.underlying38 rfl (by rw [H32.out]; kernel_rfl)
  clear XS0
  go_wp2_with fail
  refine (HRJ.out w1 (HV.out.no F1.out)).mono ?_
  rintro e w2 ⟨rfl, hf⟩
  have F2 : Aside0 (Fr No w w2) := ⟨F1.out.none hf⟩
  have LS2 := fun x (hx : Fr No w2 x) => LS x (hf.none hx)
  clear hf LS
  by_cases hz : J.2.1 = 0
  · have HZ := Aside0.mk hz
    have qe := fun W => Arr.run_neq Tryd.underlying38 W (Sha.cut ct J.1) st (Sha.cut_length _ _) HST.out
    unfold Arr.av at qe
    have qg := fun x y W => run_eqGuard_agg (P := Tryd.prog) W .neq 38 x y ((Sha.cut ct J.1).map vu8).toArray (st.map vu8).toArray (by kernel_rfl)
    obtain ⟨B, hB⟩ : ∃ B : Bool, (!decide (Sha.cut ct J.1 = st)) = B := ⟨_, rfl⟩
    simp only [hB] at qe
    have HB := Aside0.mk hB
    clear hB
    go_wp2_with fail
    refine Rg.start (fun _ x => Fr No w2 x) (by kernel_rfl) (by kernel_rfl) [2] [[1, 0, 2]] (by kernel_rfl) (.q 0 0 (.q 1 0 (.q 3 1 (.e 2 1 (.q 4 1 (.done)))))) (by kernel_rfl) ?_ ?_
    · exact fun _ => (Fr.refl _ _).drew
    repeat (first
      | (refine Rg.q (o := ?_) (v := ?_) ?_ ?_ ?_ ?_ ?_
         rotate_left 2
         · (simp only [List.getElem?_toArray, List.getElem?_cons_succ, List.getElem?_cons_zero]; rfl)
         · exact fun _ _ _ h => h
         · first | rfl | (go_simp; done)
         · (intro x_ hx; (try dsimp only at hx); first | (fail) | ((refine (ex_ld rfl rfl (LS2 _ hx)).trans ?_; with_reducible rfl)) | (skip; (try clear hx); go_simp; (try rw [if_neg (by omega)]); (try rw [if_pos (by omega)]); (try go_simp); try with_reducible rfl))
         try simp only [Act.put, List.setIfInBounds_toArray, List.set_cons_zero, List.set_cons_succ])
      | (refine Rg.skip (o := ?_) ?_ ?_ ?_ ?_
         rotate_left 1
         · (simp only [List.getElem?_toArray, List.getElem?_cons_succ, List.getElem?_cons_zero]; rfl)
         · exact fun _ _ _ h => h
         · first | rfl | (go_simp; done)
         try simp only [Act.put, List.setIfInBounds_toArray, List.set_cons_zero, List.set_cons_succ]))
    refine Rg.e (o := ?_) ?_ ?_
    rotate_left 1
    · (simp only [List.getElem?_toArray, List.getElem?_cons_succ, List.getElem?_cons_zero]; rfl)
    intro K hK
    go_simp
    refine (Sha.ref_cut_calls ct (bstr J.1) _ (by rw [bstr_size]; omega) hc1 hc2).mono ?_
    rw [HLD.out]
    unfold Arr.av
    rintro en x1 ⟨rfl, hf⟩
    have K1 : Aside0 (Fr No w2 x1) := ⟨((Fr.refl No w2).drew).none hf⟩
    clear hf
    go_simp
    refine hK.out _ _ (fun _ x => Fr No w2 x) (fun k x hk h => h) ?_ ?_
    · exact fun _ _ => K1.out
    try simp only [Act.put, List.setIfInBounds_toArray, List.set_cons_zero, List.set_cons_succ]
    repeat (first
      | (refine Rg.q (o := ?_) (v := ?_) ?_ ?_ ?_ ?_ ?_
         rotate_left 2
         · (simp only [List.getElem?_toArray, List.getElem?_cons_succ, List.getElem?_cons_zero]; rfl)
         · exact fun _ _ _ h => h
         · first | rfl | (go_simp; done)
         · (intro x_ hx; (try dsimp only at hx); first | (fail) | ((refine (ex_ld rfl rfl (LS2 _ hx)).trans ?_; with_reducible rfl)) | (skip; (try clear hx); go_simp; (try rw [if_neg (by omega)]); (try rw [if_pos (by omega)]); (try go_simp); try with_reducible rfl))
         try simp only [Act.put, List.setIfInBounds_toArray, List.set_cons_zero, List.set_cons_succ])
      | (refine Rg.skip (o := ?_) ?_ ?_ ?_ ?_
         rotate_left 1
         · (simp only [List.getElem?_toArray, List.getElem?_cons_succ, List.getElem?_cons_zero]; rfl)
         · exact fun _ _ _ h => h
         · first | rfl | (go_simp; done)
         try simp only [Act.put, List.setIfInBounds_toArray, List.set_cons_zero, List.set_cons_succ]))
    refine Rg.done ?_
    go_simp
    cases B with
    | true =>
      have hne : ¬ Sha.cut ct J.1 = st := by have := HB.out; simpa using this
      have HRE : Aside0 (R = ([], 81, (L.length : Int))) := ⟨by rw [HR.out, if_neg (by simpa using HZ.out), if_neg hne]⟩
      clear qe qg LS2 hne
      go_wp2
      (try simp only [Exit.inBlock, Exit.then]); refine bodyPost_ret (results_list (rs := [.tmp 10, .tmp 11, .tmp 12]) rfl (by simp) (.tmp (.tmp (.tmp .nil)))) rfl ?_
      rw [HRE.out]
      exact ⟨rfl, F2.out.none K1.out⟩
    | false =>
      have hee : Sha.cut ct J.1 = st := by have := HB.out; simpa using this
      have HRE : Aside0 (R = (J.1, 0, 0)) := ⟨by rw [HR.out, if_neg (by simpa using HZ.out), if_pos hee]⟩
      clear qe qg LS2 hee
      go_wp2
      (try simp only [Exit.inBlock, Exit.then]); refine bodyPost_ret (results_list (rs := [.tmp 10, .tmp 11, .tmp 12]) rfl (by simp) (.tmp (.tmp (.tmp .nil)))) rfl ?_
      rw [HRE.out]
      exact ⟨rfl, F2.out.none K1.out⟩
  · have HRE : Aside0 (R = ([], J.2.1, (J.2.2 : Int))) := ⟨by rw [HR.out, if_pos hz]⟩
    clear LS2
    go_wp2
    (try simp only [Exit.inBlock, Exit.then]); refine bodyPost_ret (results_list (rs := [.tmp 10, .tmp 11, .tmp 12]) rfl (by simp) (.tmp (.tmp (.tmp .nil)))) rfl ?_
    rw [HRE.out]
    exact ⟨rfl, F2.out⟩

set_option maxHeartbeats 8000000 in
set_option maxRecDepth 100000 in
theorem walk (vb : Value) (b : List UInt8) (size : Int) (s : ToV) (w : World) (hg : Gl w) (hb : RdB w vb b ∧ b.length ≤ reach) (hs : (Lit.int .i64 size).wf = true) (ht : s.ok w) : Calls Tryd.prog 4 #[vb, .int .i64 size, s.v] w fun e w' => e = .returned (.bool true) ∧ Fr No w w' := by
  obtain ⟨vl, ct, st, fs⟩ := s
  obtain ⟨hv, hok, hct, hst⟩ := ht
  dsimp only at hv hok hct hst
  change Calls Tryd.prog 4 #[vb, .int .i64 size, .agg (toC vl ct st)] w _
  obtain ⟨hbr, _⟩ := hb
  have hsz := (bounds_i64 hs).2
  have hc1 := (bounds_i64 hct).1
  have hc2 := (bounds_i64 hct).2
  obtain ⟨A0, c0, rfl, _⟩ := id hbr
  obtain ⟨A, c, rfl, _⟩ := id hv
  have HB := Aside0.mk hbr; have HV := Aside0.mk hv; have HOK := Aside0.mk hok; have HG := Aside0.mk hg; have HST := Aside0.mk hst
  clear hbr hv hok hg hst
  go_enter Tryd.func4, Tryd.ntmps4
  go_upto_region 1 with fail
  have XS0 := heap_alloc_new w (.cells (toC (.slice A fs.length c) ct st) 40)
  have F0 : Aside0 (Fr No w (w.alloc (.cells (toC (.slice A fs.length c) ct st) 40))) := ⟨(Fr.refl _ _).alloc _⟩
  change Code.wp _ _ _ _ (w.alloc (.cells (toC (.slice A fs.length c) ct st) 40))
  generalize w.alloc (.cells (toC (.slice A fs.length c) ct st) 40) = w0 at XS0 F0 ⊢
  obtain ⟨g, hgg⟩ : ∃ g, w.heap.size = g := ⟨_, rfl⟩
  rw [hgg] at XS0 ⊢
  clear hgg
  have XS := Aside0.mk XS0
  clear XS0
  go_wp2_with fail
  refine (sends_calls w0).mono ?_
  rintro e w1 ⟨rfl, hf⟩
  have F1 : Aside0 (Fr No w w1) := ⟨F0.out.none hf⟩
  have XS1 := Aside0.mk (hf.heap XS.out id)
  have cc : w1.cell? ⟨g, 0, Option.none⟩ = some (.slice A fs.length c) := by rw [blk_cell XS1.out]; exact toC_0 _ _ _
  clear hf
  go_wp2_with fail
  refine (fits_calls (.slice A0 b.length c0) (.slice A fs.length c) b size fs w1 (HB.out.no F1.out) (HV.out.no F1.out) (fun e he => ⟨(HOK.out e he).1.no F1.out, (HOK.out e he).2⟩)).mono ?_
  rintro e w2 ⟨⟨B, rfl, hB⟩, hf⟩
  have F2 : Aside0 (Fr No w w2) := ⟨F1.out.none hf⟩
  have XS2 := Aside0.mk (hf.heap XS1.out id)
  clear hf cc
  cases B with
  | false =>
    clear hB
    go_wp2
    go_ret
    exact ⟨rfl, F2.out⟩
  | true =>
    obtain ⟨b1, b2, b3⟩ := hB rfl
    have hac := apply_calls (.slice A0 b.length c0) (.slice A fs.length c) b size ct st fs w2 HST.out (HB.out.no F2.out) (HV.out.no F2.out) (fun e he => (HOK.out e he).1.no F2.out) (by omega) (by omega) hsz (fun e he => by have := (b3 e he).1; omega) (fun e he => by have := (b3 e he).2; omega) hc1 hc2
    have hra := fun v W h => rapply_calls v b size ct st (fs.map TV.tok) W HST.out h (by omega) (by rw [List.length_map]; omega) hsz (fun e he => by obtain ⟨x, hx, rfl⟩ := List.mem_map.1 he; have := (b3 x hx).1; show x.xs.length ≤ _; omega) (fun e he => by obtain ⟨x, hx, rfl⟩ := List.mem_map.1 he; have := (b3 x hx).2; show x.c ≤ _; omega) hc1 hc2
    obtain ⟨e1, e2, e3⟩ := applyP_R b size (fs.map TV.tok) ct st
    obtain ⟨R, hR⟩ : ∃ R, applyR b size (fs.map TV.tok) ct st = R := ⟨_, rfl⟩
    obtain ⟨P, hP⟩ : ∃ P, applyP b size (fs.map TV.tok) ct st = P := ⟨_, rfl⟩
    rw [hR] at hac
    rw [hR, hP] at e1 e2 e3
    simp only [hP, e1] at hra
    have HRA := Aside0.mk hra
    have E1 := Aside0.mk e1; have E2 := Aside0.mk e2; have E3 := Aside0.mk e3
    clear hra hB b3 hR hP e1 e2 e3
    have LD := ld_all (P := Tryd.prog) (ty := 40) XS2.out Tryd.underlying40 rfl (by rw [toC_size HST.out]; kernel_rfl)
    go_wp2_with (first
      | (refine ldG (.tmp 5) 40 _ _ rfl rfl (LD _ (Fr.refl _ _)) (by first | rfl | (go_simp; done)) ?_)
      | fail)
    refine hac.mono ?_
    rintro e w3 ⟨v, ev, rfl, hN, hE⟩
    have F3 : Aside0 (Fr No w w3) := ⟨F2.out.none hN.fr⟩
    have XS3 := Aside0.mk (hN.fr.heap XS2.out id)
    obtain ⟨Av, cv, hvf⟩ := hN.own.form
    subst hvf
    have HN := Aside0.mk hN.own; have HE := Aside0.mk hE
    have d0 : w3.cell? ⟨g, 0, Option.none⟩ = some (.slice A fs.length c) := by rw [blk_cell XS3.out]; exact toC_0 _ _ _
    have d1 : w3.cell? ⟨g, 1, Option.none⟩ = some (.int .i64 ct) := by rw [blk_cell XS3.out]; exact toC_1 _ _ _
    have LS := ld_told HST.out XS3.out
    clear hN hE hac LD
    go_wp2_with fail
    refine Rg.start (fun _ x => Fr No w3 x) (by kernel_rfl) (by kernel_rfl) [2, 10] [[0, 1, 2], [9, 7, 8, 5, 6, 3, 4, 0, 1, 2, 10]] (by kernel_rfl) (.q 0 0 (.q 1 0 (.q 3 1 (.q 4 1 (.q 5 1 (.q 6 1 (.q 7 1 (.q 8 1 (.q 9 1 (.e 2 1 (.e 10 2 (.q 11 2 (.q 12 2 (.q 13 2 (.q 14 2 (.q 15 2 (.q 16 2 (.q 17 2 (.done))))))))))))))))))) (by kernel_rfl) ?_ ?_
    · exact fun _ => (Fr.refl _ _).drew
    repeat (first
      | (refine Rg.q (o := ?_) (v := ?_) ?_ ?_ ?_ ?_ ?_
         rotate_left 2
         · (simp only [List.getElem?_toArray, List.getElem?_cons_succ, List.getElem?_cons_zero]; rfl)
         · exact fun _ _ _ h => h
         · first | rfl | (go_simp; done)
         · (intro x_ hx; (try dsimp only at hx); first | (fail) | ((refine (ex_ld rfl rfl (LS _ hx)).trans ?_; with_reducible rfl)) | (have q0 := str_of_rd ((HB.out.no F3.out).no hx); have q1 := hx.cell d0 id; have q2 := hx.cell d1 id; (try clear hx); go_simp; (try rw [if_neg (by omega)]); (try rw [if_pos (by omega)]); (try go_simp); try with_reducible rfl))
         try simp only [Act.put, List.setIfInBounds_toArray, List.set_cons_zero, List.set_cons_succ])
      | (refine Rg.skip (o := ?_) ?_ ?_ ?_ ?_
         rotate_left 1
         · (simp only [List.getElem?_toArray, List.getElem?_cons_succ, List.getElem?_cons_zero]; rfl)
         · exact fun _ _ _ h => h
         · first | rfl | (go_simp; done)
         try simp only [Act.put, List.setIfInBounds_toArray, List.set_cons_zero, List.set_cons_succ]))
    refine Rg.e (o := ?_) ?_ ?_
    rotate_left 1
    · (simp only [List.getElem?_toArray, List.getElem?_cons_succ, List.getElem?_cons_zero]; rfl)
    intro K hK
    go_simp
    refine (plain8_calls (.slice A fs.length c) fs _ ((HV.out.no F3.out).no (Fr.refl _ _).drew) (fun e he => ((HOK.out e he).1.no F3.out).no (Fr.refl _ _).drew) (by omega)).mono ?_
    rintro en x1 ⟨vp, rfl, hP, hf⟩
    have G1 : Aside0 (Fr No w3 x1) := ⟨((Fr.refl No w3).drew).none hf⟩
    have HP := Aside0.mk hP
    clear hf hP
    go_simp
    refine hK.out _ _ (fun _ x => Fr No w3 x) (fun k x hk h => h) ?_ ?_
    · exact fun _ _ => G1.out
    try simp only [Act.put, List.setIfInBounds_toArray, List.set_cons_zero, List.set_cons_succ]
    repeat (first
      | (refine Rg.q (o := ?_) (v := ?_) ?_ ?_ ?_ ?_ ?_
         rotate_left 2
         · (simp only [List.getElem?_toArray, List.getElem?_cons_succ, List.getElem?_cons_zero]; rfl)
         · exact fun _ _ _ h => h
         · first | rfl | (go_simp; done)
         · (intro x_ hx; (try dsimp only at hx); first | (fail) | ((refine (ex_ld rfl rfl (LS _ hx)).trans ?_; with_reducible rfl)) | (have q0 := str_of_rd ((HB.out.no F3.out).no hx); have q1 := hx.cell d0 id; have q2 := hx.cell d1 id; (try clear hx); go_simp; (try rw [if_neg (by omega)]); (try rw [if_pos (by omega)]); (try go_simp); try with_reducible rfl))
         try simp only [Act.put, List.setIfInBounds_toArray, List.set_cons_zero, List.set_cons_succ])
      | (refine Rg.skip (o := ?_) ?_ ?_ ?_ ?_
         rotate_left 1
         · (simp only [List.getElem?_toArray, List.getElem?_cons_succ, List.getElem?_cons_zero]; rfl)
         · exact fun _ _ _ h => h
         · first | rfl | (go_simp; done)
         try simp only [Act.put, List.setIfInBounds_toArray, List.set_cons_zero, List.set_cons_succ]))
    refine Rg.e (o := ?_) ?_ ?_
    rotate_left 1
    · (simp only [List.getElem?_toArray, List.getElem?_cons_succ, List.getElem?_cons_zero]; rfl)
    intro K hK
    go_simp
    refine (HRA.out vp x1 HP.out.rd).mono ?_
    rintro en x2 ⟨rfl, hf⟩
    have G2 : Aside0 (Fr No w3 x2) := ⟨G1.out.none hf⟩
    clear hf
    go_simp
    refine hK.out _ _ (fun _ x => Fr No w3 x) (fun k x hk h => h) ?_ ?_
    · exact fun _ _ => G2.out
    try simp only [Act.put, List.setIfInBounds_toArray, List.set_cons_zero, List.set_cons_succ]
    repeat (first
      | (refine Rg.q (o := ?_) (v := ?_) ?_ ?_ ?_ ?_ ?_
         rotate_left 2
         · (simp only [List.getElem?_toArray, List.getElem?_cons_succ, List.getElem?_cons_zero]; rfl)
         · exact fun _ _ _ h => h
         · first | rfl | (go_simp; done)
         · (intro x_ hx; (try dsimp only at hx); (skip); go_simp; (try rw [if_neg (by omega)]); (try rw [if_pos (by omega)]); (try go_simp); try with_reducible rfl)
         try simp only [Act.put, List.setIfInBounds_toArray, List.set_cons_zero, List.set_cons_succ])
      | (refine Rg.skip (o := ?_) ?_ ?_ ?_ ?_
         rotate_left 1
         · (simp only [List.getElem?_toArray, List.getElem?_cons_succ, List.getElem?_cons_zero]; rfl)
         · exact fun _ _ _ h => h
         · first | rfl | (go_simp; done)
         try simp only [Act.put, List.setIfInBounds_toArray, List.set_cons_zero, List.set_cons_succ]))
    refine Rg.done ?_
    go_simp
    clear LS d0 d1
    have qo : (convert 22 9 (.slice Av R.1.length cv)).run Tryd.prog x2 = .ok (.string (bstr R.1)) x2 := str_of_rd (HN.out.no G2.out).rd
    have F4 : Aside0 (Fr No w x2) := ⟨F3.out.none G2.out⟩
    go_wp2_with fail
    refine (number_calls (HG.out.no F4.out) (HE.out.no G2.out)).mono ?_
    rw [E2.out]
    rintro en x3 ⟨rfl, hf⟩
    have F5 : Aside0 (Fr No w x3) := ⟨F4.out.none hf⟩
    have HE3 := Aside0.mk ((HE.out.no G2.out).no hf)
    clear hf qo
    by_cases hz : P.2.1 = 0
    · have hzI : (P.2.1 == 0) = true := by rw [hz]; rfl
      clear hz
      go_wp2
      go_ret
      exact ⟨rfl, F5.out⟩
    · have hzI : (P.2.1 == 0) = false := by rw [beq_eq_false_iff_ne]; exact hz
      have hpl := E3.out hz
      clear hz
      go_wp2_with fail
      refine (place_calls (HG.out.no F5.out) HE3.out).mono ?_
      rw [hpl]
      rintro en x4 ⟨rfl, hf⟩
      have F6 : Aside0 (Fr No w x4) := ⟨F5.out.none hf⟩
      clear hf hpl
      go_wp2
      go_ret
      exact ⟨rfl, F6.out⟩
end Go.Proofs.YtnfneokmiopieaaDoor.LPatchApplies
