/- The walk of the law PatchTells. -/
import Derived.Test.YtnfneokmiopieaaPatS
import Derived.Test.YtnfneokmiopieaaPatJ
import Derived.Test.YtnfneokmiopieaaShaH
import Derived.OpenShut
set_option linter.unusedVariables false
set_option linter.unusedSimpArgs false
namespace Go.Proofs.Ytnfneokmiopieaa.LPatchTells
open Go.ChangeShapes Go.RowKit Go.IntWalk Go.Proofs.YtnfneokmiopieaaW.PrintWords Go.Proofs.Ytnfneokmiopieaa.B Go.Proofs.Ytnfneokmiopieaa.PB Go.Proofs.Ytnfneokmiopieaa.SWeak Go.Proofs.Ytnfneokmiopieaa.Bk Go.Proofs.Ytnfneokmiopieaa.SBlk Go.Proofs.Ytnfneokmiopieaa.Blk Go.Proofs.Ytnfneokmiopieaa.L6 Go.Proofs.Ytnfneokmiopieaa.STell Go.Proofs.Ytnfneokmiopieaa.SJoin Go.Proofs.Ytnfneokmiopieaa.Tk Go.Proofs.Ytnfneokmiopieaa.L7 Go.Proofs.Ytnfneokmiopieaa.Pat

set_option maxHeartbeats 8000000 in
set_option maxRecDepth 100000 in
theorem walk_out (vb : Value) (b : List UInt8) (vd : Value) (d : List UInt8) (size : Int) (w : World) (hb : RdB w vb b) (hd : RdB w vd d) (hout : 300 < b.length ∨ 300 < d.length) : Calls Try.prog 4 #[vb, vd, .int .i64 size] w fun e w' => e = .returned (.bool true) ∧ Fr No w w' := by
  obtain ⟨A, c, rfl, _⟩ := id hb
  obtain ⟨A', c', rfl, _⟩ := id hd
  clear hb hd
  have hc : (300 : Int) < (b.length : Int) ∨ (¬ (300 : Int) < (b.length : Int) ∧ (300 : Int) < (d.length : Int)) := by omega
  clear hout
  rcases hc with h1 | ⟨h1, h2⟩
  all_goals
    go_enter Try.func4, Try.ntmps4
    go_wp2_with fail
    refine (sends_calls _).mono ?_
    rintro e w1 ⟨rfl, hf⟩
    have F1 : Aside0 (Fr No w w1) := ⟨hf⟩
    clear hf
    go_wp2
    go_ret
    exact ⟨rfl, F1.out⟩
theorem joinL_nil {old : List UInt8} {size : Int} : ∀ (L : List Tok) (i : Nat) (out : List UInt8), (joinL old size i out L).2.1 ≠ 0 → (joinL old size i out L).1 = []
  | [], _, out, h => absurd rfl h
  | t :: L, i, out, h => by
    rw [joinL] at h ⊢
    split at h
    · rename_i h0
      rw [if_pos h0]
      exact joinL_nil L _ _ h
    · rename_i h0
      rw [if_neg h0]
/-- Where a file isn't made again, its tokens make another one. -/
theorem not_made {old d : List UInt8} {s : Nat} {f : List UInt8 → Option Nat} {q : Nat × Nat} {r : List UInt8} (h : applyR old s (tell s f d []) 32 (Sha.cut 32 d) = (r, some q)) : (joinR old s (tell s f d [])).1 ≠ d := by
  intro hd
  unfold applyR at h
  split at h
  · rename_i h0
    have h1 := joinL_nil _ _ _ h0
    rw [show joinL old s 0 [] (tell s f d []) = joinR old s (tell s f d []) from rfl, hd] at h1
    subst h1
    exact h0 rfl
  · rw [if_pos (by rw [hd])] at h
    injection h with _ h
    cases h
theorem is_made {old d : List UInt8} {s : Nat} {L : List Tok} {r : List UInt8} {S : List UInt8} (h : applyR old s L 32 S = (r, none)) : r = (joinR old s L).1 := by
  unfold applyR at h
  split at h
  · rename_i h0
    unfold errJ at h
    rw [if_neg h0] at h
    injection h with _ h
    cases h
  · split at h
    · injection h with h _
      exact h.symm
    · injection h with _ h
      cases h

set_option maxHeartbeats 8000000 in
set_option maxRecDepth 100000 in
theorem walk_ok (vb : Value) (b : List UInt8) (vd : Value) (d : List UInt8) (size : Int) (w : World) (hb : RdB w vb b) (hd : RdB w vd d) (hsz : size ≤ 9223372036854775807) (h1 : ¬ (300 : Int) < (b.length : Int)) (h2 : ¬ (300 : Int) < (d.length : Int)) : Calls Try.prog 4 #[vb, vd, .int .i64 size] w fun e w' => e = .returned (.bool true) ∧ Fr No w w' := by
  obtain ⟨A0, c0, rfl, hbc, _⟩ := id hb
  obtain ⟨A', c', rfl, hdc, _⟩ := id hd
  have HB := Aside0.mk hb; have HD0 := Aside0.mk hd
  clear hb hd
  go_enter Try.func4, Try.ntmps4
  go_wp2_with fail
  refine (sends_calls w).mono ?_
  rintro e w2 ⟨rfl, hf⟩
  have F1 : Aside0 (Fr No w w2) := ⟨hf⟩
  clear hf
  go_wp2_with fail
  by_cases hE : makeE b.length size 32 = 0
  · obtain ⟨s, d0, rfl, hd0, hs1, hs2, _⟩ := made7 hE
    have hmk := fun W h => make_ok (.slice A0 b.length c0) b s 32 W h (by omega) (by omega) hE
    have hrm := fun W => Ref6.make_ok b s 32 W (by omega) (by omega) hE
    have hbl := blocks_length s 32 b (cnt b.length s)
    have hcl := cnt_le b.length s (by omega)
    have htr := tellR_made hE d
    have hck := chk_made hE
    have hgd := good_made (b := b) (cut := 32) hs1 d
    have hup := upto_tell (s := s) (by omega) (fB s b.length 32 (blocks s 32 b (cnt b.length s))) d [] 0 (fun t ht => by cases ht)
    have hln := tell_length (s := s) (by omega) (fB s b.length 32 (blocks s 32 b (cnt b.length s))) d []
    rw [Int.toNat_natCast] at hck
    simp only [Int.toNat_natCast] at hmk hrm
    have hnm := fun q r h => not_made (old := b) (d := d) (s := s) (f := fB s b.length 32 (blocks s 32 b (cnt b.length s))) (q := q) (r := r) h
    obtain ⟨bs, hbs⟩ : ∃ bs, blocks s 32 b (cnt b.length s) = bs := ⟨_, rfl⟩
    simp only [hbs] at hmk hrm hbl htr hck hgd hup hln hnm
    obtain ⟨L, hL⟩ : ∃ L, tell s (fB s b.length 32 bs) d [] = L := ⟨_, rfl⟩
    rw [hL] at htr hgd hup hln
    simp only [hL] at hnm
    rw [List.length_nil, Nat.zero_add] at hln
    rw [Nat.zero_add] at hup
    obtain ⟨R, hR⟩ : ∃ R, applyR b s L 32 (Sha.cut 32 d) = R := ⟨_, rfl⟩
    have him := fun r (h : R = (r, none)) => is_made (d := d) (hR.trans h)
    rw [hR] at hnm
    obtain ⟨J, hJ⟩ : ∃ J, joinR b s L = J := ⟨_, rfl⟩
    simp only [hJ] at hnm him
    have hjl : J.1.length ≤ 65536 := by rw [← hJ]; exact joinL_len _ _ _ (Nat.zero_le _)
    have hbb : bs.length ≤ 300 := by omega
    have hfc := fun e (he : e ∈ L) => (hgd.ok e he)
    have hsha := cut_full d
    have HMK := Aside0.mk hmk; have HRM := Aside0.mk hrm; have HTR := Aside0.mk htr; have HCK := Aside0.mk hck; have HLN := Aside0.mk hln; have HFX := Aside0.mk hup; have HFC := Aside0.mk hfc; have HNM := Aside0.mk hnm; have HIM := Aside0.mk him; have HR := Aside0.mk hR; have HJ := Aside0.mk hJ; have HSHA := Aside0.mk hsha
    clear hmk hrm htr hck hgd hup hln hL hbs hE hbl hcl hfc hnm him hR hJ hd0 hsha
    refine (HMK.out w2 (HB.out.no F1.out)).mono ?_
    rintro e w4 ⟨sl, rfl, hS, hf⟩
    have F4 : Aside0 (Fr No w w4) := ⟨F1.out.none hf⟩
    obtain ⟨A, c, rfl⟩ := hS.1.form
    have HS := Aside0.mk hS
    clear hf hS
    go_upto_region 6 with fail
    refine name_alloc (fun w5 h5 f5 => ?_)
    have XS := Aside0.mk h5
    have F5 : Aside0 (Fr No w w5) := ⟨F4.out.none f5⟩
    have HV : Aside0 (Rd (fBk .u32) w5 (.slice A bs.length c) bs) := ⟨HS.out.1.rd.no f5⟩
    clear h5 f5 HS
    obtain ⟨g, hg⟩ : ∃ g, w4.heap.size = g := ⟨_, rfl⟩
    rw [hg] at XS ⊢
    clear hg
    have LD := ld_all (P := Try.prog) (ty := 30) XS.out Try.underlying30 rfl (by kernel_rfl)
    go_wp2_with (first
      | (refine ldG (.tmp 7) 30 _ _ rfl rfl (LD _ (Fr.refl _ _)) (by first | rfl | (go_simp; done)) ?_)
      | fail)
    refine (tell_calls s 32 b.length (.slice A bs.length c) (.slice A' d.length c') bs d 32 w5 HV.out (HD0.out.no F5.out) (by omega) (by omega) (by omega) HCK.out (by omega) (by omega)).mono ?_
    rw [HTR.out]
    rintro e w6 ⟨vt, rfl, hT, hf⟩
    obtain ⟨At, ct, rfl⟩ := hT.form
    obtain ⟨fs, hT, hfs⟩ := hT
    have F6 : Aside0 (Fr No w w6) := ⟨F5.out.none hf⟩
    have hll : L.length = fs.length := by rw [← hfs, List.length_map]
    have hfl : fs.length ≤ 300 := by have := HLN.out; omega
    rw [hll] at hT ⊢
    have HT := Aside0.mk hT; have HFS := Aside0.mk hfs
    have hsl := Sha.cut_length 32 d
    obtain ⟨S, hSS⟩ : ∃ S, Sha.cut 32 d = S := ⟨_, rfl⟩
    rw [hSS] at hsl HR HSHA ⊢
    have HSL := Aside0.mk hsl
    clear hf hT hfs LD hll hSS hsl
    go_upto_region 9 with (refine PB.stRow (.tmp 9) (.tmp 42) 45 w6.heap.size 45 _ (toC (.slice At fs.length ct) 32 S) rfl rfl rfl rfl (heap_alloc_new w6 _) (by rw [toC_size HSL.out]; kernel_rfl) (by rw [toC_size HSL.out]; rfl) toC_one ?_; rw [World.setRow_alloc_new])
    refine name_alloc (fun w7 h7 f7 => ?_)
    have X7 := Aside0.mk h7
    have F7 : Aside0 (Fr No w6 w7) := ⟨f7⟩
    clear h7 f7
    have HD7 := Aside0.mk (HD0.out.no (F6.out.none F7.out))
    have LS := ld_told HSL.out X7.out
    have qe := fun W => Arr.run_neq Try.underlying41 W S (Sha.sha d) HSL.out (Sha.sha_length d)
    rw [HSHA.out] at qe
    unfold Arr.av at qe LS
    rw [HSHA.out] at LS
    have qg := fun x y W => run_eqGuard_agg (P := Try.prog) W .neq 41 x y ((Sha.sha d).map vu8).toArray ((Sha.sha d).map vu8).toArray (by kernel_rfl)
    have hds : (bstr d).size ≤ 100000000 := by rw [bstr_size]; omega
    have HDS := Aside0.mk hds
    clear hds
    obtain ⟨H9, hH9⟩ : ∃ H9, Sha.sha d = H9 := ⟨_, rfl⟩
    have HH9 := Aside0.mk hH9
    simp only [hH9, decide_true, Bool.not_true] at qe LS qg
    clear hH9
    refine Rg.start (fun _ x => Fr No w7 x) (by kernel_rfl) (by kernel_rfl) [7] [[0, 1, 2, 5, 6, 7]] (by kernel_rfl) (.q 0 0 (.q 1 0 (.q 2 0 (.q 3 1 (.q 4 1 (.q 5 0 (.q 6 0 (.e 7 1 (.q 8 1 (.q 9 1 (.done))))))))))) (by kernel_rfl) ?_ ?_
    · exact fun _ => (Fr.refl _ _).drew
    repeat (first
      | (refine Rg.q (o := ?_) (v := ?_) ?_ ?_ ?_ ?_ ?_
         rotate_left 2
         · (simp only [List.getElem?_toArray, List.getElem?_cons_succ, List.getElem?_cons_zero]; rfl)
         · exact fun _ _ _ h => h
         · first | rfl | (go_simp; done)
         · (intro x_ hx; (try dsimp only at hx); first | (fail) | ((refine (ex_ld rfl rfl (LS _ hx)).trans ?_; with_reducible rfl)) | (have q0 := str_of_rd (HD7.out.no hx); (try clear hx); go_simp; (try rw [if_neg (by omega)]); (try rw [if_pos (by omega)]); (try go_simp); try with_reducible rfl))
         try simp only [Act.put, List.setIfInBounds_toArray, List.set_cons_zero, List.set_cons_succ])
      | (refine Rg.skip (o := ?_) ?_ ?_ ?_ ?_
         rotate_left 1
         · (simp only [List.getElem?_toArray, List.getElem?_cons_succ, List.getElem?_cons_zero]; rfl)
         · exact fun _ _ _ h => h
         · first | rfl | (go_simp; done)
         try simp only [Act.put, List.setIfInBounds_toArray, List.set_cons_zero, List.set_cons_succ]))
    refine Rg.e (o := ?_) ?_ ?_
    rotate_left 1
    · (simp only [List.getElem?_toArray, List.getElem?_cons_succ, List.getElem?_cons_zero]; rfl)
    intro K hK
    rw [if_pos (by go_simp)]; go_simp
    refine (Sha.ref_of_calls (bstr d) _ HDS.out).mono ?_
    rintro en x1 ⟨rfl, hf⟩
    have K1 : Aside0 (Fr No w7 x1) := ⟨((Fr.refl No w7).drew).none hf⟩
    clear hf
    rw [Sha.data_bstr, HH9.out]
    unfold Arr.av
    go_simp
    refine hK.out _ _ (fun _ x => Fr No w7 x) (fun k x hk h => h) ?_ ?_
    · exact fun _ _ => K1.out
    try simp only [Act.put, List.setIfInBounds_toArray, List.set_cons_zero, List.set_cons_succ]
    repeat (first
      | (refine Rg.q (o := ?_) (v := ?_) ?_ ?_ ?_ ?_ ?_
         rotate_left 2
         · (simp only [List.getElem?_toArray, List.getElem?_cons_succ, List.getElem?_cons_zero]; rfl)
         · exact fun _ _ _ h => h
         · first | rfl | (go_simp; done)
         · (intro x_ hx; (try dsimp only at hx); first | (fail) | ((refine (ex_ld rfl rfl (LS _ hx)).trans ?_; with_reducible rfl)) | (have q0 := str_of_rd (HD7.out.no hx); (try clear hx); go_simp; (try rw [if_neg (by omega)]); (try rw [if_pos (by omega)]); (try go_simp); try with_reducible rfl))
         try simp only [Act.put, List.setIfInBounds_toArray, List.set_cons_zero, List.set_cons_succ])
      | (refine Rg.skip (o := ?_) ?_ ?_ ?_ ?_
         rotate_left 1
         · (simp only [List.getElem?_toArray, List.getElem?_cons_succ, List.getElem?_cons_zero]; rfl)
         · exact fun _ _ _ h => h
         · first | rfl | (go_simp; done)
         try simp only [Act.put, List.setIfInBounds_toArray, List.set_cons_zero, List.set_cons_succ]))
    refine Rg.done ?_
    go_simp
    clear qe qg LS
    have F8 : Aside0 (Fr No w x1) := ⟨(F6.out.none F7.out).none K1.out⟩
    have LT := ld_all (P := Try.prog) (ty := 45) (K1.out.heap X7.out id) Try.underlying45 rfl (by rw [toC_size HSL.out]; kernel_rfl)
    go_wp2_with (first
      | (refine ldG (.tmp 9) 45 _ _ rfl rfl (LT _ (Fr.refl _ _)) (by first | rfl | (go_simp; done)) ?_)
      | fail)
    have HT8 := (HT.out.no F7.out).no K1.out
    have hap := apply_calls (.slice A0 b.length c0) (.slice At fs.length ct) b s 32 S fs x1 HSL.out (HB.out.no F8.out) HT8.row.rd (fun e he => (HT8.own e he).1.rd) (by omega) (by omega) (by omega) (fun e he => by
      have := HFX.out e.tok (by rw [← HFS.out]; exact List.mem_map_of_mem he)
      have e9 : e.tok.2.2 = e.xs := rfl
      rw [e9] at this; omega) (fun e he => by
      have h8 := HFC.out e.tok (by rw [← HFS.out]; exact List.mem_map_of_mem he)
      have e9 : e.tok.2.1 = e.c := rfl
      have h3 := h8.c0; have h4 := h8.f0
      rcases (by omega : e.tok.2.1 = 0 ∨ 0 < e.tok.2.1) with h5 | h5
      · rw [← e9]; omega
      · have := (h8.blk h5).2; have := cnt_le b.length s (by omega); rw [← e9]; omega) (by omega) (by omega)
    rw [HFS.out, HR.out] at hap
    have HXL : Aside0 (∀ e ∈ L, e.2.2.length ≤ 100000000) := ⟨fun e he => by have := HFX.out e he; omega⟩
    have HFL : Aside0 (∀ e ∈ L, e.2.1 ≤ 9223372036854775807) := ⟨fun e he => by
      have h8 := HFC.out e he
      have h3 := h8.c0; have h4 := h8.f0
      rcases (by omega : e.2.1 = 0 ∨ 0 < e.2.1) with h5 | h5
      · omega
      · have := (h8.blk h5).2; have := cnt_le b.length s (by omega); omega⟩
    refine hap.mono ?_
    rintro e y1 ⟨v, ev, rfl, hN, hER⟩
    have F9 : Aside0 (Fr No w y1) := ⟨F8.out.none hN.fr⟩
    have HN := Aside0.mk hN.own
    obtain ⟨Av, cv, hvf⟩ := hN.own.form
    subst hvf
    clear hap LT
    have qd : (convert 22 9 (.slice A' d.length c')).run Try.prog y1 = .ok (.string (bstr d)) y1 := str_of_rd (HD0.out.no F9.out)
    have qo : (convert 22 9 (.slice Av R.1.length cv)).run Try.prog y1 = .ok (.string (bstr R.1)) y1 := str_of_rd HN.out.rd
    have qb : (convert 22 9 (.slice A0 b.length c0)).run Try.prog y1 = .ok (.string (bstr b)) y1 := str_of_rd (HB.out.no F9.out)
    obtain ⟨R1, R2⟩ := R
    have hcase : (R2 = none ∧ J.1 = R1 ∧ (R1 == d) = true) ∨ (R2 = none ∧ (R1 == d) = false ∧ (J.1 == d) = false) ∨ (∃ q1 q2, R2 = some (q1, q2) ∧ (J.1 == d) = false) := by
      cases R2 with
      | none =>
        have h9 := HIM.out R1 rfl
        cases hb : (R1 == d) with
        | true => exact .inl ⟨rfl, h9.symm, rfl⟩
        | false => exact .inr (.inl ⟨rfl, rfl, by rw [← h9]; exact hb⟩)
      | some q => exact .inr (.inr ⟨q.1, q.2, rfl, by rw [beq_eq_false_iff_ne]; exact HNM.out q R1 rfl⟩)
    have HCASE := Aside0.mk hcase
    have HER := Aside0.mk hER
    clear hN hER hcase
    dsimp only at qo ⊢
    rcases HCASE.out with ⟨h5, h6, h7⟩ | ⟨h5, h6, h7⟩ | ⟨q1, q2, h5, h7⟩
    · subst h5
      obtain rfl : ev = .nilIface := HER.out
      clear h6 qb
      go_wp2
      go_ret
      exact ⟨rfl, F9.out⟩
    case' inr.inl =>
      subst h5
      obtain rfl : ev = .nilIface := HER.out
      have H7 := Aside0.mk h7
      clear h7
      go_wp2_with fail
    case' inr.inr =>
      subst h5
      obtain ⟨b9, rfl, _⟩ := HER.out
      have H7 := Aside0.mk h7
      clear h7
      go_wp2_with fail
    all_goals
      refine (HRM.out y1).mono ?_
      rintro e z1 ⟨sr, rfl, hSR, hf⟩
      have G1 : Aside0 (Fr No w z1) := ⟨F9.out.none hf⟩
      obtain ⟨Ar, cr, hsrf⟩ := hSR.1.form
      subst hsrf
      have HSR := Aside0.mk hSR
      clear hf hSR qd qo qb
      go_upto_region 15 with fail
      refine name_alloc (fun z2 k2 j2 => ?_)
      have Z2 := Aside0.mk k2
      have G2 : Aside0 (Fr No w z2) := ⟨G1.out.none j2⟩
      have HV2 : Aside0 (Rd (fBk .i64) z2 (.slice Ar bs.length cr) bs) := ⟨HSR.out.1.rd.no j2⟩
      clear k2 j2 HSR
      obtain ⟨g2, hg2⟩ : ∃ g2, z1.heap.size = g2 := ⟨_, rfl⟩
      rw [hg2] at Z2 ⊢
      clear hg2
      have LR := ld_all (P := Try.prog) (ty := 55) Z2.out Try.underlying55 rfl (by kernel_rfl)
      have qd2 : (convert 22 9 (.slice A' d.length c')).run Try.prog z2 = .ok (.string (bstr d)) z2 := str_of_rd (HD0.out.no G2.out)
      go_wp2_with (first
        | (refine ldG (.tmp 13) 55 _ _ rfl rfl (LR _ (Fr.refl _ _)) (by first | rfl | (go_simp; done)) ?_)
        | fail)
      refine (rmake_calls s 32 b.length (.slice Ar bs.length cr) bs d z2 HV2.out (by omega) (by omega) (by omega)).mono ?_
      rw [HTR.out, HCK.out]
      rintro e z3 ⟨vr, rfl, hO, hf⟩
      have G3 : Aside0 (Fr No w z3) := ⟨G2.out.none hf⟩
      have HO := Aside0.mk hO
      clear hf hO qd2 LR
      have qb3 : (convert 22 9 (.slice A0 b.length c0)).run Try.prog z3 = .ok (.string (bstr b)) z3 := str_of_rd (HB.out.no G3.out)
      go_wp2_with fail
      refine (rjoin_calls vr b s L z3 HO.out.rd (by omega) (by have := HLN.out; omega) (by omega) HXL.out HFL.out).mono ?_
      rw [HJ.out]
      rintro e z4 ⟨rfl, hf⟩
      have G4 : Aside0 (Fr No w z4) := ⟨G3.out.none hf⟩
      have qd4 : (convert 22 9 (.slice A' d.length c')).run Try.prog z4 = .ok (.string (bstr d)) z4 := str_of_rd (HD0.out.no G4.out)
      have h7 := H7.out
      clear hf qb3
      go_wp2
      go_ret
      exact ⟨rfl, G4.out⟩
  · have hE0 : (makeE b.length size 32 == 0) = false := by rw [beq_eq_false_iff_ne]; exact hE
    have hmb := fun W h => make_bad (.slice A0 b.length c0) b size 32 W h hsz hE
    obtain ⟨E, hEE⟩ : ∃ E, makeE b.length size 32 = E := ⟨_, rfl⟩
    rw [hEE] at hE0
    simp only [hEE] at hmb
    have HMB := Aside0.mk hmb
    clear hmb hE hEE
    refine (HMB.out w2 (HB.out.no F1.out)).mono ?_
    rintro e w4 ⟨rfl, hf⟩
    have F4 : Aside0 (Fr No w w4) := ⟨F1.out.none hf⟩
    clear hf
    go_wp2
    go_ret
    exact ⟨rfl, F4.out.alloc _⟩
theorem walk (vb : Value) (b : List UInt8) (vd : Value) (d : List UInt8) (size : Int) (w : World) (hb : RdB w vb b ∧ b.length ≤ reach) (hd : RdB w vd d ∧ d.length ≤ reach) (hs : (Lit.int .i64 size).wf = true) : Calls Try.prog 4 #[vb, vd, .int .i64 size] w fun e w' => e = .returned (.bool true) ∧ Fr No w w' := by
  by_cases h : 300 < b.length ∨ 300 < d.length
  · exact walk_out vb b vd d size w hb.1 hd.1 h
  · exact walk_ok vb b vd d size w hb.1 hd.1 (bounds_i64 hs).2 (by omega) (by omega)
end Go.Proofs.Ytnfneokmiopieaa.LPatchTells
