/- The walk of the law FrameCut. -/
import Derived.Test.YtdicjcpcohclaaaDoorLawFrameReads
import Derived.Test.YtdicjcpcohclaaaDoorSpecRead
import Derived.Test.YtdicjcpcohclaaaDoorCutR
set_option linter.unusedVariables false
set_option linter.unusedSimpArgs false
namespace Go.Proofs.YtdicjcpcohclaaaDoor.LFrameCut
open Go.RowKit Go.IntWalk Go.Proofs.YtdicjcpcohclaaaDoorW.PrintWords Go.Proofs.YtdicjcpcohclaaaDoor.B Go.Proofs.YtdicjcpcohclaaaDoor.PB Go.Proofs.YtdicjcpcohclaaaDoor.Err Go.Proofs.YtdicjcpcohclaaaDoor.SCode Go.Proofs.YtdicjcpcohclaaaDoor.Rdr Go.Proofs.YtdicjcpcohclaaaDoor.Frm Go.Proofs.YtdicjcpcohclaaaDoor.Ref4 Go.Proofs.YtdicjcpcohclaaaDoor.LFrameReads
attribute [local go_sem] B.max2_int B.min2_int B.max_two B.min_two

/-- A frame that is cut is short, there where it ends. -/
theorem readS_cut (k s : Int) (xs : List UInt8) (h : checkE k s xs.length = 0) (cut : Nat) (hc : cut < (frameB k s xs).length) : readS ((frameB k s xs).take cut) = (0, 0, [], 0, some (cut, 30)) := by
  obtain ⟨h1, h2, h3, h4, h5⟩ := checkE_ok h
  obtain ⟨e1, e2⟩ := headB_toNat k s h1 h2 h3 h4
  have hI : numI (xs.length : Int) = numB xs.length := by rw [numI, clampN_nat _ (by omega)]
  cases cut with
  | zero => exact (by decide : readS [] = (0, 0, [], 0, some (0, 30)))
  | succ c =>
    obtain ⟨N, hN⟩ : ∃ N, numB xs.length = N := ⟨_, rfl⟩
    have hb : (frameB k s xs).take (c + 1) = headB k s :: (N ++ xs).take c := by simp [frameB, hI, hN]
    have hcl : c < N.length + xs.length := by simp [frameB, hI, hN] at hc; omega
    have hlen : (headB k s :: (N ++ xs).take c).length = c + 1 := by simp; omega
    rw [hb]
    have r1 : rByte (headB k s :: (N ++ xs).take c) ⟨0, none⟩ = (⟨1, none⟩, headB k s) := Frm.rByte_ok _ 0 _ rfl
    by_cases hcn : c < N.length
    · have r2 : rNum (headB k s :: (N ++ xs).take c) ⟨1, none⟩ = (⟨c + 1, some (c + 1, 30)⟩, 0) := by
        have := rNum_cut (headB k s :: (N ++ xs).take c) (N.drop c) xs.length 1 (by rw [hlen]; omega) (by
          rw [hN, List.drop_succ_cons, List.drop_zero, List.take_append_of_le_length (by omega), List.take_append_drop]) (by rw [List.length_drop]; omega) (by omega)
        rw [hlen] at this
        exact this
      have hh : headS (headB k s :: (N ++ xs).take c) = (0, 0, 0, 0, some (c + 1, 30)) := by
        unfold headS
        simp only [r1, r2]
        rw [if_neg (by omega)]
      unfold readS
      simp only [hh]
    · have r2 : rNum (headB k s :: (N ++ xs).take c) ⟨1, none⟩ = (⟨1 + N.length, none⟩, xs.length) := by
        have := Frm.rNum_numB (headB k s :: (N ++ xs).take c) (xs.take (c - N.length)) xs.length 1 (by
          rw [hN, List.drop_succ_cons, List.drop_zero, List.take_append, List.take_of_length_le (by omega)]) (by omega)
        rw [hN] at this
        exact this
      have hh : headS (headB k s :: (N ++ xs).take c) = ((headB k s).toNat / 8, (headB k s).toNat % 8, 1 + N.length, xs.length, none) := by
        unfold headS
        simp only [r1, r2]
        rw [if_neg (by omega), if_neg (by omega)]
      unfold readS
      simp only [hh]
      rw [hlen, if_pos (by omega)]

theorem walk_bad (k s cut : Int) (d vm : Value) (ds more : List UInt8) (w : World) (hd : RdB w d ds) (hm : RdB w vm more) (he : checkE k s ds.length ≠ 0) : Calls Tryd.prog 10 #[frV k s d, .int .i64 cut, vm] w fun e w' => e = .returned (.bool true) ∧ Fr No w w' := by
  obtain ⟨A, c, rfl, _⟩ := id hm
  obtain ⟨Ad, cd, rfl, _⟩ := id hd
  clear hm hd
  have heB : (checkE k s ds.length != 0) = true := by rw [bne_iff_ne]; exact he
  have HE := Aside0.mk he
  clear he
  go_enter Tryd.func10, Tryd.ntmps10
  go_wp2_with fail
  refine (readsF_calls _).mono ?_
  rintro e w1 ⟨rfl, hf⟩
  have hb1 : w1.heap[w.heap.size]? = some (.cells #[.int .i64 k, .int .i64 s, .slice Ad ds.length cd] 59 (0, 0)) := hf.heap (blk_new w _) id
  have F1 : Aside0 (Fr No w w1) := ⟨((Fr.refl No w).alloc _).none hf⟩
  have L1 := ld_all (P := Tryd.prog) (ty := 59) hb1 Tryd.underlying59 rfl (by kernel_rfl)
  clear hf hb1
  go_wp2_with (refine ldG (.tmp 3) 59 _ _ rfl rfl (L1 _ (Fr.refl _ _)) (by first | rfl | (go_simp; done)) ?_)
  refine (append_bad_calls k s Ad ds.length cd _ _ HE.out).mono ?_
  rintro e w2 ⟨rfl, hf⟩
  have F2 := Aside0.mk (F1.out.none hf)
  clear hf L1
  go_wp2
  go_ret
  exact ⟨rfl, F2.out⟩

set_option maxHeartbeats 4000000 in
set_option maxRecDepth 100000 in
theorem walk_ok (k s cut : Int) (d vm : Value) (ds more : List UInt8) (w : World) (hg : Gl w) (hd : RdB w d ds) (hm : RdB w vm more) (he : checkE k s ds.length = 0) : Calls Tryd.prog 10 #[frV k s d, .int .i64 cut, vm] w fun e w' => e = .returned (.bool true) ∧ Fr No w w' := by
  obtain ⟨A, c, rfl, _⟩ := id hm
  obtain ⟨Ad, cd, rfl, _⟩ := id hd
  have HE := Aside0.mk he; have HG := Aside0.mk hg; have HD := Aside0.mk hd; have HM := Aside0.mk hm
  clear he hg hm hd
  go_enter Tryd.func10, Tryd.ntmps10
  go_wp2_with fail
  refine (readsF_calls _).mono ?_
  rintro e w1 ⟨rfl, hf⟩
  have hb1 : w1.heap[w.heap.size]? = some (.cells #[.int .i64 k, .int .i64 s, .slice Ad ds.length cd] 59 (0, 0)) := hf.heap (blk_new w _) id
  have HB1 := Aside0.mk hb1
  have F1 : Aside0 (Fr No w w1) := ⟨((Fr.refl No w).alloc _).none hf⟩
  have L1 := ld_all (P := Tryd.prog) (ty := 59) hb1 Tryd.underlying59 rfl (by kernel_rfl)
  clear hf hb1
  go_wp2_with (refine ldG (.tmp 3) 59 _ _ rfl rfl (L1 _ (Fr.refl _ _)) (by first | rfl | (go_simp; done)) ?_)
  refine (append_calls k s _ (.slice none 0 0) ds [] w1 HE.out (Ow.nil _ _ _) (HD.out.no F1.out) (by simp) (fun _ b _ h => by cases h)).mono ?_
  rintro e w2 ⟨v2, rfl, gw⟩
  have O2 : Aside0 (OwB w2 v2 (frameB k s ds)) := ⟨by simpa using gw.own⟩
  have E2 : Aside0 (Fr No w1 w2) := ⟨gw.fr.mono (fun q _ h => by cases h)⟩
  have F2 := Aside0.mk (F1.out.none E2.out)
  have N2 : Aside0 (∀ q, v2.ownBlock = some q → w1.heap.size ≤ q) := ⟨fun q hq => by
    rcases gw.at_ with h | ⟨q', h, hl⟩
    · rw [hq] at h; cases h
    · rw [hq] at h; injection h with h; omega⟩
  have hcut := readS_cut k s ds HE.out
  have hrd := readS_frameB k s ds more HE.out
  obtain ⟨FB, hFB⟩ : ∃ FB, frameB k s ds = FB := ⟨_, rfl⟩
  have hpos : 0 < FB.length := by rw [← hFB]; simp [frameB]
  have hfl : FB.length ≤ 16400 := by
    have h1 := numI_length (ds.length : Int)
    have h2 := checkE_ok HE.out
    rw [← hFB]; simp [frameB]; omega
  rw [hFB] at O2 hcut hrd
  obtain ⟨g, cg, rfl, hg2⟩ := O2.out.at_ hpos
  have HCUT := Aside0.mk hcut; have HRD := Aside0.mk hrd
  clear gw L1 hcut hrd hFB hg2
  by_cases hml : 100 < more.length
  · have hmI : (100 : Int) < (more.length : Int) := by omega
    go_wp2
    go_ret
    exact ⟨rfl, F2.out⟩
  · have hmI : ¬ (100 : Int) < (more.length : Int) := by omega
    have RM : Aside0 (RdB w2 (.slice A more.length c) more) := ⟨HM.out.no F2.out⟩
    have nb : ∀ q, q < w2.heap.size → blk (.slice (some ⟨w2.heap.size, 0, none⟩) 0 0) q → False := fun q hq hb => by have h9 : w2.heap.size = q := Option.some.inj hb; omega
    have NB := Aside0.mk nb
    clear nb
    go_wp2_with (first
      | (at_builtin; refine apBs (.slice (some ⟨w2.heap.size, 0, none⟩) 0 0) [] (.slice (some ⟨g, 0, none⟩) FB.length cg) FB rfl (.tmp 27) (.tmp 28) rfl rfl rfl (own_empty w2) ?c1 ?c2 ?_; (case c1 => exact (O2.out.rd).no ((Fr.refl _ _).alloc _)); (case c2 => simp; omega); intro v3 w3 h1 h2 h3 h4; have G1 : Aside0 (OwB w3 v3 FB) := (⟨by simpa using h1⟩); have G2 : Aside0 (Fr No w2 w3) := (⟨((Fr.refl No w2).alloc _).trans h2 (fun q hq hb => NB.out q hq hb)⟩); have G3 : Aside0 (∀ q, v3.ownBlock = some q → w2.heap.size ≤ q) := (⟨fun q hq => Nat.le_of_not_lt (fun hlt => NB.out q hlt (h3.back hq (by simp; omega)))⟩); clear h1 h2 h3 h4)
      | (at_builtin; refine apBs v3 FB (.slice A more.length c) more rfl (.tmp 29) (.tmp 30) rfl rfl rfl G1.out ?d1 ?d2 ?_; (case d1 => exact RM.out.no G2.out); (case d2 => omega); intro v4 w4 h1 h2 h3 h4; have I1 := Aside0.mk h1; have I2 : Aside0 (Fr No w2 w4) := (⟨G2.out.trans h2 (fun q hq hb => absurd (G3.out q hb) (by omega))⟩); clear h1 h2 h3 h4))
    refine (readF_calls _ _ w4 I1.out.rd (by simp; omega)).mono ?_
    obtain ⟨ka, sa, hka, hsa, hrd⟩ := HRD.out
    rw [hrd]
    dsimp only
    rintro e w5 ⟨d5, ev, rfl, he5, hf5, hd5, hn5⟩
    obtain rfl : ev = .nilIface := he5
    subst hka hsa
    have hb5 := (F1.out).size
    have E5 : Aside0 (Fr No w2 w5) := ⟨I2.out.none hf5⟩
    have D5 := Aside0.mk hd5
    obtain ⟨D, cD, rfl⟩ := hd5.form
    have HB5 : Aside0 (w5.heap[w.heap.size]? = some (.cells #[.int .i64 (ka : Int), .int .i64 (sa : Int), .slice Ad ds.length cd] 59 (0, 0))) := ⟨E5.out.heap (E2.out.heap HB1.out id) id⟩
    clear hrd hf5 hd5 hn5 hb5
    go_upto_region 7 with fail
    generalize hw6 : w5.alloc (.cells #[.int .i64 (ka : Int), .int .i64 (sa : Int), .slice D ds.length cD] 59) = w6
    have C6 : Aside0 (w6.heap[w5.heap.size]? = some (.cells #[.int .i64 (ka : Int), .int .i64 (sa : Int), .slice D ds.length cD] 59 (0, 0))) := ⟨by rw [← hw6]; exact heap_alloc_new w5 _⟩
    have B6 : Aside0 (w6.heap[w.heap.size]? = some (.cells #[.int .i64 (ka : Int), .int .i64 (sa : Int), .slice Ad ds.length cd] 59 (0, 0))) := ⟨by rw [← hw6]; exact blk_alloc HB5.out _⟩
    have E6 : Aside0 (Fr No w2 w6) := ⟨by rw [← hw6]; exact E5.out.alloc _⟩
    have D6 : Aside0 (OwB w6 (.slice D ds.length cD) ds) := ⟨D5.out.no (by rw [← hw6]; exact (Fr.refl _ _).alloc _)⟩
    have FD : Aside0 (Fr No w6 w6.drew) := ⟨(Fr.refl _ _).drew⟩
    clear hw6 HB5 E5 D5 I1 I2 G1 G2 G3 RM
    have LA := ld_all (P := Tryd.prog) (ty := 59) C6.out Tryd.underlying59 rfl (by kernel_rfl)
    have LB := ld_all (P := Tryd.prog) (ty := 59) B6.out Tryd.underlying59 rfl (by kernel_rfl)
    refine Rg.start (fun _ x => Fr No w6 x) (by kernel_rfl) (by kernel_rfl) [10, 12] [[4, 5, 3, 6, 0, 1, 2, 7, 8, 9, 10], [9, 10, 4, 5, 3, 6, 0, 1, 2, 7, 8, 11, 12]] (by kernel_rfl) (.q 0 0 (.q 1 0 (.q 2 0 (.q 3 0 (.q 4 0 (.q 5 0 (.q 6 0 (.q 7 0 (.q 8 0 (.q 9 0 (.q 11 1 (.e 10 1 (.e 12 2 (.q 13 2 (.q 14 2 (.done)))))))))))))))) (by kernel_rfl) ?_ ?_
    · exact fun _ => FD.out
    repeat (first
      | (refine Rg.q (o := ?_) (v := ?_) ?_ ?_ ?_ ?_ ?_
         rotate_left 2
         · (simp only [List.getElem?_toArray, List.getElem?_cons_succ, List.getElem?_cons_zero]; rfl)
         · exact fun _ _ _ h => h
         · first | rfl | (go_simp; done)
         · (intro x_ hx; (try dsimp only at hx); first | (refine (ex_ld rfl rfl (LA _ hx)).trans ?_; with_reducible rfl) | (refine (ex_ld rfl rfl (LB _ hx)).trans ?_; with_reducible rfl) | (refine (ex_ld rfl rfl (fail _ hx)).trans ?_; with_reducible rfl) | (refine (ex_ld rfl rfl (fail _ hx)).trans ?_; with_reducible rfl) | (skip; (try clear hx); go_simp; (try rw [if_neg (by omega)]); (try rw [if_pos (by omega)]); (try go_simp); try with_reducible rfl))
         try simp only [Act.put, List.setIfInBounds_toArray, List.set_cons_zero, List.set_cons_succ])
      | (refine Rg.skip (o := ?_) ?_ ?_ ?_ ?_
         rotate_left 1
         · (simp only [List.getElem?_toArray, List.getElem?_cons_succ, List.getElem?_cons_zero]; rfl)
         · exact fun _ _ _ h => h
         · first | rfl | (go_simp; done)
         try simp only [Act.put, List.setIfInBounds_toArray, List.set_cons_zero, List.set_cons_succ]))
    refine Rg.e (o := ?_) ?_ ?_
    rotate_left 1
    · (simp only [List.getElem?_toArray, List.getElem?_cons_succ, List.getElem?_cons_zero]; rfl)
    intro K hK
    go_simp
    refine (plain_calls ka sa _ ds w6.drew (D6.out.rd.no FD.out)).mono ?_
    rintro en x1 ⟨rfl, hf⟩
    have K1 : Aside0 (Fr No w6 x1) := ⟨FD.out.none hf⟩
    clear hf
    go_simp
    refine hK.out _ _ (fun _ x => Fr No w6 x) (fun k x hk h => h) ?_ ?_
    · exact fun _ _ => K1.out
    try simp only [Act.put, List.setIfInBounds_toArray, List.set_cons_zero, List.set_cons_succ]
    repeat (first
      | (refine Rg.q (o := ?_) (v := ?_) ?_ ?_ ?_ ?_ ?_
         rotate_left 2
         · (simp only [List.getElem?_toArray, List.getElem?_cons_succ, List.getElem?_cons_zero]; rfl)
         · exact fun _ _ _ h => h
         · first | rfl | (go_simp; done)
         · (intro x_ hx; (try dsimp only at hx); first | (refine (ex_ld rfl rfl (LA _ hx)).trans ?_; with_reducible rfl) | (refine (ex_ld rfl rfl (LB _ hx)).trans ?_; with_reducible rfl) | (refine (ex_ld rfl rfl (fail _ hx)).trans ?_; with_reducible rfl) | (refine (ex_ld rfl rfl (fail _ hx)).trans ?_; with_reducible rfl) | (skip; (try clear hx); go_simp; (try rw [if_neg (by omega)]); (try rw [if_pos (by omega)]); (try go_simp); try with_reducible rfl))
         try simp only [Act.put, List.setIfInBounds_toArray, List.set_cons_zero, List.set_cons_succ])
      | (refine Rg.skip (o := ?_) ?_ ?_ ?_ ?_
         rotate_left 1
         · (simp only [List.getElem?_toArray, List.getElem?_cons_succ, List.getElem?_cons_zero]; rfl)
         · exact fun _ _ _ h => h
         · first | rfl | (go_simp; done)
         try simp only [Act.put, List.setIfInBounds_toArray, List.set_cons_zero, List.set_cons_succ]))
    refine Rg.e (o := ?_) ?_ ?_
    rotate_left 1
    · (simp only [List.getElem?_toArray, List.getElem?_cons_succ, List.getElem?_cons_zero]; rfl)
    intro K hK
    go_simp
    refine (plain_calls ka sa _ ds x1 (((HD.out.no F2.out).no E6.out).no K1.out)).mono ?_
    rintro en x2 ⟨rfl, hf⟩
    have K2 : Aside0 (Fr No w2 x2) := ⟨(E6.out.none K1.out).none hf⟩
    have K2' : Aside0 (Fr No w6 x2) := ⟨K1.out.none hf⟩
    clear hf
    go_simp
    refine hK.out _ _ (fun _ x => Fr No w6 x) (fun k x hk h => h) ?_ ?_
    · exact fun _ _ => K2'.out
    try simp only [Act.put, List.setIfInBounds_toArray, List.set_cons_zero, List.set_cons_succ]
    repeat (first
      | (refine Rg.q (o := ?_) (v := ?_) ?_ ?_ ?_ ?_ ?_
         rotate_left 2
         · (simp only [List.getElem?_toArray, List.getElem?_cons_succ, List.getElem?_cons_zero]; rfl)
         · exact fun _ _ _ h => h
         · first | rfl | (go_simp; done)
         · (intro x_ hx; (try dsimp only at hx); first | (refine (ex_ld rfl rfl (LA _ hx)).trans ?_; with_reducible rfl) | (refine (ex_ld rfl rfl (LB _ hx)).trans ?_; with_reducible rfl) | (refine (ex_ld rfl rfl (fail _ hx)).trans ?_; with_reducible rfl) | (refine (ex_ld rfl rfl (fail _ hx)).trans ?_; with_reducible rfl) | (skip; (try clear hx); go_simp; (try rw [if_neg (by omega)]); (try rw [if_pos (by omega)]); (try go_simp); try with_reducible rfl))
         try simp only [Act.put, List.setIfInBounds_toArray, List.set_cons_zero, List.set_cons_succ])
      | (refine Rg.skip (o := ?_) ?_ ?_ ?_ ?_
         rotate_left 1
         · (simp only [List.getElem?_toArray, List.getElem?_cons_succ, List.getElem?_cons_zero]; rfl)
         · exact fun _ _ _ h => h
         · first | rfl | (go_simp; done)
         try simp only [Act.put, List.setIfInBounds_toArray, List.set_cons_zero, List.set_cons_succ]))
    refine Rg.done ?_
    go_simp
    clear LA LB
    have hcase : cut < 0 ∨ (0 ≤ cut ∧ (FB.length : Int) ≤ cut) ∨ ∃ n : Nat, cut = (n : Int) ∧ n < FB.length := by
      rcases Int.lt_or_le cut 0 with h | h
      · exact .inl h
      · rcases Int.lt_or_le cut (FB.length : Int) with h2 | h2
        · exact .inr (.inr ⟨cut.toNat, by omega, by omega⟩)
        · exact .inr (.inl ⟨h, h2⟩)
    have FZ : Aside0 (Fr No w x2) := ⟨F2.out.none K2.out⟩
    rcases hcase with h | ⟨h, h2⟩ | ⟨n, rfl, hn⟩
    · go_wp2
      go_ret
      exact ⟨rfl, FZ.out⟩
    · have h3 : ¬ cut < 0 := by omega
      go_wp2
      go_ret
      exact ⟨rfl, FZ.out⟩
    · have hnI : ¬ (FB.length : Int) ≤ (n : Int) := by omega
      have hnc : n ≤ cg := by
        obtain ⟨A', c', he', h1, _⟩ := O2.out.rd
        injection he' with _ _ e3
        omega
      go_wp2_with fail
      have RT : RdB x2 (.slice (some ⟨g, 0, none⟩) n cg) (FB.take n) := rd_take (O2.out.rd.no K2.out) n (by omega)
      refine (readF_calls _ _ x2 RT (by rw [List.length_take]; omega)).mono ?_
      rw [HCUT.out n hn]
      dsimp only
      rintro e w7 ⟨d7, ev, rfl, he7, hf7, hd7, _⟩
      have HE7 := Aside0.mk he7
      have F7 := Aside0.mk (FZ.out.none hf7)
      obtain ⟨D7, c7, rfl⟩ := hd7.form
      clear he7 hf7 hd7
      go_wp2_with fail
      refine (number_calls (HG.out.no F7.out) HE7.out).mono ?_
      rw [show noE (some (n, 30)) = 30 from rfl]
      rintro en x3 ⟨rfl, hf⟩
      have F8 : Aside0 (Fr No w7 x3) := ⟨hf⟩
      clear hf
      go_wp2_with fail
      refine (place_calls ((HG.out.no F7.out).no F8.out) (HE7.out.no F8.out)).mono ?_
      rw [show plE (some (n, 30)) = (n : Int) from rfl]
      rintro en x4 ⟨rfl, hf⟩
      have F9 : Aside0 (Fr No w x4) := ⟨F7.out.none (F8.out.none hf)⟩
      clear hf
      go_wp2
      go_ret
      exact ⟨rfl, F9.out⟩
theorem walk (k s : Int) (d : Value) (ds : List UInt8) (cut : Int) (vm : Value) (more : List UInt8) (w : World) (hg : Gl w) (hd : RdB w d ds ∧ ds.length ≤ reach) (hc : (Lit.int .i64 cut).wf = true) (hm : RdB w vm more ∧ more.length ≤ reach) : Calls Tryd.prog 10 #[.agg #[.int .i64 k, .int .i64 s, d], .int .i64 cut, vm] w fun e w' => e = .returned (.bool true) ∧ Fr No w w' := by
  by_cases he : checkE k s ds.length = 0
  · exact walk_ok k s cut d vm ds more w hg hd.1 hm.1 he
  · exact walk_bad k s cut d vm ds more w hd.1 hm.1 he
end Go.Proofs.YtdicjcpcohclaaaDoor.LFrameCut
