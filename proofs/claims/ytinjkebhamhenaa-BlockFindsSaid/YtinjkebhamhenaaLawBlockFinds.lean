/- The walk of the law BlockFinds. -/
import Derived.Test.YtinjkebhamhenaaSums6
import Derived.Test.YtinjkebhamhenaaPlain6
import Derived.Test.YtinjkebhamhenaaRef6F
import Derived.OpenShut
set_option linter.unusedVariables false
set_option linter.unusedSimpArgs false
namespace Go.Proofs.Ytinjkebhamhenaa.LBlockFinds
open Go.ChangeShapes Go.RowKit Go.IntWalk Go.Proofs.YtinjkebhamhenaaW.PrintWords Go.Proofs.Ytinjkebhamhenaa.B Go.Proofs.Ytinjkebhamhenaa.PB Go.Proofs.Ytinjkebhamhenaa.SWeak Go.Proofs.Ytinjkebhamhenaa.Bk Go.Proofs.Ytinjkebhamhenaa.SBlk Go.Proofs.Ytinjkebhamhenaa.Blk Go.Proofs.Ytinjkebhamhenaa.L6
attribute [local go_sem] B.max2_int B.min2_int B.max_two B.min_two

set_option maxHeartbeats 8000000 in
set_option maxRecDepth 100000 in
theorem walk_out (vb : Value) (b : List UInt8) (size cut : Int) (vp : Value) (p : List UInt8) (w : World) (hb : RdB w vb b) (hp : RdB w vp p) (hout : 200 < b.length ∨ 200 < p.length) : Calls Try.prog 4 #[vb, .agg #[.int .i64 size, .int .i64 cut], vp] w fun e w' => e = .returned (.bool true) ∧ Fr No w w' := by
  obtain ⟨A, c, rfl, _⟩ := id hb
  obtain ⟨A', c', rfl, _⟩ := id hp
  clear hb hp
  have hc : (200 : Int) < (b.length : Int) ∨ (¬ (200 : Int) < (b.length : Int) ∧ (200 : Int) < (p.length : Int)) := by omega
  clear hout
  rcases hc with h1 | ⟨h1, h2⟩
  all_goals
    go_enter Try.func4, Try.ntmps4
    go_wp2_with fail
    refine (sums_calls _).mono ?_
    rintro e w1 ⟨rfl, hf⟩
    have F1 : Aside0 (Fr No w w1) := ⟨((Fr.refl _ _).alloc _).none hf⟩
    clear hf
    go_wp2
    go_ret
    exact ⟨rfl, F1.out⟩

/-- What is made of a file that is not refused. -/
theorem made {b : List UInt8} {size cut : Int} (h : makeE b.length size cut = 0) : ∃ (s d : Nat), size = s ∧ cut = d ∧ 1 ≤ s ∧ s ≤ 4096 ∧ d ≤ 32 ∧ makeS b size cut = ⟨s, d, b.length, blocks s d b (cnt b.length s)⟩ ∧ (cnt b.length s : Int) ≤ 4096 := by
  have hc := makeE_cases b.length size cut
  obtain ⟨a1, a2, a3, a4, a5⟩ : 1 ≤ size ∧ size ≤ 4096 ∧ 0 ≤ cut ∧ cut ≤ 32 ∧ countI b.length size ≤ 4096 := by
    rcases hc with h | h | h | h | h | h <;> omega
  obtain ⟨s, rfl⟩ := Int.eq_ofNat_of_zero_le (show 0 ≤ size by omega)
  obtain ⟨d, rfl⟩ := Int.eq_ofNat_of_zero_le a3
  refine ⟨s, d, rfl, rfl, by omega, by omega, by omega, ?_, ?_⟩
  · unfold makeS; rw [if_pos h, Int.toNat_natCast]
  · rw [countI_nat _ _ (by omega)] at a5; exact a5

set_option maxHeartbeats 8000000 in
set_option maxRecDepth 100000 in
theorem walk_ok (vb : Value) (b : List UInt8) (size cut : Int) (vp : Value) (p : List UInt8) (w : World) (hb : RdB w vb b) (hp : RdB w vp p) (hs2 : size ≤ 9223372036854775807) (h1 : ¬ (200 : Int) < (b.length : Int)) (h2 : ¬ (200 : Int) < (p.length : Int)) : Calls Try.prog 4 #[vb, .agg #[.int .i64 size, .int .i64 cut], vp] w fun e w' => e = .returned (.bool true) ∧ Fr No w w' := by
  obtain ⟨A, c, rfl, hbc, _⟩ := id hb
  obtain ⟨A', c', rfl, hpc, _⟩ := id hp
  have HB := Aside0.mk hb; have HP := Aside0.mk hp
  clear hb hp
  go_enter Try.func4, Try.ntmps4
  go_upto_region 1 with fail
  have X0 := heap_alloc_new w (.cells #[.int .i64 size, .int .i64 cut] 38)
  have F0 : Aside0 (Fr No w (w.alloc (.cells #[.int .i64 size, .int .i64 cut] 38))) := ⟨(Fr.refl _ _).alloc _⟩
  change Code.wp _ _ _ _ (w.alloc (.cells #[.int .i64 size, .int .i64 cut] 38))
  generalize w.alloc (.cells #[.int .i64 size, .int .i64 cut] 38) = w0 at X0 F0 ⊢
  go_wp2_with fail
  refine (sums_calls w0).mono ?_
  rintro e w1 ⟨rfl, hf⟩
  have F1 : Aside0 (Fr No w w1) := ⟨F0.out.none hf⟩
  have k0 : w1.cell? ⟨w.heap.size, 0, Option.none⟩ = some (.int .i64 size) := by rw [blk_cell (hf.heap X0 id)]; rfl
  have k1 : w1.cell? ⟨w.heap.size, 1, Option.none⟩ = some (.int .i64 cut) := by rw [blk_cell (hf.heap X0 id)]; rfl
  clear hf X0
  go_wp2_with fail
  refine (make_calls _ b size cut w1 (HB.out.no F1.out) (by omega) hs2).mono ?_
  by_cases hE : makeE b.length size cut = 0
  · obtain ⟨s, d, rfl, rfl, hs, hs3, hd, hm, hcn⟩ := made hE
    obtain ⟨n, hn⟩ : ∃ n, cnt b.length s = n := ⟨_, rfl⟩
    have hspec := cnt_spec b.length s (by omega)
    rw [hE, hm, hn]
    rw [hn] at hcn hspec
    have HSP := Aside0.mk hspec
    dsimp only
    rintro e w2 ⟨sl, rfl, hO, hf⟩
    have F2 : Aside0 (Fr No w w2) := ⟨F1.out.none hf⟩
    have hbl := blocks_length s d b n
    have hbg := blocks_get s d b n
    have hown := find_own b s d n
    obtain ⟨bs, hbs⟩ : ∃ bs, blocks s d b n = bs := ⟨_, rfl⟩
    rw [hbs] at hO hbl hbg hown
    obtain ⟨A1, c1, rfl⟩ := hO.1.form
    rw [hbl] at hO ⊢
    have HO := Aside0.mk hO; have HBL := Aside0.mk hbl; have HBG := Aside0.mk hbg; have HOWN := Aside0.mk hown
    clear hf hO k0 k1 hbs hE hm hn hspec hbl hbg hown
    go_upto_region 6 with fail
    have XS : Aside0 ((w2.alloc (.cells (sgC s d b.length (.slice A1 n c1)) 26)).heap[w2.heap.size]? = some (.cells (sgC s d b.length (.slice A1 n c1)) 26 (0, 0))) := ⟨heap_alloc_new w2 _⟩
    have F3 : Aside0 (Fr No w (w2.alloc (.cells (sgC s d b.length (.slice A1 n c1)) 26))) := ⟨F2.out.alloc _⟩
    have HRS : Aside0 (Rd (fBk .u32) (w2.alloc (.cells (sgC s d b.length (.slice A1 n c1)) 26)) (.slice A1 n c1) bs) := ⟨HO.out.1.rd.no ((Fr.refl _ _).alloc _)⟩
    change Code.wp _ _ _ _ (w2.alloc (.cells (sgC s d b.length (.slice A1 n c1)) 26))
    generalize w2.alloc (.cells (sgC s d b.length (.slice A1 n c1)) 26) = w3 at XS F3 HRS ⊢
    clear HO
    obtain ⟨g, hg⟩ : ∃ g, w2.heap.size = g := ⟨_, rfl⟩
    rw [hg] at XS ⊢
    clear hg
    have LD := ld_all (P := Try.prog) (ty := 26) XS.out Try.underlying26 rfl (by kernel_rfl)
    go_wp2_with (first
      | (refine ldG (.tmp 7) 26 _ _ rfl rfl (LD _ (Fr.refl _ _)) (by first | rfl | (go_simp; done)) ?_)
      | fail)
    refine (index_calls s d b.length (.slice A1 n c1) bs w3 HRS.out (by rw [HBL.out]; omega)).mono ?_
    rintro e w4 ⟨pt, rfl, hT, hf⟩
    have F4 : Aside0 (Fr No w3 w4) := ⟨hf⟩
    have HT := Aside0.mk hT
    obtain ⟨mb, _, rfl, _⟩ := id hT
    clear hf hT LD
    have q1 : (convert 22 9 (.slice A' p.length c')).run Try.prog w4 = .ok (.string (bstr p)) w4 := str_of_rd ((HP.out.no F3.out).no F4.out)
    go_wp2_with fail
    refine (Wk.ref_calls p w4 (by omega)).mono ?_
    rintro e w5 ⟨rfl, hw5⟩
    subst hw5
    have hwl := weak_lt p
    go_wp2_with fail
    have HIN : Aside0 (∀ i, i < bs.length → i * s < b.length) := ⟨fun i hi => (HSP.out i).1 (by rw [← HBL.out]; exact hi)⟩
    refine (find_calls _ (.slice A1 n c1) _ _ (weak p) s b.length d bs p w4 HT.out (HRS.out.no F4.out) (by rw [HBL.out]; omega) ((HP.out.no F3.out).no F4.out) (by omega) hwl (by omega) (by omega) HIN.out (by omega) (by omega)).mono ?_
    rw [show (⟨weak p, Sha.cut d p, Sha.cut_length d p, hwl⟩ : BK) = sums d p from rfl]
    obtain ⟨r, hr⟩ : ∃ r, findL (hit s b.length (sums d p) p.length) 0 bs = r := ⟨_, rfl⟩
    have hrf := fun v W hv => Ref6.find_calls s b.length d v bs p W hv (by omega) (by omega) (by omega) HIN.out (by omega) (by omega)
    rw [hr] at hrf ⊢
    have HRF := Aside0.mk hrf
    rintro e w6 ⟨rfl, hf⟩
    have F6 : Aside0 (Fr No w3 w6) := ⟨F4.out.none hf⟩
    have F46 : Aside0 (Fr No w4 w6) := ⟨hf⟩
    clear hf hrf hr q1
    go_wp2
    have q2 : (convert 22 9 (.slice A' p.length c')).run Try.prog w6 = .ok (.string (bstr p)) w6 := str_of_rd ((HP.out.no F3.out).no F6.out)
    have LP := ld_all (P := Try.prog) (ty := 26) (F6.out.heap XS.out id) Try.underlying26 rfl (by kernel_rfl)
    refine Rg.start (fun _ x => Fr No w6 x) (by kernel_rfl) (by kernel_rfl) [1, 4] [[0, 1], [2, 3, 0, 1, 4]] (by kernel_rfl) (.q 0 0 (.q 2 1 (.q 3 1 (.e 1 1 (.e 4 2 (.q 5 2 (.done))))))) (by kernel_rfl) ?_ ?_
    · exact fun _ => (Fr.refl _ _).drew
    repeat (first
      | (refine Rg.q (o := ?_) (v := ?_) ?_ ?_ ?_ ?_ ?_
         rotate_left 2
         · (simp only [List.getElem?_toArray, List.getElem?_cons_succ, List.getElem?_cons_zero]; rfl)
         · exact fun _ _ _ h => h
         · first | rfl | (go_simp; done)
         · (intro x_ hx; (try dsimp only at hx); first | ((refine (ex_ld rfl rfl (LP _ hx)).trans ?_; with_reducible rfl)) | (fail) | (have q3 := str_of_rd (((HP.out.no F3.out).no F6.out).no hx); (try clear hx); go_simp; (try rw [if_neg (by omega)]); (try rw [if_pos (by omega)]); (try go_simp); try with_reducible rfl))
         try simp only [Act.put, List.setIfInBounds_toArray, List.set_cons_zero, List.set_cons_succ])
      | (refine Rg.skip (o := ?_) ?_ ?_ ?_ ?_
         rotate_left 1
         · (simp only [List.getElem?_toArray, List.getElem?_cons_succ, List.getElem?_cons_zero]; rfl)
         · exact fun _ _ _ h => h
         · first | rfl | (go_simp; done)
         try simp only [Act.put, List.setIfInBounds_toArray, List.set_cons_zero, List.set_cons_succ]))
    refine Rg.e (o := ?_) ?_ ?_
    rotate_left 1
    · (simp only [List.getElem?_toArray, List.getElem?_cons_succ, List.getElem?_cons_zero]; rfl)
    intro K hK
    go_simp
    refine (plain_calls s d b.length (.slice A1 n c1) bs _ ((HRS.out.no F6.out).no (Fr.refl _ _).drew) (by rw [HBL.out]; omega)).mono ?_
    rintro en x1 ⟨sp, rfl, hPl, hf⟩
    have G1 : Aside0 (Fr No w6 x1) := ⟨((Fr.refl No w6).drew).none hf⟩
    have HPL := Aside0.mk hPl
    clear hf hPl
    go_simp
    refine hK.out _ _ (fun _ x => Fr No w6 x) (fun k x hk h => h) ?_ ?_
    · exact fun _ _ => G1.out
    try simp only [Act.put, List.setIfInBounds_toArray, List.set_cons_zero, List.set_cons_succ]
    repeat (first
      | (refine Rg.q (o := ?_) (v := ?_) ?_ ?_ ?_ ?_ ?_
         rotate_left 2
         · (simp only [List.getElem?_toArray, List.getElem?_cons_succ, List.getElem?_cons_zero]; rfl)
         · exact fun _ _ _ h => h
         · first | rfl | (go_simp; done)
         · (intro x_ hx; (try dsimp only at hx); first | ((refine (ex_ld rfl rfl (LP _ hx)).trans ?_; with_reducible rfl)) | (fail) | (have q3 := str_of_rd (((HP.out.no F3.out).no F6.out).no hx); (try clear hx); go_simp; (try rw [if_neg (by omega)]); (try rw [if_pos (by omega)]); (try go_simp); try with_reducible rfl))
         try simp only [Act.put, List.setIfInBounds_toArray, List.set_cons_zero, List.set_cons_succ])
      | (refine Rg.skip (o := ?_) ?_ ?_ ?_ ?_
         rotate_left 1
         · (simp only [List.getElem?_toArray, List.getElem?_cons_succ, List.getElem?_cons_zero]; rfl)
         · exact fun _ _ _ h => h
         · first | rfl | (go_simp; done)
         try simp only [Act.put, List.setIfInBounds_toArray, List.set_cons_zero, List.set_cons_succ]))
    refine Rg.e (o := ?_) ?_ ?_
    rotate_left 1
    · (simp only [List.getElem?_toArray, List.getElem?_cons_succ, List.getElem?_cons_zero]; rfl)
    intro K hK
    go_simp
    refine (HRF.out sp x1 HPL.out.1.rd).mono ?_
    rintro en x2 ⟨rfl, hf⟩
    have G2 : Aside0 (Fr No w6 x2) := ⟨G1.out.none hf⟩
    clear hf
    go_simp
    refine hK.out _ _ (fun _ x => Fr No w6 x) (fun k x hk h => h) ?_ ?_
    · exact fun _ _ => G2.out
    try simp only [Act.put, List.setIfInBounds_toArray, List.set_cons_zero, List.set_cons_succ]
    repeat (first
      | (refine Rg.q (o := ?_) (v := ?_) ?_ ?_ ?_ ?_ ?_
         rotate_left 2
         · (simp only [List.getElem?_toArray, List.getElem?_cons_succ, List.getElem?_cons_zero]; rfl)
         · exact fun _ _ _ h => h
         · first | rfl | (go_simp; done)
         · (intro x_ hx; (try dsimp only at hx); (skip); go_simp; (try rw [if_neg (by omega)]); (try rw [if_pos (by omega)]); (try go_simp); try with_reducible rfl)
         try simp only [Act.put, List.setIfInBounds_toArray, List.set_cons_zero, List.set_cons_succ])
      | (refine Rg.skip (o := ?_) ?_ ?_ ?_ ?_
         rotate_left 1
         · (simp only [List.getElem?_toArray, List.getElem?_cons_succ, List.getElem?_cons_zero]; rfl)
         · exact fun _ _ _ h => h
         · first | rfl | (go_simp; done)
         try simp only [Act.put, List.setIfInBounds_toArray, List.set_cons_zero, List.set_cons_succ]))
    refine Rg.done ?_
    go_simp
    clear LP q2
    have F7 : Aside0 (Fr No w3 x2) := ⟨F6.out.none G2.out⟩
    have F8 : Aside0 (Fr No w4 x2) := ⟨F46.out.none G2.out⟩
    have c3 : x2.cell? ⟨g, 3, Option.none⟩ = some (.slice A1 n c1) := by rw [blk_cell (F7.out.heap XS.out id)]; rfl
    rcases r with _ | r
    all_goals
      dsimp only [fnd, Ref6.fndZ]
      go_wp2
      clear c3
      go_loopw [82] (fun v82 wr => ∃ k : Nat, v82 = .int .i64 (k : Int) ∧ k ≤ n ∧ Aside0 (Fr No x2 wr)) (fun v82 _ => n - (intOf v82).toNat)
      case atStart => exact ⟨0, rfl, Nat.zero_le _, ⟨Fr.refl _ _⟩⟩
      case round =>
        obtain ⟨k, rfl, hk, HF⟩ := hrel
        by_cases hkn : k < n
        · have hkI : (k : Int) < (n : Int) := by omega
          have hkL := (HSP.out k).1 hkn
          have L7 := ld_all (P := Try.prog) (ty := 26) ((F7.out.none HF.out).heap XS.out id) Try.underlying26 rfl (by kernel_rfl)
          have hspan := fun W => span_calls s k b.length d A1 n c1 W hkn (by omega) (by omega) hkL
          obtain ⟨m, hm⟩ : ∃ m, k * s = m := ⟨_, rfl⟩
          have HPC0 : piece s b k = (b.drop m).take s := by unfold piece; rw [hm]
          rw [hm] at hkL
          obtain ⟨l, hl⟩ : ∃ l, min s (b.length - m) = l := ⟨_, rfl⟩
          rw [hm, hl] at hspan
          have HPC : Aside0 ((b.drop m).take l = piece s b k) := ⟨by
            rw [HPC0, ← hl]
            by_cases h : s ≤ b.length - m
            · rw [Nat.min_eq_left h]
            · rw [Nat.min_eq_right (by omega), List.take_of_length_le (by rw [List.length_drop]; omega), List.take_of_length_le (by rw [List.length_drop]; omega)]⟩
          obtain ⟨A2, hcut, hrd⟩ := cut_bytes A b.length c m l (by omega) hbc
          have hpl : (piece s b k).length = l := by rw [piece_length, hm, hl]
          have hll : l ≤ 4096 := by omega
          obtain ⟨r', hr1, hr2, hr3⟩ := HOWN.out k hkn
          have hbk := HBG.out k hkn
          obtain ⟨pc, hpc⟩ : ∃ pc, piece s b k = pc := ⟨_, rfl⟩
          rw [hpc] at HPC hpl hr1 hr3 hbk
          obtain ⟨ad, hA, hcr⟩ := rd_at HRS.out r' _ hr3
          obtain ⟨ad2, hA2, hck⟩ := rd_at HRS.out k _ hbk
          obtain rfl : ad2 = ad := by rw [hA] at hA2; injection hA2 with hA2; exact hA2.symm
          have hrn : r' < n := by omega
          have HSPAN := Aside0.mk hspan; have HRD := Aside0.mk hrd; have HCR := Aside0.mk hcr; have HCK := Aside0.mk hck; have HA := Aside0.mk hA; have HR1 := Aside0.mk hr1
          clear hspan hrd hcr hck hA hA2 hr1 hr3 hbk hpc HPC0 hl hm
          go_wp2_with (first
            | (refine ldG (.tmp 7) 26 _ _ rfl rfl (L7 _ (Fr.refl _ _)) (by first | rfl | (go_simp; done)) ?_)
            | fail)
          refine (HSPAN.out wr).mono ?_
          rintro e w7 ⟨rfl, hf⟩
          have F9 : Aside0 (Fr No x2 w7) := ⟨HF.out.none hf⟩
          clear hf L7
          have RP : ∀ W, Fr No x2 W → RdB W (.slice A2 l (c - m)) pc := fun W hW => by rw [← HPC.out]; exact HRD.out b W (((HB.out.no F3.out).no F7.out).no hW)
          have HRP := Aside0.mk RP
          clear RP
          go_wp2_with fail
          refine (Wk.of_calls _ pc w7 (HRP.out _ F9.out) (by omega)).mono ?_
          rintro e w8 ⟨rfl, hf⟩
          have F10 : Aside0 (Fr No x2 w8) := ⟨F9.out.none hf⟩
          clear hf
          go_wp2_with fail
          refine (Wk.value_calls pc w8).mono ?_
          rintro e w9 ⟨rfl, hf⟩
          have F11 : Aside0 (Fr No x2 w9) := ⟨F10.out.none hf⟩
          clear hf
          go_wp2_with fail
          have hfc := find_calls _ (.slice A1 n c1) (.slice A2 l (c - m)) _ (weak pc) s b.length d bs pc w9 (HT.out.no (F8.out.none F11.out)) ((HRS.out.no F7.out).no F11.out) (by rw [HBL.out]; omega) (HRP.out _ F11.out) (by omega) (weak_lt pc) (by omega) (by omega) HIN.out (by omega) (by omega)
          rw [show (⟨weak pc, Sha.cut d pc, Sha.cut_length d pc, weak_lt pc⟩ : BK) = sums d pc from rfl, ← hpl, HR1.out] at hfc
          rw [← hpl]
          refine hfc.mono ?_
          rintro e w10 ⟨rfl, hf⟩
          have F12 : Aside0 (Fr No x2 w10) := ⟨F11.out.none hf⟩
          clear hf hfc hcut
          dsimp only [fnd]
          have c3 : w10.cell? ⟨g, 3, Option.none⟩ = some (.slice A1 n c1) := by rw [blk_cell ((F7.out.none F12.out).heap XS.out id)]; rfl
          have LB1 : ∀ x, Fr No w10 x → (loadVar 55 (ad2.add (r' * 33))).run Try.prog x = .ok (.agg (bkC .u32 (sums d pc))) x := ld_elem (HCR.out.no (F7.out.none F12.out)) Try.underlying55 rfl (by rw [bkL_length]; kernel_rfl)
          have LB2 : ∀ x, Fr No w10 x → (loadVar 55 (ad2.add (k * 33))).run Try.prog x = .ok (.agg (bkC .u32 (sums d pc))) x := ld_elem (HCK.out.no (F7.out.none F12.out)) Try.underlying55 rfl (by rw [bkL_length]; kernel_rfl)
          have qn : ∀ W, (binOp .neq 55 (.agg (bkC .u32 (sums d pc))) (.agg (bkC .u32 (sums d pc)))).run Try.prog W = .ok (.bool false) W := fun W => by rw [neqP]; simp
          have qg := fun x y W => run_eqGuard_agg (P := Try.prog) W .neq 55 x y (bkC .u32 (sums d pc)) (bkC .u32 (sums d pc)) (by kernel_rfl)
          have hrk : ¬ (k : Int) < (r' : Int) := by omega
          go_wp2
          refine Rg.start (fun _ x => Fr No w10 x) (by kernel_rfl) (by kernel_rfl) [] [] (by kernel_rfl) (.q 0 0 (.q 1 0 (.q 2 0 (.q 3 0 (.q 4 0 (.q 5 0 (.q 6 0 (.q 7 0 (.q 8 0 (.q 9 0 (.q 10 0 (.q 11 0 (.q 12 0 (.q 13 0 (.q 14 0 (.q 15 0 (.q 16 0 (.q 17 0 (.q 18 0 (.q 19 0 (.done))))))))))))))))))))) (by kernel_rfl) ?_ ?_
          · exact fun _ => (Fr.refl _ _).drew
          repeat (first
            | (refine Rg.q (o := ?_) (v := ?_) ?_ ?_ ?_ ?_ ?_
               rotate_left 2
               · (simp only [List.getElem?_toArray, List.getElem?_cons_succ, List.getElem?_cons_zero]; rfl)
               · exact fun _ _ _ h => h
               · first | rfl | (go_simp; done)
               · (intro x_ hx; (try dsimp only at hx); first | (first|(refine (ex_ix 24 55 33 _ _ ad2 A1 n c1 r' _ Try.underlying24 (by kernel_rfl) rfl rfl HA.out rfl rfl hrn).trans ?_; with_reducible rfl)|(refine (ex_ix 24 55 33 _ _ ad2 A1 n c1 k _ Try.underlying24 (by kernel_rfl) rfl rfl HA.out rfl rfl hkn).trans ?_; with_reducible rfl)) | (first|(refine (ex_ld rfl rfl (LB1 _ hx)).trans ?_; with_reducible rfl)|(refine (ex_ld rfl rfl (LB2 _ hx)).trans ?_; with_reducible rfl)) | (have q3 := hx.cell c3 id; (try clear hx); go_simp; (try rw [if_neg (by omega)]); (try rw [if_pos (by omega)]); (try go_simp); try with_reducible rfl))
               try simp only [Act.put, List.setIfInBounds_toArray, List.set_cons_zero, List.set_cons_succ])
            | (refine Rg.skip (o := ?_) ?_ ?_ ?_ ?_
               rotate_left 1
               · (simp only [List.getElem?_toArray, List.getElem?_cons_succ, List.getElem?_cons_zero]; rfl)
               · exact fun _ _ _ h => h
               · first | rfl | (go_simp; done)
               try simp only [Act.put, List.setIfInBounds_toArray, List.set_cons_zero, List.set_cons_succ]))
          refine Rg.done ?_
          go_simp
          clear c3 LB1 LB2 qn qg
          go_wp2
          go_roundw
          case rel => exact ⟨k + 1, by go_num, by omega, ⟨F12.out.drew⟩⟩
          case measure => simp [intOf]; omega
        · have hkI : ¬ (k : Int) < (n : Int) := by omega
          go_wp2
          go_ret
          exact ⟨rfl, (F3.out.none F7.out).none HF.out⟩
  · have hE0 : (makeE b.length size cut == 0) = false := by rw [beq_eq_false_iff_ne]; exact hE
    obtain ⟨E, hEE⟩ : ∃ E, makeE b.length size cut = E := ⟨_, rfl⟩
    rw [hEE] at hE0 ⊢
    obtain ⟨S, hS⟩ : ∃ S, makeS b size cut = S := ⟨_, rfl⟩
    rw [hS]
    rintro e w2 ⟨sl, rfl, hO, hf⟩
    obtain ⟨A1, c1, rfl⟩ := hO.1.form
    have F2 : Aside0 (Fr No w w2) := ⟨F1.out.none hf⟩
    clear hf hO k0 k1
    go_wp2
    go_ret
    exact ⟨rfl, F2.out.alloc _⟩
theorem walk (vb : Value) (b : List UInt8) (size cut : Int) (vp : Value) (p : List UInt8) (w : World) (hb : RdB w vb b ∧ b.length ≤ reach) (hs : (Lit.int .i64 size).wf = true ∧ (Lit.int .i64 cut).wf = true) (hp : RdB w vp p ∧ p.length ≤ reach) : Calls Try.prog 4 #[vb, .agg #[.int .i64 size, .int .i64 cut], vp] w fun e w' => e = .returned (.bool true) ∧ Fr No w w' := by
  by_cases h : 200 < b.length ∨ 200 < p.length
  · exact walk_out vb b size cut vp p w hb.1 hp.1 h
  · exact walk_ok vb b size cut vp p w hb.1 hp.1 (bounds_i64 hs.1).2 (by omega) (by omega)
end Go.Proofs.Ytinjkebhamhenaa.LBlockFinds
