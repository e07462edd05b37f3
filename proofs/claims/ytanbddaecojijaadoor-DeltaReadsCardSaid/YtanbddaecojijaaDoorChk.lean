/- Signature.Check: walked. -/
import Derived.Test.YtanbddaecojijaaDoorSpecChk
import Derived.Test.YtanbddaecojijaaDoorBlkC
import Derived.Test.YtanbddaecojijaaDoorIx
set_option linter.unusedVariables false
set_option linter.unusedSimpArgs false
namespace Go.Proofs.YtanbddaecojijaaDoor.Blk
open Go.RowKit Go.IntWalk Go.Proofs.YtanbddaecojijaaDoorW.PrintWords Go.Proofs.YtanbddaecojijaaDoor.B Go.Proofs.YtanbddaecojijaaDoor.PB Go.Proofs.YtanbddaecojijaaDoor.SWeak Go.Proofs.YtanbddaecojijaaDoor.Bk Go.Proofs.YtanbddaecojijaaDoor.SBlk
attribute [local go_sem] B.max2_int B.min2_int B.max_two B.min_two

set_option maxHeartbeats 4000000 in
set_option maxRecDepth 100000 in
theorem check_bad (size cut len : Int) (sl : Value) (bs : List BK) (w : World) (hv : Rd (fBk .u32) w sl bs) (hsz : size ≤ 9223372036854775807) (hln : len ≤ 9223372036854775807) (hne : ¬ (¬ size < 1 ∧ ¬ 4096 < size ∧ ¬ cut < 0 ∧ ¬ 32 < cut ∧ ¬ len < 0 ∧ ¬ 4096 < countI len size ∧ (bs.length : Int) = countI len size)) :
    Calls Tryd.prog 28 #[.agg (sgC size cut len sl)] w fun e w' => e = .returned (.int .i64 (chkE size cut len bs)) ∧ Fr No w w' := by
  obtain ⟨A, c, rfl, hAc, hm, _⟩ := id hv
  have hlen := hv.len_le
  have hc := chk_cases size cut len bs
  obtain ⟨E, hE⟩ : ∃ E, chkE size cut len bs = E := ⟨_, rfl⟩
  rw [hE] at hc ⊢
  clear hE hv hm
  rcases hc with ⟨a1, rfl⟩ | ⟨a1, a2, rfl⟩ | ⟨a1, a2, a3, rfl⟩ | ⟨a1, a2, a3, a4, rfl⟩ | ⟨a1, a2, a3, a4, a5, rfl⟩ | ⟨a1, a2, a3, a4, a5, a6, rfl⟩ | ⟨a1, a2, a3, a4, a5, a6, a7, rfl⟩ | ⟨a1, a2, a3, a4, a5, a6, a7, rfl⟩
  case inr.inr.inr.inr.inr.inr.inr => exact absurd ⟨a1, a2, a3, a4, a5, a6, a7⟩ hne
  case inr.inr.inr.inr.inr.inl =>
    have HB := Aside0.mk a6
    clear hne a6
    go_enter Tryd.func28, Tryd.ntmps28
    go_wp2_with fail
    refine (count_calls len size _ hln hsz).mono ?_
    rintro e w1 ⟨rfl, rfl⟩
    have a6 := HB.out
    go_wp2
    go_ret
    exact ⟨rfl, (Fr.refl _ _).alloc _⟩
  case inr.inr.inr.inr.inr.inr.inl =>
    have HB := Aside0.mk a6
    have HL := Aside0.mk a7
    clear hne a6 a7
    go_enter Tryd.func28, Tryd.ntmps28
    go_wp2_with fail
    refine (count_calls len size _ hln hsz).mono ?_
    rintro e w1 ⟨rfl, rfl⟩
    have a6 := HB.out
    go_wp2
    have hb := heap_alloc_new w (.cells (sgC size cut len (.slice A bs.length c)) 26)
    have F1 : Aside0 (Fr No w (w.alloc (.cells (sgC size cut len (.slice A bs.length c)) 26))) := ⟨(Fr.refl _ _).alloc _⟩
    change Code.wp _ _ _ _ (w.alloc (.cells (sgC size cut len (.slice A bs.length c)) 26))
    generalize w.alloc (.cells (sgC size cut len (.slice A bs.length c)) 26) = w1 at hb F1 ⊢
    have c0 : w1.cell? ⟨w.heap.size, 0, Option.none⟩ = some (.int .i64 size) := by rw [blk_cell hb]; rfl
    have c2 : w1.cell? ⟨w.heap.size, 2, Option.none⟩ = some (.int .i64 len) := by rw [blk_cell hb]; rfl
    have c3 : w1.cell? ⟨w.heap.size, 3, Option.none⟩ = some (.slice A bs.length c) := by rw [blk_cell hb]; rfl
    clear hb
    refine Rg.start (fun _ x => Fr No w1 x) (by kernel_rfl) (by kernel_rfl) [7] [[5, 6, 3, 4, 7]] (by kernel_rfl) (.q 0 1 (.q 1 1 (.q 2 1 (.q 3 0 (.q 4 0 (.q 5 0 (.q 6 0 (.e 7 1 (.q 8 1 (.q 9 1 (.done))))))))))) (by kernel_rfl) ?_ ?_
    · exact fun _ => (Fr.refl _ _).drew
    repeat (first
      | (refine Rg.q (o := ?_) (v := ?_) ?_ ?_ ?_ ?_ ?_
         rotate_left 2
         · (simp only [List.getElem?_toArray, List.getElem?_cons_succ, List.getElem?_cons_zero]; rfl)
         · exact fun _ _ _ h => h
         · first | rfl | (go_simp; done)
         · (intro x_ hx; (try dsimp only at hx); (have q1 := hx.cell c0 id; have q2 := hx.cell c2 id; have q3 := hx.cell c3 id); go_simp; (try rw [if_neg (by omega)]); (try rw [if_pos (by omega)]); (try go_simp); try with_reducible rfl)
         try simp only [Act.put, List.setIfInBounds_toArray, List.set_cons_zero, List.set_cons_succ])
      | (refine Rg.skip (o := ?_) ?_ ?_ ?_ ?_
         rotate_left 1
         · (simp only [List.getElem?_toArray, List.getElem?_cons_succ, List.getElem?_cons_zero]; rfl)
         · exact fun _ _ _ h => h
         · first | rfl | (go_simp; done)
         try simp only [Act.put, List.setIfInBounds_toArray, List.set_cons_zero, List.set_cons_succ]))
    refine Rg.e (o := ?_) ?_ ?_
    rotate_left 1
    · (simp only [List.getElem?_toArray, List.getElem?_cons_succ, List.getElem?_cons_zero]; rfl)
    intro K hK
    go_simp
    refine (count_calls len size _ hln hsz).mono ?_
    rintro en x1 ⟨rfl, rfl⟩
    go_simp
    refine hK.out _ _ (fun _ x => Fr No w1 x) (fun k x hk h => h) ?_ ?_
    · exact fun _ _ => (Fr.refl _ _).drew
    try simp only [Act.put, List.setIfInBounds_toArray, List.set_cons_zero, List.set_cons_succ]
    repeat (first
      | (refine Rg.q (o := ?_) (v := ?_) ?_ ?_ ?_ ?_ ?_
         rotate_left 2
         · (simp only [List.getElem?_toArray, List.getElem?_cons_succ, List.getElem?_cons_zero]; rfl)
         · exact fun _ _ _ h => h
         · first | rfl | (go_simp; done)
         · (intro x_ hx; (try dsimp only at hx); (have q1 := hx.cell c0 id; have q2 := hx.cell c2 id; have q3 := hx.cell c3 id); go_simp; (try rw [if_neg (by omega)]); (try rw [if_pos (by omega)]); (try go_simp); try with_reducible rfl)
         try simp only [Act.put, List.setIfInBounds_toArray, List.set_cons_zero, List.set_cons_succ])
      | (refine Rg.skip (o := ?_) ?_ ?_ ?_ ?_
         rotate_left 1
         · (simp only [List.getElem?_toArray, List.getElem?_cons_succ, List.getElem?_cons_zero]; rfl)
         · exact fun _ _ _ h => h
         · first | rfl | (go_simp; done)
         try simp only [Act.put, List.setIfInBounds_toArray, List.set_cons_zero, List.set_cons_succ]))
    refine Rg.done ?_
    have a7 : ((bs.length : Int) == countI len size) = false := by rw [beq_eq_false_iff_ne]; exact HL.out
    go_simp
    go_wp2
    go_ret
    exact ⟨rfl, F1.out.drew⟩
  all_goals
    clear hne
    go_enter Tryd.func28, Tryd.ntmps28
    go_wp2
    go_ret
    exact ⟨rfl, (Fr.refl _ _).alloc _⟩
set_option maxHeartbeats 4000000 in
set_option maxRecDepth 100000 in
theorem check_ok (size cut len : Int) (sl : Value) (bs : List BK) (w : World) (hv : Rd (fBk .u32) w sl bs) (hsz : size ≤ 9223372036854775807) (hln : len ≤ 9223372036854775807) (hy : ¬ size < 1 ∧ ¬ 4096 < size ∧ ¬ cut < 0 ∧ ¬ 32 < cut ∧ ¬ len < 0 ∧ ¬ 4096 < countI len size ∧ (bs.length : Int) = countI len size) :
    Calls Tryd.prog 28 #[.agg (sgC size cut len sl)] w fun e w' => e = .returned (.int .i64 (if bs.all (clean cut.toNat) = true then 0 else 31)) ∧ Fr No w w' := by
  obtain ⟨A, c, rfl, hAc, hm, _⟩ := id hv
  have HV := Aside0.mk hv
  have hlen := hv.len_le
  obtain ⟨a1, a2, a3, a4, a5, a6, a7⟩ := hy
  obtain ⟨d, rfl⟩ := Int.eq_ofNat_of_zero_le (show 0 ≤ cut by omega)
  rw [Int.toNat_natCast]
  have hd : d ≤ 32 := by omega
  obtain ⟨R, hR⟩ : ∃ R, bs.all (clean d) = R := ⟨_, rfl⟩
  rw [hR]
  have HRR := Aside0.mk hR
  have HB := Aside0.mk a6
  have HL := Aside0.mk a7
  clear hv hm hR a6 a7
  go_enter Tryd.func28, Tryd.ntmps28
  go_wp2_with fail
  refine (count_calls len size _ hln hsz).mono ?_
  rintro e w1 ⟨rfl, rfl⟩
  have a6 := HB.out
  go_wp2
  have hb := heap_alloc_new w (.cells (sgC size d len (.slice A bs.length c)) 26)
  have F1 : Aside0 (Fr No w (w.alloc (.cells (sgC size d len (.slice A bs.length c)) 26))) := ⟨(Fr.refl _ _).alloc _⟩
  change Code.wp _ _ _ _ (w.alloc (.cells (sgC size d len (.slice A bs.length c)) 26))
  generalize w.alloc (.cells (sgC size d len (.slice A bs.length c)) 26) = w1 at hb F1 ⊢
  have c0 : w1.cell? ⟨w.heap.size, 0, Option.none⟩ = some (.int .i64 size) := by rw [blk_cell hb]; rfl
  have c2 : w1.cell? ⟨w.heap.size, 2, Option.none⟩ = some (.int .i64 len) := by rw [blk_cell hb]; rfl
  have c3 : w1.cell? ⟨w.heap.size, 3, Option.none⟩ = some (.slice A bs.length c) := by rw [blk_cell hb]; rfl
  have HS1 := Aside0.mk hb
  clear hb
  refine Rg.start (fun _ x => Fr No w1 x) (by kernel_rfl) (by kernel_rfl) [7] [[5, 6, 3, 4, 7]] (by kernel_rfl) (.q 0 1 (.q 1 1 (.q 2 1 (.q 3 0 (.q 4 0 (.q 5 0 (.q 6 0 (.e 7 1 (.q 8 1 (.q 9 1 (.done))))))))))) (by kernel_rfl) ?_ ?_
  · exact fun _ => (Fr.refl _ _).drew
  repeat (first
    | (refine Rg.q (o := ?_) (v := ?_) ?_ ?_ ?_ ?_ ?_
       rotate_left 2
       · (simp only [List.getElem?_toArray, List.getElem?_cons_succ, List.getElem?_cons_zero]; rfl)
       · exact fun _ _ _ h => h
       · first | rfl | (go_simp; done)
       · (intro x_ hx; (try dsimp only at hx); (have q1 := hx.cell c0 id; have q2 := hx.cell c2 id; have q3 := hx.cell c3 id); go_simp; (try rw [if_neg (by omega)]); (try rw [if_pos (by omega)]); (try go_simp); try with_reducible rfl)
       try simp only [Act.put, List.setIfInBounds_toArray, List.set_cons_zero, List.set_cons_succ])
    | (refine Rg.skip (o := ?_) ?_ ?_ ?_ ?_
       rotate_left 1
       · (simp only [List.getElem?_toArray, List.getElem?_cons_succ, List.getElem?_cons_zero]; rfl)
       · exact fun _ _ _ h => h
       · first | rfl | (go_simp; done)
       try simp only [Act.put, List.setIfInBounds_toArray, List.set_cons_zero, List.set_cons_succ]))
  refine Rg.e (o := ?_) ?_ ?_
  rotate_left 1
  · (simp only [List.getElem?_toArray, List.getElem?_cons_succ, List.getElem?_cons_zero]; rfl)
  intro K hK
  go_simp
  refine (count_calls len size _ hln hsz).mono ?_
  rintro en x1 ⟨rfl, rfl⟩
  go_simp
  refine hK.out _ _ (fun _ x => Fr No w1 x) (fun k x hk h => h) ?_ ?_
  · exact fun _ _ => (Fr.refl _ _).drew
  try simp only [Act.put, List.setIfInBounds_toArray, List.set_cons_zero, List.set_cons_succ]
  repeat (first
    | (refine Rg.q (o := ?_) (v := ?_) ?_ ?_ ?_ ?_ ?_
       rotate_left 2
       · (simp only [List.getElem?_toArray, List.getElem?_cons_succ, List.getElem?_cons_zero]; rfl)
       · exact fun _ _ _ h => h
       · first | rfl | (go_simp; done)
       · (intro x_ hx; (try dsimp only at hx); (have q1 := hx.cell c0 id; have q2 := hx.cell c2 id; have q3 := hx.cell c3 id); go_simp; (try rw [if_neg (by omega)]); (try rw [if_pos (by omega)]); (try go_simp); try with_reducible rfl)
       try simp only [Act.put, List.setIfInBounds_toArray, List.set_cons_zero, List.set_cons_succ])
    | (refine Rg.skip (o := ?_) ?_ ?_ ?_ ?_
       rotate_left 1
       · (simp only [List.getElem?_toArray, List.getElem?_cons_succ, List.getElem?_cons_zero]; rfl)
       · exact fun _ _ _ h => h
       · first | rfl | (go_simp; done)
       try simp only [Act.put, List.setIfInBounds_toArray, List.set_cons_zero, List.set_cons_succ]))
  refine Rg.done ?_
  have a7 : ((bs.length : Int) == countI len size) = true := by rw [HL.out]; simp
  have a8 : ((bs.length : Int) != countI len size) = false := by rw [HL.out]; simp
  go_simp
  have d3 : w1.drew.cell? ⟨w.heap.size, 3, Option.none⟩ = some (.slice A bs.length c) := c3
  clear c0 c2 c3 a6
  go_wp2
  clear a7 a8 d3
  have F2 : Aside0 (Fr No w1 w1.drew) := ⟨(Fr.refl _ _).drew⟩
  go_loopw [51] (fun v51 wr => ∃ i : Nat, v51 = .int .i64 (i : Int) ∧ i ≤ bs.length ∧ Aside0 (∀ (k : Nat) (b : BK), k < i → bs[k]? = some b → clean d b = true) ∧ Aside0 (Fr No w1 wr)) (fun v51 _ => bs.length - (intOf v51).toNat)
  case atStart => exact ⟨0, rfl, Nat.zero_le _, ⟨fun k b hk => absurd hk (by omega)⟩, F2⟩
  case round =>
    obtain ⟨i, rfl, hi, HO, HF⟩ := hrel
    by_cases hil : i < bs.length
    · have hiI : (i : Int) < (bs.length : Int) := by omega
      obtain ⟨b, hb⟩ : ∃ b, bs[i]? = some b := ⟨_, List.getElem?_eq_getElem hil⟩
      obtain ⟨ad, hA, hcv⟩ := rd_at HV.out i b hb
      have FW := F1.out.none HF.out
      have LD : ∀ x, Fr No wr x → (loadVar 101 (ad.add (i * 33))).run Tryd.prog x = .ok (.agg (bkC .u32 b)) x := ld_elem (hcv.no FW) Tryd.underlying101 rfl (by rw [bkL_length]; kernel_rfl)
      have HA := Aside0.mk hA; have HBI := Aside0.mk hb
      clear hb hA hcv FW
      go_upto_region 10 with (first
        | (refine lsIx 24 101 33 (.tmp 49) (.tmp 51) ad A bs.length c i _ Tryd.underlying24 (by kernel_rfl) rfl rfl rfl HA.out rfl rfl hil ?_)
        | (refine ldG (.tmp 53) 101 _ _ rfl rfl (LD _ (Fr.refl _ _)) (by first | rfl | (go_simp; done)) ?_)
        | (refine PB.stRow (.tmp 4) (.tmp 54) 101 wr.heap.size 101 _ (bkC .u32 b) rfl rfl rfl rfl (heap_alloc_new wr _) (by rw [bkC_size]; kernel_rfl) (by rw [bkC_size]; rfl) (bkC_one _ _) ?_; rw [World.setRow_alloc_new]))
      change Code.wp _ _ _ _ (wr.alloc (.cells (bkC .u32 b) 101))
      have XB : Aside0 ((wr.alloc (.cells (bkC .u32 b) 101)).heap[wr.heap.size]? = some (.cells (bkC .u32 b) 101 (0, 0))) := ⟨heap_alloc_new wr _⟩
      have XF : Aside0 (Fr No w1 (wr.alloc (.cells (bkC .u32 b) 101))) := ⟨HF.out.alloc _⟩
      generalize wr.alloc (.cells (bkC .u32 b) 101) = wx at XB XF ⊢
      have y1 : wx.cell? ⟨w.heap.size, 1, Option.none⟩ = some (.int .i64 d) := by rw [blk_cell (XF.out.heap HS1.out id)]; rfl
      clear LD
      obtain ⟨g, hg⟩ : ∃ g, wr.heap.size = g := ⟨_, rfl⟩
      rw [hg] at XB ⊢
      go_wp2
      case inl h =>
        have HC : Aside0 (clean d b = true) := ⟨clean_true fun j x h1 h2 => absurd (List.getElem?_eq_some_iff.1 h2).1 (by rw [b.h]; omega)⟩
        go_loopw [60] (fun v60 wr => v60 = .int .i64 0 ∧ Aside0 (Fr No wx wr)) (fun _ _ => 0)
        case atStart => exact ⟨rfl, ⟨Fr.refl _ _⟩⟩
        case round =>
          obtain ⟨rfl, HX⟩ := hrel
          go_wp2
          go_roundw
          case rel => exact ⟨i + 1, by go_num, by omega, ⟨fun k b' hk hy => by
            by_cases hki : k = i
            · subst hki; rw [HBI.out] at hy; injection hy with hy; subst hy; exact HC.out
            · exact HO.out k b' (by omega) hy⟩, ⟨XF.out.none HX.out⟩⟩
          case measure => simp [intOf]; omega
      case inr h =>
        obtain ⟨n, hn⟩ : ∃ n, 32 - d = n := ⟨_, rfl⟩
        rw [hn]
        go_loopw [60] (fun v60 wr => ∃ k : Nat, v60 = .int .i64 (k : Int) ∧ k ≤ n ∧ Aside0 (∀ (j : Nat) (x : UInt8), d ≤ j → j < d + k → b.st[j]? = some x → x = 0) ∧ Aside0 (Fr No wx wr)) (fun v60 _ => n - (intOf v60).toNat)
        case atStart => exact ⟨0, rfl, Nat.zero_le _, ⟨fun j x h1 h2 => absurd h2 (by omega)⟩, ⟨Fr.refl _ _⟩⟩
        case round =>
          obtain ⟨k, rfl, hk, HK, HX⟩ := hrel
          by_cases hkn : k < n
          · have hkI : (k : Int) < (n : Int) := by omega
            obtain ⟨x, hx⟩ : ∃ x, b.st[d + k]? = some x := ⟨_, List.getElem?_eq_getElem (by rw [b.h]; omega)⟩
            have yk : wr.cell? ⟨g, 1 + d + k, Option.none⟩ = some (vu8 x) := by
              rw [blk_cell (HX.out.heap XB.out id), show 1 + d + k = (d + k) + 1 by omega]
              simp [bkC, bkL, hx]
            by_cases hx0 : x = 0
            · have HX0 := Aside0.mk hx; have HX1 := Aside0.mk hx0
              have yk0 : wr.cell? ⟨g, 1 + d + k, Option.none⟩ = some (.int .u8 0) := by rw [yk, hx0]; rfl
              clear hx hx0 yk
              go_wp2
              go_roundw
              case rel => exact ⟨k + 1, by go_num, by omega, ⟨fun j y h1 h2 hy => by
                by_cases hj : j = d + k
                · subst hj; rw [HX0.out] at hy; injection hy with hy; subst hy; exact HX1.out
                · exact HK.out j y h1 (by omega) hy⟩, HX⟩
              case measure => simp [intOf]; omega
            · have e : R = false := by
                rw [← HRR.out]
                exact all_false HBI.out (clean_false (by omega) hx hx0)
              have hxI : ((x.toNat : Int) == 0) = false := by
                rw [beq_eq_false_iff_ne]
                intro h9
                exact hx0 (UInt8.toNat_inj.1 (by simpa using h9))
              subst e
              have yk0 : wr.cell? ⟨g, 1 + d + k, Option.none⟩ = some (.int .u8 (x.toNat : Int)) := yk
              clear hx hx0 yk
              go_wp2
              go_ret
              exact ⟨rfl, (F1.out.none XF.out).none HX.out⟩
          · have hkI : ¬ (k : Int) < (n : Int) := by omega
            have hc : clean d b = true := clean_true fun j x h1 h2 => HK.out j x h1 (by have := (List.getElem?_eq_some_iff.1 h2).1; rw [b.h] at this; omega) h2
            have HC := Aside0.mk hc
            clear hc
            go_wp2
            go_roundw
            case rel => exact ⟨i + 1, by go_num, by omega, ⟨fun k b' hk hy => by
              by_cases hki : k = i
              · subst hki; rw [HBI.out] at hy; injection hy with hy; subst hy; exact HC.out
              · exact HO.out k b' (by omega) hy⟩, ⟨XF.out.none HX.out⟩⟩
            case measure => simp [intOf]; omega
    · have hiI : ¬ (i : Int) < (bs.length : Int) := by omega
      have e : R = true := by
        rw [← HRR.out]
        exact all_true fun k b hk => HO.out k b (by have := (List.getElem?_eq_some_iff.1 hk).1; omega) hk
      subst e
      go_wp2
      go_ret
      exact ⟨rfl, F1.out.none HF.out⟩
theorem check_calls (size cut len : Int) (sl : Value) (bs : List BK) (w : World) (hv : Rd (fBk .u32) w sl bs) (hsz : size ≤ 9223372036854775807) (hln : len ≤ 9223372036854775807) :
    Calls Tryd.prog 28 #[.agg (sgC size cut len sl)] w fun e w' => e = .returned (.int .i64 (chkE size cut len bs)) ∧ Fr No w w' := by
  by_cases hy : ¬ size < 1 ∧ ¬ 4096 < size ∧ ¬ cut < 0 ∧ ¬ 32 < cut ∧ ¬ len < 0 ∧ ¬ 4096 < countI len size ∧ (bs.length : Int) = countI len size
  · have e : chkE size cut len bs = if bs.all (clean cut.toNat) = true then 0 else 31 := by
      obtain ⟨a1, a2, a3, a4, a5, a6, a7⟩ := hy
      have hn : ¬ (size < 1 ∨ 4096 < size ∨ cut < 0 ∨ 32 < cut ∨ len < 0) := by omega
      unfold chkE
      rw [if_neg hn, if_neg a6, if_neg (by omega)]
    rw [e]
    exact check_ok size cut len sl bs w hv hsz hln hy
  · exact check_bad size cut len sl bs w hv hsz hln hy
end Go.Proofs.YtanbddaecojijaaDoor.Blk
