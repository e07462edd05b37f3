/- The document's Check of sums of blocks: walked. -/
import Derived.Test.YtinjkebhamhenaaSpecLaw6
import Derived.Test.YtinjkebhamhenaaIx
import Derived.Test.YtinjkebhamhenaaRegion
import Derived.Test.YtinjkebhamhenaaBlkC
set_option linter.unusedVariables false
set_option linter.unusedSimpArgs false
namespace Go.Proofs.Ytinjkebhamhenaa.Ref6
open Go.RowKit Go.IntWalk Go.Proofs.YtinjkebhamhenaaW.PrintWords Go.Proofs.Ytinjkebhamhenaa.B Go.Proofs.Ytinjkebhamhenaa.PB Go.Proofs.Ytinjkebhamhenaa.SWeak Go.Proofs.Ytinjkebhamhenaa.Bk Go.Proofs.Ytinjkebhamhenaa.SBlk Go.Proofs.Ytinjkebhamhenaa.Blk

theorem ad3 (ad : Addr) (n k : Nat) : (⟨(ad.add n).block, (ad.add n).off + 1 + k, none⟩ : Addr) = ad.add (n + (1 + k)) := by
  have h1 : (ad.add n).block = ad.block := by unfold Addr.add; split <;> rfl
  have h2 : (ad.add n).off = ad.off + n := by
    unfold Addr.add
    split
    · omega
    · rfl
  rw [h1, h2]
  unfold Addr.add
  rw [if_neg (by omega)]
  congr 1
  omega
set_option maxHeartbeats 4000000 in
set_option maxRecDepth 100000 in
theorem check_bad (size cut len : Int) (sl : Value) (bs : List BK) (w : World) (hv : Rd (fBk .i64) w sl bs) (hsz : size ≤ 9223372036854775807) (hln : len ≤ 9223372036854775807) (hne : ¬ (¬ size < 1 ∧ ¬ 4096 < size ∧ ¬ cut < 0 ∧ ¬ 32 < cut ∧ ¬ len < 0 ∧ ¬ 4096 < countI len size ∧ (bs.length : Int) = countI len size)) :
    Calls Try.prog 26 #[.agg (sgC size cut len sl)] w fun e w' => e = .returned (.int .i64 (chkE size cut len bs)) ∧ Fr No w w' := by
  obtain ⟨A, c, rfl, hAc, hm, _⟩ := id hv
  have hlen := hv.len_le
  have hc := chk_cases size cut len bs
  obtain ⟨E, hE⟩ : ∃ E, chkE size cut len bs = E := ⟨_, rfl⟩
  rw [hE] at hc ⊢
  clear hE hv hm
  rcases hc with ⟨a1, rfl⟩ | ⟨a1, a2, rfl⟩ | ⟨a1, a2, a3, rfl⟩ | ⟨a1, a2, a3, a4, rfl⟩ | ⟨a1, a2, a3, a4, a5, rfl⟩ | ⟨a1, a2, a3, a4, a5, a6, rfl⟩ | ⟨a1, a2, a3, a4, a5, a6, a7, rfl⟩ | ⟨a1, a2, a3, a4, a5, a6, a7, rfl⟩
  case inr.inr.inr.inr.inr.inr.inr => exact absurd ⟨a1, a2, a3, a4, a5, a6, a7⟩ hne
  case inr.inr.inr.inr.inr.inl =>
    have HB := Aside0.mk a6
    clear hne a6
    go_enter Try.func26, Try.ntmps26
    go_wp2_with fail
    refine (refCount_calls len size _ hln hsz).mono ?_
    rintro e w1 ⟨rfl, rfl⟩
    have a6 := HB.out
    go_wp2
    go_ret
    exact ⟨rfl, (Fr.refl _ _).alloc _⟩
  case inr.inr.inr.inr.inr.inr.inl =>
    have HB := Aside0.mk a6
    have HL := Aside0.mk a7
    clear hne a6 a7
    go_enter Try.func26, Try.ntmps26
    go_wp2_with fail
    refine (refCount_calls len size _ hln hsz).mono ?_
    rintro e w1 ⟨rfl, rfl⟩
    have a6 := HB.out
    have a7 : ((bs.length : Int) == countI len size) = false := by rw [beq_eq_false_iff_ne]; exact HL.out
    go_wp2
    go_ret
    exact ⟨rfl, (Fr.refl _ _).alloc _⟩
  all_goals
    clear hne
    go_enter Try.func26, Try.ntmps26
    go_wp2
    go_ret
    exact ⟨rfl, (Fr.refl _ _).alloc _⟩
set_option maxHeartbeats 4000000 in
set_option maxRecDepth 100000 in
theorem check_ok (size cut len : Int) (sl : Value) (bs : List BK) (w : World) (hv : Rd (fBk .i64) w sl bs) (hsz : size ≤ 9223372036854775807) (hln : len ≤ 9223372036854775807) (hy : ¬ size < 1 ∧ ¬ 4096 < size ∧ ¬ cut < 0 ∧ ¬ 32 < cut ∧ ¬ len < 0 ∧ ¬ 4096 < countI len size ∧ (bs.length : Int) = countI len size) :
    Calls Try.prog 26 #[.agg (sgC size cut len sl)] w fun e w' => e = .returned (.int .i64 (if bs.all (clean cut.toNat) = true then 0 else 31)) ∧ Fr No w w' := by
  obtain ⟨A, c, rfl, hAc, hm, _⟩ := id hv
  have HV := Aside0.mk hv
  have hlen := hv.len_le
  obtain ⟨a1, a2, a3, a4, a5, a6, a7⟩ := hy
  obtain ⟨d, rfl⟩ := Int.eq_ofNat_of_zero_le (show 0 ≤ cut by omega)
  rw [Int.toNat_natCast]
  have hd : d ≤ 32 := by omega
  obtain ⟨R, hR⟩ : ∃ R, bs.all (clean d) = R := ⟨_, rfl⟩
  rw [hR]
  have HRR := Aside0.mk hR
  have HB := Aside0.mk a6
  have HL := Aside0.mk a7
  clear hv hm hR a6 a7
  go_enter Try.func26, Try.ntmps26
  go_wp2_with fail
  refine (refCount_calls len size _ hln hsz).mono ?_
  rintro e w1 ⟨rfl, rfl⟩
  rw [← HL.out]
  have a6 : ¬ 4096 < (bs.length : Int) := by have := HL.out; have := HB.out; omega
  go_wp2
  have hb := heap_alloc_new w (.cells (sgC size d len (.slice A bs.length c)) 32)
  have F1 : Aside0 (Fr No w (w.alloc (.cells (sgC size d len (.slice A bs.length c)) 32))) := ⟨(Fr.refl _ _).alloc _⟩
  change Code.wp _ _ _ _ (w.alloc (.cells (sgC size d len (.slice A bs.length c)) 32))
  generalize w.alloc (.cells (sgC size d len (.slice A bs.length c)) 32) = w1 at hb F1 ⊢
  have HS1 := Aside0.mk hb
  clear hb
  go_loopw [4, 5] (fun v4 v5 wr => ∃ i : Nat, v4 = .int .i64 (i : Int) ∧ i ≤ bs.length ∧ Aside0 (∀ (k : Nat) (b : BK), k < i → bs[k]? = some b → clean d b = true) ∧ Aside0 (Fr No w1 wr)) (fun v4 _ _ => bs.length - (intOf v4).toNat)
  case atStart => exact ⟨0, rfl, Nat.zero_le _, ⟨fun k b hk => absurd hk (by omega)⟩, ⟨Fr.refl _ _⟩⟩
  case round =>
    obtain ⟨i, rfl, hi, HO, HF⟩ := hrel
    by_cases hil : i < bs.length
    · have hiI : (i : Int) < (bs.length : Int) := by omega
      obtain ⟨b, hb⟩ : ∃ b, bs[i]? = some b := ⟨_, List.getElem?_eq_getElem hil⟩
      obtain ⟨ad, hA, hcv⟩ := rd_at HV.out i b hb
      have HA := Aside0.mk hA; have HBI := Aside0.mk hb; have HCV := Aside0.mk (hcv.no F1.out)
      have c1 : wr.cell? ⟨w.heap.size, 1, Option.none⟩ = some (.int .i64 d) := by rw [blk_cell (HF.out.heap HS1.out id)]; rfl
      clear hb hA hcv
      go_wp2
      clear c1
      go_loopw [5] (fun v5 wq => ∃ k : Nat, v5 = .int .i64 (k : Int) ∧ d ≤ k ∧ k ≤ 32 ∧ Aside0 (∀ (j : Nat) (x : UInt8), d ≤ j → j < k → b.st[j]? = some x → x = 0) ∧ Aside0 (Fr No w1 wq)) (fun v5 _ => 32 - (intOf v5).toNat)
      case atStart => exact ⟨d, rfl, Nat.le_refl _, hd, ⟨fun j x h1 h2 => absurd h2 (by omega)⟩, HF⟩
      case round =>
        obtain ⟨k, rfl, hdk, hk, HK, HX⟩ := hrel
        by_cases hkn : k < 32
        · have hkI : (k : Int) < 32 := by omega
          obtain ⟨x, hx⟩ : ∃ x, b.st[k]? = some x := ⟨_, List.getElem?_eq_getElem (by rw [b.h]; omega)⟩
          have c3 : wr.cell? ⟨w.heap.size, 3, Option.none⟩ = some (.slice A bs.length c) := by rw [blk_cell (HX.out.heap HS1.out id)]; rfl
          have yk : wr.cell? { block := (ad.add (i * 33)).block, off := (ad.add (i * 33)).off + 1 + k } = some (vu8 x) := by
            have := (HCV.out.no HX.out) (1 + k) (vu8 x) (by rw [show 1 + k = k + 1 by omega]; simp [bkL, hx])
            rw [add_add] at this
            rw [show (⟨(ad.add (i * 33)).block, (ad.add (i * 33)).off + 1 + k, none⟩ : Addr) = ad.add (i * 33 + (1 + k)) from ad3 _ _ _]
            exact this
          by_cases hx0 : x = 0
          · have HX0 := Aside0.mk hx; have HX1 := Aside0.mk hx0
            have yk0 : wr.cell? { block := (ad.add (i * 33)).block, off := (ad.add (i * 33)).off + 1 + k } = some (.int .u8 0) := by rw [yk, hx0]; rfl
            clear hx hx0 yk
            go_wp2_with (refine lsIx 30 71 33 (.tmp 53) (.tmp 54) ad A bs.length c i _ Try.underlying30 (by kernel_rfl) rfl rfl rfl HA.out rfl rfl hil ?_)
            go_roundw
            case rel => exact ⟨k + 1, by go_num, by omega, by omega, ⟨fun j y h1 h2 hy => by
              by_cases hj : j = k
              · subst hj; rw [HX0.out] at hy; injection hy with hy; subst hy; exact HX1.out
              · exact HK.out j y h1 (by omega) hy⟩, HX⟩
            case measure => simp [intOf]; omega
          · have e : R = false := by
              rw [← HRR.out]
              exact all_false HBI.out (clean_false hdk hx hx0)
            have hxI : ((x.toNat : Int) == 0) = false := by
              rw [beq_eq_false_iff_ne]
              intro h9
              exact hx0 (UInt8.toNat_inj.1 (by simpa using h9))
            subst e
            clear hx hx0
            go_wp2_with (refine lsIx 30 71 33 (.tmp 53) (.tmp 54) ad A bs.length c i _ Try.underlying30 (by kernel_rfl) rfl rfl rfl HA.out rfl rfl hil ?_)
            go_ret
            exact ⟨rfl, F1.out.none HX.out⟩
        · have hkI : ¬ (k : Int) < 32 := by omega
          have hc : clean d b = true := clean_true fun j x h1 h2 => HK.out j x h1 (by have := (List.getElem?_eq_some_iff.1 h2).1; rw [b.h] at this; omega) h2
          have HC := Aside0.mk hc
          clear hc
          go_wp2
          go_roundw
          case rel => exact ⟨i + 1, by go_num, by omega, ⟨fun k b' hk hy => by
            by_cases hki : k = i
            · subst hki; rw [HBI.out] at hy; injection hy with hy; subst hy; exact HC.out
            · exact HO.out k b' (by omega) hy⟩, HX⟩
          case measure => simp [intOf]; omega
    · have hiI : ¬ (i : Int) < (bs.length : Int) := by omega
      have e : R = true := by
        rw [← HRR.out]
        exact all_true fun k b hk => HO.out k b (by have := (List.getElem?_eq_some_iff.1 hk).1; omega) hk
      subst e
      go_wp2
      go_ret
      exact ⟨rfl, F1.out.none HF.out⟩
theorem check_calls (size cut len : Int) (sl : Value) (bs : List BK) (w : World) (hv : Rd (fBk .i64) w sl bs) (hsz : size ≤ 9223372036854775807) (hln : len ≤ 9223372036854775807) :
    Calls Try.prog 26 #[.agg (sgC size cut len sl)] w fun e w' => e = .returned (.int .i64 (chkE size cut len bs)) ∧ Fr No w w' := by
  by_cases hy : ¬ size < 1 ∧ ¬ 4096 < size ∧ ¬ cut < 0 ∧ ¬ 32 < cut ∧ ¬ len < 0 ∧ ¬ 4096 < countI len size ∧ (bs.length : Int) = countI len size
  · have e : chkE size cut len bs = if bs.all (clean cut.toNat) = true then 0 else 31 := by
      obtain ⟨a1, a2, a3, a4, a5, a6, a7⟩ := hy
      have hn : ¬ (size < 1 ∨ 4096 < size ∨ cut < 0 ∨ 32 < cut ∨ len < 0) := by omega
      unfold chkE
      rw [if_neg hn, if_neg a6, if_neg (by omega)]
    rw [e]
    exact check_ok size cut len sl bs w hv hsz hln hy
  · exact check_bad size cut len sl bs w hv hsz hln hy
end Go.Proofs.Ytinjkebhamhenaa.Ref6
