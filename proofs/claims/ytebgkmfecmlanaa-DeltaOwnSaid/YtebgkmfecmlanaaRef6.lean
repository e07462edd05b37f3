/- The document's Make of a file's sums (chapter 06): walked. The document's Check of sums of blocks: walked. The document's Find: walked. -/
import Derived.Test.YtebgkmfecmlanaaBlkC
import Derived.Test.YtebgkmfecmlanaaShaH
import Derived.Test.YtebgkmfecmlanaaSpecLaw6
import Derived.Test.YtebgkmfecmlanaaIx
import Derived.Test.YtebgkmfecmlanaaRegion
set_option linter.unusedVariables false
set_option linter.unusedSimpArgs false
namespace Go.Proofs.Ytebgkmfecmlanaa.Ref6
open Go.RowKit Go.IntWalk Go.Proofs.YtebgkmfecmlanaaW.PrintWords Go.Proofs.Ytebgkmfecmlanaa.B Go.Proofs.Ytebgkmfecmlanaa.PB Go.Proofs.Ytebgkmfecmlanaa.SWeak Go.Proofs.Ytebgkmfecmlanaa.Bk Go.Proofs.Ytebgkmfecmlanaa.SBlk Go.Proofs.Ytebgkmfecmlanaa.Blk
attribute [local go_sem] B.max2_int B.min2_int B.max_two B.min_two

/-- A signature's slice, as a row of its own from block n on. -/
def OwR (w : World) (n : Nat) (v : Value) (bs : List BK) : Prop := Ow (fBk .i64) 84 w v bs ∧ ∀ q, v.ownBlock = some q → n ≤ q

end Go.Proofs.Ytebgkmfecmlanaa.Ref6
namespace Go.Proofs.Ytebgkmfecmlanaa.Ref6
open Go.RowKit Go.IntWalk Go.Proofs.YtebgkmfecmlanaaW.PrintWords Go.Proofs.Ytebgkmfecmlanaa.B Go.Proofs.Ytebgkmfecmlanaa.PB Go.Proofs.Ytebgkmfecmlanaa.SWeak Go.Proofs.Ytebgkmfecmlanaa.Bk Go.Proofs.Ytebgkmfecmlanaa.SBlk Go.Proofs.Ytebgkmfecmlanaa.Blk

theorem ad3 (ad : Addr) (n k : Nat) : (⟨(ad.add n).block, (ad.add n).off + 1 + k, none⟩ : Addr) = ad.add (n + (1 + k)) := by
  have h1 : (ad.add n).block = ad.block := by unfold Addr.add; split <;> rfl
  have h2 : (ad.add n).off = ad.off + n := by
    unfold Addr.add
    split
    · omega
    · rfl
  rw [h1, h2]
  unfold Addr.add
  rw [if_neg (by omega)]
  congr 1
  omega
set_option maxHeartbeats 4000000 in
set_option maxRecDepth 100000 in
theorem check_bad (size cut len : Int) (sl : Value) (bs : List BK) (w : World) (hv : Rd (fBk .i64) w sl bs) (hsz : size ≤ 9223372036854775807) (hln : len ≤ 9223372036854775807) (hne : ¬ (¬ size < 1 ∧ ¬ 4096 < size ∧ ¬ cut < 0 ∧ ¬ 32 < cut ∧ ¬ len < 0 ∧ ¬ 4096 < countI len size ∧ (bs.length : Int) = countI len size)) :
    Calls Try.prog 31 #[.agg (sgC size cut len sl)] w fun e w' => e = .returned (.int .i64 (chkE size cut len bs)) ∧ Fr No w w' := by
  obtain ⟨A, c, rfl, hAc, hm, _⟩ := id hv
  have hlen := hv.len_le
  have hc := chk_cases size cut len bs
  obtain ⟨E, hE⟩ : ∃ E, chkE size cut len bs = E := ⟨_, rfl⟩
  rw [hE] at hc ⊢
  clear hE hv hm
  rcases hc with ⟨a1, rfl⟩ | ⟨a1, a2, rfl⟩ | ⟨a1, a2, a3, rfl⟩ | ⟨a1, a2, a3, a4, rfl⟩ | ⟨a1, a2, a3, a4, a5, rfl⟩ | ⟨a1, a2, a3, a4, a5, a6, rfl⟩ | ⟨a1, a2, a3, a4, a5, a6, a7, rfl⟩ | ⟨a1, a2, a3, a4, a5, a6, a7, rfl⟩
  case inr.inr.inr.inr.inr.inr.inr => exact absurd ⟨a1, a2, a3, a4, a5, a6, a7⟩ hne
  case inr.inr.inr.inr.inr.inl =>
    have HB := Aside0.mk a6
    clear hne a6
    go_enter Try.func31, Try.ntmps31
    go_wp2_with fail
    refine (refCount_calls len size _ hln hsz).mono ?_
    rintro e w1 ⟨rfl, rfl⟩
    have a6 := HB.out
    go_wp2
    go_ret
    exact ⟨rfl, (Fr.refl _ _).alloc _⟩
  case inr.inr.inr.inr.inr.inr.inl =>
    have HB := Aside0.mk a6
    have HL := Aside0.mk a7
    clear hne a6 a7
    go_enter Try.func31, Try.ntmps31
    go_wp2_with fail
    refine (refCount_calls len size _ hln hsz).mono ?_
    rintro e w1 ⟨rfl, rfl⟩
    have a6 := HB.out
    have a7 : ((bs.length : Int) == countI len size) = false := by rw [beq_eq_false_iff_ne]; exact HL.out
    go_wp2
    go_ret
    exact ⟨rfl, (Fr.refl _ _).alloc _⟩
  all_goals
    clear hne
    go_enter Try.func31, Try.ntmps31
    go_wp2
    go_ret
    exact ⟨rfl, (Fr.refl _ _).alloc _⟩
set_option maxHeartbeats 4000000 in
set_option maxRecDepth 100000 in
theorem check_ok (size cut len : Int) (sl : Value) (bs : List BK) (w : World) (hv : Rd (fBk .i64) w sl bs) (hsz : size ≤ 9223372036854775807) (hln : len ≤ 9223372036854775807) (hy : ¬ size < 1 ∧ ¬ 4096 < size ∧ ¬ cut < 0 ∧ ¬ 32 < cut ∧ ¬ len < 0 ∧ ¬ 4096 < countI len size ∧ (bs.length : Int) = countI len size) :
    Calls Try.prog 31 #[.agg (sgC size cut len sl)] w fun e w' => e = .returned (.int .i64 (if bs.all (clean cut.toNat) = true then 0 else 31)) ∧ Fr No w w' := by
  obtain ⟨A, c, rfl, hAc, hm, _⟩ := id hv
  have HV := Aside0.mk hv
  have hlen := hv.len_le
  obtain ⟨a1, a2, a3, a4, a5, a6, a7⟩ := hy
  obtain ⟨d, rfl⟩ := Int.eq_ofNat_of_zero_le (show 0 ≤ cut by omega)
  rw [Int.toNat_natCast]
  have hd : d ≤ 32 := by omega
  obtain ⟨R, hR⟩ : ∃ R, bs.all (clean d) = R := ⟨_, rfl⟩
  rw [hR]
  have HRR := Aside0.mk hR
  have HB := Aside0.mk a6
  have HL := Aside0.mk a7
  clear hv hm hR a6 a7
  go_enter Try.func31, Try.ntmps31
  go_wp2_with fail
  refine (refCount_calls len size _ hln hsz).mono ?_
  rintro e w1 ⟨rfl, rfl⟩
  rw [← HL.out]
  have a6 : ¬ 4096 < (bs.length : Int) := by have := HL.out; have := HB.out; omega
  go_wp2
  have hb := heap_alloc_new w (.cells (sgC size d len (.slice A bs.length c)) 39)
  have F1 : Aside0 (Fr No w (w.alloc (.cells (sgC size d len (.slice A bs.length c)) 39))) := ⟨(Fr.refl _ _).alloc _⟩
  change Code.wp _ _ _ _ (w.alloc (.cells (sgC size d len (.slice A bs.length c)) 39))
  generalize w.alloc (.cells (sgC size d len (.slice A bs.length c)) 39) = w1 at hb F1 ⊢
  have HS1 := Aside0.mk hb
  clear hb
  go_loopw [4, 5] (fun v4 v5 wr => ∃ i : Nat, v4 = .int .i64 (i : Int) ∧ i ≤ bs.length ∧ Aside0 (∀ (k : Nat) (b : BK), k < i → bs[k]? = some b → clean d b = true) ∧ Aside0 (Fr No w1 wr)) (fun v4 _ _ => bs.length - (intOf v4).toNat)
  case atStart => exact ⟨0, rfl, Nat.zero_le _, ⟨fun k b hk => absurd hk (by omega)⟩, ⟨Fr.refl _ _⟩⟩
  case round =>
    obtain ⟨i, rfl, hi, HO, HF⟩ := hrel
    by_cases hil : i < bs.length
    · have hiI : (i : Int) < (bs.length : Int) := by omega
      obtain ⟨b, hb⟩ : ∃ b, bs[i]? = some b := ⟨_, List.getElem?_eq_getElem hil⟩
      obtain ⟨ad, hA, hcv⟩ := rd_at HV.out i b hb
      have HA := Aside0.mk hA; have HBI := Aside0.mk hb; have HCV := Aside0.mk (hcv.no F1.out)
      have c1 : wr.cell? ⟨w.heap.size, 1, Option.none⟩ = some (.int .i64 d) := by rw [blk_cell (HF.out.heap HS1.out id)]; rfl
      clear hb hA hcv
      go_wp2
      clear c1
      go_loopw [5] (fun v5 wq => ∃ k : Nat, v5 = .int .i64 (k : Int) ∧ d ≤ k ∧ k ≤ 32 ∧ Aside0 (∀ (j : Nat) (x : UInt8), d ≤ j → j < k → b.st[j]? = some x → x = 0) ∧ Aside0 (Fr No w1 wq)) (fun v5 _ => 32 - (intOf v5).toNat)
      case atStart => exact ⟨d, rfl, Nat.le_refl _, hd, ⟨fun j x h1 h2 => absurd h2 (by omega)⟩, HF⟩
      case round =>
        obtain ⟨k, rfl, hdk, hk, HK, HX⟩ := hrel
        by_cases hkn : k < 32
        · have hkI : (k : Int) < 32 := by omega
          obtain ⟨x, hx⟩ : ∃ x, b.st[k]? = some x := ⟨_, List.getElem?_eq_getElem (by rw [b.h]; omega)⟩
          have c3 : wr.cell? ⟨w.heap.size, 3, Option.none⟩ = some (.slice A bs.length c) := by rw [blk_cell (HX.out.heap HS1.out id)]; rfl
          have yk : wr.cell? { block := (ad.add (i * 33)).block, off := (ad.add (i * 33)).off + 1 + k } = some (vu8 x) := by
            have := (HCV.out.no HX.out) (1 + k) (vu8 x) (by rw [show 1 + k = k + 1 by omega]; simp [bkL, hx])
            rw [add_add] at this
            rw [show (⟨(ad.add (i * 33)).block, (ad.add (i * 33)).off + 1 + k, none⟩ : Addr) = ad.add (i * 33 + (1 + k)) from ad3 _ _ _]
            exact this
          by_cases hx0 : x = 0
          · have HX0 := Aside0.mk hx; have HX1 := Aside0.mk hx0
            have yk0 : wr.cell? { block := (ad.add (i * 33)).block, off := (ad.add (i * 33)).off + 1 + k } = some (.int .u8 0) := by rw [yk, hx0]; rfl
            clear hx hx0 yk
            go_wp2_with (refine lsIx 37 84 33 (.tmp 53) (.tmp 54) ad A bs.length c i _ Try.underlying37 (by kernel_rfl) rfl rfl rfl HA.out rfl rfl hil ?_)
            go_roundw
            case rel => exact ⟨k + 1, by go_num, by omega, by omega, ⟨fun j y h1 h2 hy => by
              by_cases hj : j = k
              · subst hj; rw [HX0.out] at hy; injection hy with hy; subst hy; exact HX1.out
              · exact HK.out j y h1 (by omega) hy⟩, HX⟩
            case measure => simp [intOf]; omega
          · have e : R = false := by
              rw [← HRR.out]
              exact all_false HBI.out (clean_false hdk hx hx0)
            have hxI : ((x.toNat : Int) == 0) = false := by
              rw [beq_eq_false_iff_ne]
              intro h9
              exact hx0 (UInt8.toNat_inj.1 (by simpa using h9))
            subst e
            clear hx hx0
            go_wp2_with (refine lsIx 37 84 33 (.tmp 53) (.tmp 54) ad A bs.length c i _ Try.underlying37 (by kernel_rfl) rfl rfl rfl HA.out rfl rfl hil ?_)
            go_ret
            exact ⟨rfl, F1.out.none HX.out⟩
        · have hkI : ¬ (k : Int) < 32 := by omega
          have hc : clean d b = true := clean_true fun j x h1 h2 => HK.out j x h1 (by have := (List.getElem?_eq_some_iff.1 h2).1; rw [b.h] at this; omega) h2
          have HC := Aside0.mk hc
          clear hc
          go_wp2
          go_roundw
          case rel => exact ⟨i + 1, by go_num, by omega, ⟨fun k b' hk hy => by
            by_cases hki : k = i
            · subst hki; rw [HBI.out] at hy; injection hy with hy; subst hy; exact HC.out
            · exact HO.out k b' (by omega) hy⟩, HX⟩
          case measure => simp [intOf]; omega
    · have hiI : ¬ (i : Int) < (bs.length : Int) := by omega
      have e : R = true := by
        rw [← HRR.out]
        exact all_true fun k b hk => HO.out k b (by have := (List.getElem?_eq_some_iff.1 hk).1; omega) hk
      subst e
      go_wp2
      go_ret
      exact ⟨rfl, F1.out.none HF.out⟩
theorem check_calls (size cut len : Int) (sl : Value) (bs : List BK) (w : World) (hv : Rd (fBk .i64) w sl bs) (hsz : size ≤ 9223372036854775807) (hln : len ≤ 9223372036854775807) :
    Calls Try.prog 31 #[.agg (sgC size cut len sl)] w fun e w' => e = .returned (.int .i64 (chkE size cut len bs)) ∧ Fr No w w' := by
  by_cases hy : ¬ size < 1 ∧ ¬ 4096 < size ∧ ¬ cut < 0 ∧ ¬ 32 < cut ∧ ¬ len < 0 ∧ ¬ 4096 < countI len size ∧ (bs.length : Int) = countI len size
  · have e : chkE size cut len bs = if bs.all (clean cut.toNat) = true then 0 else 31 := by
      obtain ⟨a1, a2, a3, a4, a5, a6, a7⟩ := hy
      have hn : ¬ (size < 1 ∨ 4096 < size ∨ cut < 0 ∨ 32 < cut ∨ len < 0) := by omega
      unfold chkE
      rw [if_neg hn, if_neg a6, if_neg (by omega)]
    rw [e]
    exact check_ok size cut len sl bs w hv hsz hln hy
  · exact check_bad size cut len sl bs w hv hsz hln hy
end Go.Proofs.Ytebgkmfecmlanaa.Ref6
namespace Go.Proofs.Ytebgkmfecmlanaa.Ref6
open Go.RowKit Go.IntWalk Go.Proofs.YtebgkmfecmlanaaW.PrintWords Go.Proofs.Ytebgkmfecmlanaa.B Go.Proofs.Ytebgkmfecmlanaa.PB Go.Proofs.Ytebgkmfecmlanaa.SWeak Go.Proofs.Ytebgkmfecmlanaa.Bk Go.Proofs.Ytebgkmfecmlanaa.SBlk Go.Proofs.Ytebgkmfecmlanaa.Blk

theorem findL_none {p : Nat → BK → Bool} : ∀ {bs : List BK} {i : Nat}, (∀ (k : Nat) (b : BK), bs[k]? = some b → p (i + k) b = false) → findL p i bs = none
  | [], _, _ => rfl
  | b :: bs, i, h => by
    rw [findL, if_neg (by have := h 0 b rfl; rw [Nat.add_zero] at this; rw [this]; decide)]
    exact findL_none fun k c hc => by rw [show i + 1 + k = i + (k + 1) by omega]; exact h (k + 1) c (by simpa using hc)
theorem findL_at {p : Nat → BK → Bool} : ∀ {bs : List BK} {i j : Nat} {b : BK}, bs[j]? = some b → p (i + j) b = true → (∀ (k : Nat) (c : BK), k < j → bs[k]? = some c → p (i + k) c = false) → findL p i bs = some (i + j)
  | [], _, _, _, h, _, _ => by simp at h
  | c :: bs, i, j, b, hb, hp, h => by
    rw [findL]
    cases j with
    | zero => simp at hb; subst hb; rw [if_pos (by simpa using hp)]; rfl
    | succ j =>
      rw [if_neg (by have := h 0 c (by omega) rfl; rw [Nat.add_zero] at this; rw [this]; decide)]
      rw [findL_at (j := j) (b := b) (by simpa using hb) (by rw [show i + 1 + j = i + (j + 1) by omega]; exact hp) (fun k c hk hc => by rw [show i + 1 + k = i + (k + 1) by omega]; exact h (k + 1) c (by omega) (by simpa using hc))]
      congr 1; omega
def fndZ (r : Option Nat) : Int := match r with | some i => (i : Int) | none => -1

theorem ad1 (ad : Addr) (n : Nat) : (⟨(ad.add n).block, (ad.add n).off + 1, none⟩ : Addr) = ad.add (n + 1) := by
  have h1 : (ad.add n).block = ad.block := by unfold Addr.add; split <;> rfl
  have h2 : (ad.add n).off = ad.off + n := by
    unfold Addr.add
    split
    · omega
    · rfl
  rw [h1, h2]
  unfold Addr.add
  rw [if_neg (by omega)]
  congr 1
theorem left_or (s L m k : Nat) (hk : min s (L - m) = k) (hm : m < L) : ((L : Int) - (m : Int) < (s : Int) ∧ (L : Int) - (m : Int) = (k : Int)) ∨ (¬ (L : Int) - (m : Int) < (s : Int) ∧ (s : Int) = (k : Int)) := by omega
theorem left_wrap (L m : Nat) (hm : m < L) (hL : L ≤ 9223372036854775807) : wrap64 (m : Int) = (m : Int) ∧ wrap64 ((L : Int) - (m : Int)) = (L : Int) - (m : Int) := ⟨wrap64_in _ (by omega), wrap64_in _ (by omega)⟩
set_option maxHeartbeats 4000000 in
set_option maxRecDepth 100000 in
theorem find_calls (s L : Nat) (cut : Int) (sl : Value) (bs : List BK) (t : List UInt8) (w : World) (hv : Rd (fBk .i64) w sl bs) (ht : t.length ≤ 10000) (hs : s ≤ 4096) (hL : L ≤ 9223372036854775807)
    (hin : ∀ i, i < bs.length → i * s < L) (h1 : -9223372036854775808 ≤ cut) (h2 : cut ≤ 9223372036854775807) : Calls Try.prog 32 #[.agg (sgC s cut L sl), .string (bstr t)] w fun e w' =>
    e = .returned (.int .i64 (fndZ (findL (hit s L (sums cut t) t.length) 0 bs))) ∧ Fr No w w' := by
  obtain ⟨A, c, rfl, hAc, hm, _⟩ := id hv
  have hlen := hv.len_le
  have hsz : (bstr t).size = t.length := bstr_size t
  obtain ⟨r, hr⟩ : ∃ r, findL (hit s L (sums cut t) t.length) 0 bs = r := ⟨_, rfl⟩
  rw [hr]
  have HR := Aside0.mk hr; have HV := Aside0.mk hv; have HIN := Aside0.mk hin
  clear hr hv hin hm hAc
  go_enter Try.func32, Try.ntmps32
  go_wp2
  have hb := heap_alloc_new w (.cells (sgC s cut L (.slice A bs.length c)) 39)
  have F1 : Aside0 (Fr No w (w.alloc (.cells (sgC s cut L (.slice A bs.length c)) 39))) := ⟨(Fr.refl _ _).alloc _⟩
  change Code.wp _ _ _ _ (w.alloc (.cells (sgC s cut L (.slice A bs.length c)) 39))
  generalize w.alloc (.cells (sgC s cut L (.slice A bs.length c)) 39) = w1 at hb F1 ⊢
  have HS1 := Aside0.mk hb
  clear hb
  go_loopw [5, 6] (fun v5 v6 wr => ∃ i : Nat, v5 = .int .i64 (i : Int) ∧ i ≤ bs.length ∧ Aside0 (∀ (k : Nat) (b : BK), k < i → bs[k]? = some b → hit s L (sums cut t) t.length (0 + k) b = false) ∧ Aside0 (Fr No w1 wr)) (fun v5 _ _ => bs.length - (intOf v5).toNat)
  case atStart => exact ⟨0, rfl, Nat.zero_le _, ⟨fun k b hk => absurd hk (by omega)⟩, ⟨Fr.refl _ _⟩⟩
  case round =>
    obtain ⟨i, rfl, hi, HO, HF⟩ := hrel
    have c3 : wr.cell? ⟨w.heap.size, 3, Option.none⟩ = some (.slice A bs.length c) := by rw [blk_cell (HF.out.heap HS1.out id)]; rfl
    by_cases hil : i < bs.length
    · have hiI : (i : Int) < (bs.length : Int) := by omega
      have hiL := HIN.out i hil
      obtain ⟨b, hb⟩ : ∃ b, bs[i]? = some b := ⟨_, List.getElem?_eq_getElem hil⟩
      obtain ⟨ad, hA, hcv⟩ := rd_at HV.out i b hb
      have hcw := (hcv.no F1.out).no HF.out
      have c0 : wr.cell? ⟨w.heap.size, 0, Option.none⟩ = some (.int .i64 s) := by rw [blk_cell (HF.out.heap HS1.out id)]; rfl
      have c1 : wr.cell? ⟨w.heap.size, 1, Option.none⟩ = some (.int .i64 cut) := by rw [blk_cell (HF.out.heap HS1.out id)]; rfl
      have c2 : wr.cell? ⟨w.heap.size, 2, Option.none⟩ = some (.int .i64 L) := by rw [blk_cell (HF.out.heap HS1.out id)]; rfl
      have y0 : wr.cell? (ad.add (i * 33)) = some (.int .i64 (b.w : Int)) := by
        have := hcw 0 (.int .i64 (b.w : Int)) rfl
        rw [add_add, Nat.add_zero] at this
        exact this
      have L1 : ∀ x, Fr No wr x → (loadVar 63 ⟨(ad.add (i * 33)).block, (ad.add (i * 33)).off + 1, none⟩).run Try.prog x = .ok (Arr.av b.st) x := fun x hx => by
        rw [ad1]
        have hc : Cv x (ad.add (i * 33 + 1)) (b.st.map vu8) := fun j v hj => by
          have := (hcw.no hx) (j + 1) v (by simp only [bkL, List.getElem?_cons_succ]; exact hj)
          rw [add_add] at this ⊢
          rw [show i * 33 + 1 + j = i * 33 + (j + 1) by omega]
          exact this
        exact run_loadVar_cells hc Try.underlying63 rfl (by rw [List.length_map, b.h]; kernel_rfl)
      have HA := Aside0.mk hA; have HBI := Aside0.mk hb
      clear hb hA hcv hcw
      obtain ⟨m, hm⟩ : ∃ m, i * s = m := ⟨_, rfl⟩
      have hmI : (i : Int) * (s : Int) = (m : Int) := by rw [← hm]; exact (Int.natCast_mul i s).symm
      obtain ⟨k, hk⟩ : ∃ k, min s (L - m) = k := ⟨_, rfl⟩
      have HH : Aside0 (hit s L (sums cut t) t.length i b = (decide (k = t.length) && decide (b = sums cut t))) := ⟨by unfold hit; rw [hm, hk]⟩
      rw [hm] at hiL
      obtain ⟨hwm, hwm2⟩ := left_wrap L m hiL hL
      have hor := left_or s L m k hk hiL
      clear hm
      rcases hor with ⟨hlt, hz⟩ | ⟨hlt, hz⟩
      case' inl =>
        clear hk
        go_wp2
        try rw [hz]
        clear hwm hwm2 hmI hlt c0 c2
      case' inr =>
        clear hk
        have HKS : Aside0 (s = k) := ⟨by omega⟩
        clear hz
        go_wp2
        clear hwm hwm2 hmI hlt c0 c2
      all_goals
        by_cases hkt : k = t.length
        · have hkI : ((k : Int) == (t.length : Int)) = true := by rw [hkt]; simp
          try have hsI : ((s : Int) == (t.length : Int)) = true := by rw [HKS.out]; exact hkI
          try clear hz
          by_cases hw : b.w = weak t
          · have hwI : ((b.w : Int) == ((weak t : Nat) : Int)) = true := by rw [hw]; simp
            obtain ⟨B, hB⟩ : ∃ B : Bool, decide (b.st = Sha.cut cut t) = B := ⟨_, rfl⟩
            have HH3 : Aside0 (hit s L (sums cut t) t.length i b = B) := ⟨by
              rw [HH.out, decide_eq_true hkt, Bool.true_and, ← hB]
              congr 1
              exact propext ⟨fun h => by rw [h]; rfl, fun h => BK.ext' hw h⟩⟩
            have qe := fun W => Arr.run_eql Try.underlying63 W b.st (Sha.cut cut t) b.h (Sha.cut_length _ _)
            unfold Arr.av at qe
            rw [hB] at qe
            have qg := fun x y W => run_eqGuard_agg (P := Try.prog) W .eql 63 x y (b.st.map vu8).toArray ((Sha.cut cut t).map vu8).toArray (by kernel_rfl)
            unfold Arr.av at L1
            clear hB hw
            refine Rg.start (fun _ x => Fr No wr x) (by kernel_rfl) (by kernel_rfl) [12, 25] [[1, 2, 0, 3, 4, 11, 12], [24, 11, 12, 7, 5, 6, 8, 9, 10, 13, 1, 2, 0, 3, 4, 14, 15, 22, 23, 25]] (by kernel_rfl) (.q 0 0 (.q 1 0 (.q 2 0 (.q 3 0 (.q 4 0 (.q 5 1 (.q 6 1 (.q 7 1 (.q 8 1 (.q 9 1 (.q 10 1 (.q 11 0 (.e 12 1 (.q 13 1 (.q 14 1 (.q 15 1 (.q 16 2 (.q 17 2 (.q 18 2 (.q 19 2 (.q 20 2 (.q 21 2 (.q 22 1 (.q 23 1 (.q 24 1 (.e 25 2 (.q 26 2 (.q 27 2 (.done))))))))))))))))))))))))))))) (by kernel_rfl) ?_ ?_
            · exact fun _ => (Fr.refl _ _).drew
            repeat (first
              | (refine Rg.q (o := ?_) (v := ?_) ?_ ?_ ?_ ?_ ?_
                 rotate_left 2
                 · (simp only [List.getElem?_toArray, List.getElem?_cons_succ, List.getElem?_cons_zero]; rfl)
                 · exact fun _ _ _ h => h
                 · first | rfl | (go_simp; done)
                 · (intro x_ hx; (try dsimp only at hx); first | ((refine (ex_ix 37 84 33 _ _ ad A bs.length c i _ Try.underlying37 (by kernel_rfl) rfl rfl HA.out rfl rfl hil).trans ?_; with_reducible rfl)) | ((refine (ex_ld rfl rfl (L1 _ hx)).trans ?_; with_reducible rfl)) | (have q1 := hx.cell c3 id; have q2 := hx.cell y0 id; have q3 := hx.cell c1 id; (try clear hx); go_simp; (try rw [if_neg (by omega)]); (try rw [if_pos (by omega)]); (try go_simp); try with_reducible rfl))
                 try simp only [Act.put, List.setIfInBounds_toArray, List.set_cons_zero, List.set_cons_succ])
              | (refine Rg.skip (o := ?_) ?_ ?_ ?_ ?_
                 rotate_left 1
                 · (simp only [List.getElem?_toArray, List.getElem?_cons_succ, List.getElem?_cons_zero]; rfl)
                 · exact fun _ _ _ h => h
                 · first | rfl | (go_simp; done)
                 try simp only [Act.put, List.setIfInBounds_toArray, List.set_cons_zero, List.set_cons_succ]))
            refine Rg.e (o := ?_) ?_ ?_
            rotate_left 1
            · (simp only [List.getElem?_toArray, List.getElem?_cons_succ, List.getElem?_cons_zero]; rfl)
            intro K hK
            rw [if_pos (by go_simp)]; go_simp
            refine (Wk.ref_calls t _ ht).mono ?_
            rintro en x1 ⟨rfl, hx1⟩
            subst hx1
            go_simp
            refine hK.out _ _ (fun _ x => Fr No wr x) (fun k x hk h => h) ?_ ?_
            · exact fun _ _ => (Fr.refl _ _).drew
            try simp only [Act.put, List.setIfInBounds_toArray, List.set_cons_zero, List.set_cons_succ]
            repeat (first
              | (refine Rg.q (o := ?_) (v := ?_) ?_ ?_ ?_ ?_ ?_
                 rotate_left 2
                 · (simp only [List.getElem?_toArray, List.getElem?_cons_succ, List.getElem?_cons_zero]; rfl)
                 · exact fun _ _ _ h => h
                 · first | rfl | (go_simp; done)
                 · (intro x_ hx; (try dsimp only at hx); first | ((refine (ex_ix 37 84 33 _ _ ad A bs.length c i _ Try.underlying37 (by kernel_rfl) rfl rfl HA.out rfl rfl hil).trans ?_; with_reducible rfl)) | ((refine (ex_ld rfl rfl (L1 _ hx)).trans ?_; with_reducible rfl)) | (have q1 := hx.cell c3 id; have q2 := hx.cell y0 id; have q3 := hx.cell c1 id; (try clear hx); go_simp; (try rw [if_neg (by omega)]); (try rw [if_pos (by omega)]); (try go_simp); try with_reducible rfl))
                 try simp only [Act.put, List.setIfInBounds_toArray, List.set_cons_zero, List.set_cons_succ])
              | (refine Rg.skip (o := ?_) ?_ ?_ ?_ ?_
                 rotate_left 1
                 · (simp only [List.getElem?_toArray, List.getElem?_cons_succ, List.getElem?_cons_zero]; rfl)
                 · exact fun _ _ _ h => h
                 · first | rfl | (go_simp; done)
                 try simp only [Act.put, List.setIfInBounds_toArray, List.set_cons_zero, List.set_cons_succ]))
            refine Rg.e (o := ?_) ?_ ?_
            rotate_left 1
            · (simp only [List.getElem?_toArray, List.getElem?_cons_succ, List.getElem?_cons_zero]; rfl)
            intro K hK
            rw [if_pos (by go_simp)]; go_simp
            refine (Sha.ref_cut_calls cut (bstr t) _ (by rw [bstr_size]; omega) h1 h2).mono ?_
            rw [show (bstr t).data.toList = t from rfl]
            unfold Arr.av
            rintro en x2 ⟨rfl, hf⟩
            have K2 : Aside0 (Fr No wr x2) := ⟨((Fr.refl No wr).drew).none hf⟩
            clear hf
            go_simp
            refine hK.out _ _ (fun _ x => Fr No wr x) (fun k x hk h => h) ?_ ?_
            · exact fun _ _ => K2.out
            try simp only [Act.put, List.setIfInBounds_toArray, List.set_cons_zero, List.set_cons_succ]
            repeat (first
              | (refine Rg.q (o := ?_) (v := ?_) ?_ ?_ ?_ ?_ ?_
                 rotate_left 2
                 · (simp only [List.getElem?_toArray, List.getElem?_cons_succ, List.getElem?_cons_zero]; rfl)
                 · exact fun _ _ _ h => h
                 · first | rfl | (go_simp; done)
                 · (intro x_ hx; (try dsimp only at hx); first | ((refine (ex_ix 37 84 33 _ _ ad A bs.length c i _ Try.underlying37 (by kernel_rfl) rfl rfl HA.out rfl rfl hil).trans ?_; with_reducible rfl)) | ((refine (ex_ld rfl rfl (L1 _ hx)).trans ?_; with_reducible rfl)) | (have q1 := hx.cell c3 id; have q2 := hx.cell y0 id; have q3 := hx.cell c1 id; (try clear hx); go_simp; (try rw [if_neg (by omega)]); (try rw [if_pos (by omega)]); (try go_simp); try with_reducible rfl))
                 try simp only [Act.put, List.setIfInBounds_toArray, List.set_cons_zero, List.set_cons_succ])
              | (refine Rg.skip (o := ?_) ?_ ?_ ?_ ?_
                 rotate_left 1
                 · (simp only [List.getElem?_toArray, List.getElem?_cons_succ, List.getElem?_cons_zero]; rfl)
                 · exact fun _ _ _ h => h
                 · first | rfl | (go_simp; done)
                 try simp only [Act.put, List.setIfInBounds_toArray, List.set_cons_zero, List.set_cons_succ]))
            refine Rg.done ?_
            go_simp
            clear L1 qe qg c3 c1 y0
            cases B
            · have HNO := HH3
              have FFF : Aside0 (Fr No w1 x2) := ⟨HF.out.none K2.out⟩
              go_wp2
              go_roundw
              case rel => exact ⟨i + 1, by go_num, by omega, ⟨fun k' b' hk hy => by
                by_cases hki : k' = i
                · subst hki; rw [HBI.out] at hy; injection hy with hy; subst hy; rw [Nat.zero_add]; exact HNO.out
                · exact HO.out k' b' (by omega) hy⟩, FFF⟩
              case measure => simp [intOf]; omega
            · have e : r = some i := by
                rw [← HR.out]
                have := findL_at (i := 0) HBI.out (by rw [Nat.zero_add]; exact HH3.out) HO.out
                rw [Nat.zero_add] at this
                exact this
              subst e
              go_wp2
              go_ret
              exact ⟨rfl, (F1.out.none HF.out).none K2.out⟩
          · have hwI : ((b.w : Int) == ((weak t : Nat) : Int)) = false := by rw [beq_eq_false_iff_ne]; omega
            have HNO : Aside0 (hit s L (sums cut t) t.length i b = false) := ⟨by
              rw [HH.out, decide_eq_false (p := b = sums cut t) (fun e => hw (by rw [e]; rfl)), Bool.and_false]⟩
            have FFF : Aside0 (Fr No w1 wr.drew) := ⟨HF.out.drew⟩
            clear hw
            refine Rg.start (fun _ x => Fr No wr x) (by kernel_rfl) (by kernel_rfl) [12, 25] [[1, 2, 0, 3, 4, 11, 12], [24, 11, 12, 7, 5, 6, 8, 9, 10, 13, 1, 2, 0, 3, 4, 14, 15, 22, 23, 25]] (by kernel_rfl) (.q 0 0 (.q 1 0 (.q 2 0 (.q 3 0 (.q 4 0 (.q 5 1 (.q 6 1 (.q 7 1 (.q 8 1 (.q 9 1 (.q 10 1 (.q 11 0 (.e 12 1 (.q 13 1 (.q 14 1 (.q 15 1 (.q 16 2 (.q 17 2 (.q 18 2 (.q 19 2 (.q 20 2 (.q 21 2 (.q 22 1 (.q 23 1 (.q 24 1 (.e 25 2 (.q 26 2 (.q 27 2 (.done))))))))))))))))))))))))))))) (by kernel_rfl) ?_ ?_
            · exact fun _ => (Fr.refl _ _).drew
            repeat (first
              | (refine Rg.q (o := ?_) (v := ?_) ?_ ?_ ?_ ?_ ?_
                 rotate_left 2
                 · (simp only [List.getElem?_toArray, List.getElem?_cons_succ, List.getElem?_cons_zero]; rfl)
                 · exact fun _ _ _ h => h
                 · first | rfl | (go_simp; done)
                 · (intro x_ hx; (try dsimp only at hx); first | ((refine (ex_ix 37 84 33 _ _ ad A bs.length c i _ Try.underlying37 (by kernel_rfl) rfl rfl HA.out rfl rfl hil).trans ?_; with_reducible rfl)) | ((refine (ex_ld rfl rfl (L1 _ hx)).trans ?_; with_reducible rfl)) | (have q1 := hx.cell c3 id; have q2 := hx.cell y0 id; have q3 := hx.cell c1 id; (try clear hx); go_simp; (try rw [if_neg (by omega)]); (try rw [if_pos (by omega)]); (try go_simp); try with_reducible rfl))
                 try simp only [Act.put, List.setIfInBounds_toArray, List.set_cons_zero, List.set_cons_succ])
              | (refine Rg.skip (o := ?_) ?_ ?_ ?_ ?_
                 rotate_left 1
                 · (simp only [List.getElem?_toArray, List.getElem?_cons_succ, List.getElem?_cons_zero]; rfl)
                 · exact fun _ _ _ h => h
                 · first | rfl | (go_simp; done)
                 try simp only [Act.put, List.setIfInBounds_toArray, List.set_cons_zero, List.set_cons_succ]))
            refine Rg.e (o := ?_) ?_ ?_
            rotate_left 1
            · (simp only [List.getElem?_toArray, List.getElem?_cons_succ, List.getElem?_cons_zero]; rfl)
            intro K hK
            rw [if_pos (by go_simp)]; go_simp
            refine (Wk.ref_calls t _ ht).mono ?_
            rintro en x1 ⟨rfl, hx1⟩
            subst hx1
            go_simp
            refine hK.out _ _ (fun _ x => Fr No wr x) (fun k x hk h => h) ?_ ?_
            · exact fun _ _ => (Fr.refl _ _).drew
            try simp only [Act.put, List.setIfInBounds_toArray, List.set_cons_zero, List.set_cons_succ]
            repeat (first
              | (refine Rg.q (o := ?_) (v := ?_) ?_ ?_ ?_ ?_ ?_
                 rotate_left 2
                 · (simp only [List.getElem?_toArray, List.getElem?_cons_succ, List.getElem?_cons_zero]; rfl)
                 · exact fun _ _ _ h => h
                 · first | rfl | (go_simp; done)
                 · (intro x_ hx; (try dsimp only at hx); first | ((refine (ex_ix 37 84 33 _ _ ad A bs.length c i _ Try.underlying37 (by kernel_rfl) rfl rfl HA.out rfl rfl hil).trans ?_; with_reducible rfl)) | ((refine (ex_ld rfl rfl (L1 _ hx)).trans ?_; with_reducible rfl)) | (have q1 := hx.cell c3 id; have q2 := hx.cell y0 id; have q3 := hx.cell c1 id; (try clear hx); go_simp; (try rw [if_neg (by omega)]); (try rw [if_pos (by omega)]); (try go_simp); try with_reducible rfl))
                 try simp only [Act.put, List.setIfInBounds_toArray, List.set_cons_zero, List.set_cons_succ])
              | (refine Rg.skip (o := ?_) ?_ ?_ ?_ ?_
                 rotate_left 1
                 · (simp only [List.getElem?_toArray, List.getElem?_cons_succ, List.getElem?_cons_zero]; rfl)
                 · exact fun _ _ _ h => h
                 · first | rfl | (go_simp; done)
                 try simp only [Act.put, List.setIfInBounds_toArray, List.set_cons_zero, List.set_cons_succ]))
            refine Rg.e (o := ?_) ?_ ?_
            rotate_left 1
            · (simp only [List.getElem?_toArray, List.getElem?_cons_succ, List.getElem?_cons_zero]; rfl)
            intro K hK
            go_simp
            refine hK.out _ _ (fun _ x => Fr No wr x) (fun k x hk h => h) ?_ ?_
            · exact fun _ _ => (Fr.refl _ _).drew
            try simp only [Act.put, List.setIfInBounds_toArray, List.set_cons_zero, List.set_cons_succ]
            repeat (first
              | (refine Rg.q (o := ?_) (v := ?_) ?_ ?_ ?_ ?_ ?_
                 rotate_left 2
                 · (simp only [List.getElem?_toArray, List.getElem?_cons_succ, List.getElem?_cons_zero]; rfl)
                 · exact fun _ _ _ h => h
                 · first | rfl | (go_simp; done)
                 · (intro x_ hx; (try dsimp only at hx); first | ((refine (ex_ix 37 84 33 _ _ ad A bs.length c i _ Try.underlying37 (by kernel_rfl) rfl rfl HA.out rfl rfl hil).trans ?_; with_reducible rfl)) | ((refine (ex_ld rfl rfl (L1 _ hx)).trans ?_; with_reducible rfl)) | (have q1 := hx.cell c3 id; have q2 := hx.cell y0 id; have q3 := hx.cell c1 id; (try clear hx); go_simp; (try rw [if_neg (by omega)]); (try rw [if_pos (by omega)]); (try go_simp); try with_reducible rfl))
                 try simp only [Act.put, List.setIfInBounds_toArray, List.set_cons_zero, List.set_cons_succ])
              | (refine Rg.skip (o := ?_) ?_ ?_ ?_ ?_
                 rotate_left 1
                 · (simp only [List.getElem?_toArray, List.getElem?_cons_succ, List.getElem?_cons_zero]; rfl)
                 · exact fun _ _ _ h => h
                 · first | rfl | (go_simp; done)
                 try simp only [Act.put, List.setIfInBounds_toArray, List.set_cons_zero, List.set_cons_succ]))
            refine Rg.done ?_
            go_simp
            clear L1 c3 c1 y0
            go_wp2
            go_roundw
            case rel => exact ⟨i + 1, by go_num, by omega, ⟨fun k' b' hk hy => by
              by_cases hki : k' = i
              · subst hki; rw [HBI.out] at hy; injection hy with hy; subst hy; rw [Nat.zero_add]; exact HNO.out
              · exact HO.out k' b' (by omega) hy⟩, FFF⟩
            case measure => simp [intOf]; omega
        · have hkI : ((k : Int) == (t.length : Int)) = false := by rw [beq_eq_false_iff_ne]; omega
          try have hsI : ((s : Int) == (t.length : Int)) = false := by rw [HKS.out]; exact hkI
          try clear hz
          have HNO : Aside0 (hit s L (sums cut t) t.length i b = false) := ⟨by rw [HH.out, decide_eq_false hkt, Bool.false_and]⟩
          have FFF : Aside0 (Fr No w1 wr.drew) := ⟨HF.out.drew⟩
          refine Rg.start (fun _ x => Fr No wr x) (by kernel_rfl) (by kernel_rfl) [12, 25] [[1, 2, 0, 3, 4, 11, 12], [24, 11, 12, 7, 5, 6, 8, 9, 10, 13, 1, 2, 0, 3, 4, 14, 15, 22, 23, 25]] (by kernel_rfl) (.q 0 0 (.q 1 0 (.q 2 0 (.q 3 0 (.q 4 0 (.q 5 1 (.q 6 1 (.q 7 1 (.q 8 1 (.q 9 1 (.q 10 1 (.q 11 0 (.e 12 1 (.q 13 1 (.q 14 1 (.q 15 1 (.q 16 2 (.q 17 2 (.q 18 2 (.q 19 2 (.q 20 2 (.q 21 2 (.q 22 1 (.q 23 1 (.q 24 1 (.e 25 2 (.q 26 2 (.q 27 2 (.done))))))))))))))))))))))))))))) (by kernel_rfl) ?_ ?_
          · exact fun _ => (Fr.refl _ _).drew
          repeat (first
            | (refine Rg.q (o := ?_) (v := ?_) ?_ ?_ ?_ ?_ ?_
               rotate_left 2
               · (simp only [List.getElem?_toArray, List.getElem?_cons_succ, List.getElem?_cons_zero]; rfl)
               · exact fun _ _ _ h => h
               · first | rfl | (go_simp; done)
               · (intro x_ hx; (try dsimp only at hx); first | ((refine (ex_ix 37 84 33 _ _ ad A bs.length c i _ Try.underlying37 (by kernel_rfl) rfl rfl HA.out rfl rfl hil).trans ?_; with_reducible rfl)) | ((refine (ex_ld rfl rfl (L1 _ hx)).trans ?_; with_reducible rfl)) | (have q1 := hx.cell c3 id; have q2 := hx.cell y0 id; have q3 := hx.cell c1 id; (try clear hx); go_simp; (try rw [if_neg (by omega)]); (try rw [if_pos (by omega)]); (try go_simp); try with_reducible rfl))
               try simp only [Act.put, List.setIfInBounds_toArray, List.set_cons_zero, List.set_cons_succ])
            | (refine Rg.skip (o := ?_) ?_ ?_ ?_ ?_
               rotate_left 1
               · (simp only [List.getElem?_toArray, List.getElem?_cons_succ, List.getElem?_cons_zero]; rfl)
               · exact fun _ _ _ h => h
               · first | rfl | (go_simp; done)
               try simp only [Act.put, List.setIfInBounds_toArray, List.set_cons_zero, List.set_cons_succ]))
          refine Rg.e (o := ?_) ?_ ?_
          rotate_left 1
          · (simp only [List.getElem?_toArray, List.getElem?_cons_succ, List.getElem?_cons_zero]; rfl)
          intro K hK
          go_simp
          refine hK.out _ _ (fun _ x => Fr No wr x) (fun k x hk h => h) ?_ ?_
          · exact fun _ _ => (Fr.refl _ _).drew
          try simp only [Act.put, List.setIfInBounds_toArray, List.set_cons_zero, List.set_cons_succ]
          repeat (first
            | (refine Rg.q (o := ?_) (v := ?_) ?_ ?_ ?_ ?_ ?_
               rotate_left 2
               · (simp only [List.getElem?_toArray, List.getElem?_cons_succ, List.getElem?_cons_zero]; rfl)
               · exact fun _ _ _ h => h
               · first | rfl | (go_simp; done)
               · (intro x_ hx; (try dsimp only at hx); first | ((refine (ex_ix 37 84 33 _ _ ad A bs.length c i _ Try.underlying37 (by kernel_rfl) rfl rfl HA.out rfl rfl hil).trans ?_; with_reducible rfl)) | ((refine (ex_ld rfl rfl (L1 _ hx)).trans ?_; with_reducible rfl)) | (have q1 := hx.cell c3 id; have q2 := hx.cell y0 id; have q3 := hx.cell c1 id; (try clear hx); go_simp; (try rw [if_neg (by omega)]); (try rw [if_pos (by omega)]); (try go_simp); try with_reducible rfl))
               try simp only [Act.put, List.setIfInBounds_toArray, List.set_cons_zero, List.set_cons_succ])
            | (refine Rg.skip (o := ?_) ?_ ?_ ?_ ?_
               rotate_left 1
               · (simp only [List.getElem?_toArray, List.getElem?_cons_succ, List.getElem?_cons_zero]; rfl)
               · exact fun _ _ _ h => h
               · first | rfl | (go_simp; done)
               try simp only [Act.put, List.setIfInBounds_toArray, List.set_cons_zero, List.set_cons_succ]))
          refine Rg.e (o := ?_) ?_ ?_
          rotate_left 1
          · (simp only [List.getElem?_toArray, List.getElem?_cons_succ, List.getElem?_cons_zero]; rfl)
          intro K hK
          go_simp
          refine hK.out _ _ (fun _ x => Fr No wr x) (fun k x hk h => h) ?_ ?_
          · exact fun _ _ => (Fr.refl _ _).drew
          try simp only [Act.put, List.setIfInBounds_toArray, List.set_cons_zero, List.set_cons_succ]
          repeat (first
            | (refine Rg.q (o := ?_) (v := ?_) ?_ ?_ ?_ ?_ ?_
               rotate_left 2
               · (simp only [List.getElem?_toArray, List.getElem?_cons_succ, List.getElem?_cons_zero]; rfl)
               · exact fun _ _ _ h => h
               · first | rfl | (go_simp; done)
               · (intro x_ hx; (try dsimp only at hx); first | ((refine (ex_ix 37 84 33 _ _ ad A bs.length c i _ Try.underlying37 (by kernel_rfl) rfl rfl HA.out rfl rfl hil).trans ?_; with_reducible rfl)) | ((refine (ex_ld rfl rfl (L1 _ hx)).trans ?_; with_reducible rfl)) | (have q1 := hx.cell c3 id; have q2 := hx.cell y0 id; have q3 := hx.cell c1 id; (try clear hx); go_simp; (try rw [if_neg (by omega)]); (try rw [if_pos (by omega)]); (try go_simp); try with_reducible rfl))
               try simp only [Act.put, List.setIfInBounds_toArray, List.set_cons_zero, List.set_cons_succ])
            | (refine Rg.skip (o := ?_) ?_ ?_ ?_ ?_
               rotate_left 1
               · (simp only [List.getElem?_toArray, List.getElem?_cons_succ, List.getElem?_cons_zero]; rfl)
               · exact fun _ _ _ h => h
               · first | rfl | (go_simp; done)
               try simp only [Act.put, List.setIfInBounds_toArray, List.set_cons_zero, List.set_cons_succ]))
          refine Rg.done ?_
          go_simp
          clear L1 c3 c1 y0
          go_wp2
          go_roundw
          case rel => exact ⟨i + 1, by go_num, by omega, ⟨fun k' b' hk hy => by
            by_cases hki : k' = i
            · subst hki; rw [HBI.out] at hy; injection hy with hy; subst hy; rw [Nat.zero_add]; exact HNO.out
            · exact HO.out k' b' (by omega) hy⟩, FFF⟩
          case measure => simp [intOf]; omega
    · have hiI : ¬ (i : Int) < (bs.length : Int) := by omega
      have e : r = none := by
        rw [← HR.out]
        exact findL_none fun k b hk => HO.out k b (by have := (List.getElem?_eq_some_iff.1 hk).1; omega) hk
      subst e
      go_wp2
      go_ret
      exact ⟨rfl, F1.out.none HF.out⟩
end Go.Proofs.Ytebgkmfecmlanaa.Ref6
