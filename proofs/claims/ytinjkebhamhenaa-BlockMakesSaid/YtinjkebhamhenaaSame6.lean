/- The document's Same of chapter 06: walked. -/
import Derived.Test.YtinjkebhamhenaaRef6
import Derived.Test.YtinjkebhamhenaaIx
set_option linter.unusedVariables false
set_option linter.unusedSimpArgs false
namespace Go.Proofs.Ytinjkebhamhenaa.L6
open Go.RowKit Go.IntWalk Go.Proofs.YtinjkebhamhenaaW.PrintWords Go.Proofs.Ytinjkebhamhenaa.B Go.Proofs.Ytinjkebhamhenaa.PB Go.Proofs.Ytinjkebhamhenaa.SWeak Go.Proofs.Ytinjkebhamhenaa.Bk Go.Proofs.Ytinjkebhamhenaa.SBlk Go.Proofs.Ytinjkebhamhenaa.Blk Go.Proofs.Ytinjkebhamhenaa.Ref6

set_option maxHeartbeats 4000000 in
set_option maxRecDepth 100000 in
/-- The same sums are the same. -/
theorem same_calls (size cut len : Int) (va vb : Value) (bs : List BK) (w : World) (ha : Rd (fBk .i64) w va bs) (hb : Rd (fBk .i64) w vb bs) : Calls Try.prog 12 #[.agg (sgC size cut len va), .agg (sgC size cut len vb)] w fun e w' => e = .returned (.bool true) ∧ Fr No w w' := by
  obtain ⟨A, c, rfl, hAc, hm, _⟩ := id ha
  obtain ⟨A', c', rfl, hAc', hm', _⟩ := id hb
  have hlen := ha.len_le
  have HA := Aside0.mk ha; have HB := Aside0.mk hb
  clear ha hb
  go_enter Try.func12, Try.ntmps12
  go_wp2
  have XA : Aside0 (((w.alloc (.cells (sgC size cut len (.slice A bs.length c)) 32)).alloc (.cells (sgC size cut len (.slice A' bs.length c')) 32)).heap[w.heap.size]? = some (.cells (sgC size cut len (.slice A bs.length c)) 32 (0, 0))) := ⟨blk_alloc (heap_alloc_new w _) _⟩
  have XB : Aside0 (((w.alloc (.cells (sgC size cut len (.slice A bs.length c)) 32)).alloc (.cells (sgC size cut len (.slice A' bs.length c')) 32)).heap[w.heap.size + 1]? = some (.cells (sgC size cut len (.slice A' bs.length c')) 32 (0, 0))) := ⟨heap_alloc2_new w _ _⟩
  have FW : Aside0 (Fr No w ((w.alloc (.cells (sgC size cut len (.slice A bs.length c)) 32)).alloc (.cells (sgC size cut len (.slice A' bs.length c')) 32))) := ⟨((Fr.refl _ _).alloc _).alloc _⟩
  change Code.wp _ _ _ _ ((w.alloc (.cells (sgC size cut len (.slice A bs.length c)) 32)).alloc (.cells (sgC size cut len (.slice A' bs.length c')) 32))
  generalize (w.alloc (.cells (sgC size cut len (.slice A bs.length c)) 32)).alloc (.cells (sgC size cut len (.slice A' bs.length c')) 32) = w0 at XA XB FW ⊢
  go_loopw [5] (fun v5 wr => ∃ i : Nat, v5 = .int .i64 (i : Int) ∧ i ≤ bs.length ∧ Aside0 (Fr No w0 wr)) (fun v5 _ => bs.length - (intOf v5).toNat)
  case atStart => exact ⟨0, rfl, Nat.zero_le _, ⟨Fr.refl _ _⟩⟩
  case round =>
    obtain ⟨i, rfl, hi, HF⟩ := hrel
    have a3 : wr.cell? ⟨w.heap.size, 3, Option.none⟩ = some (.slice A bs.length c) := by rw [blk_cell (HF.out.heap XA.out id)]; rfl
    have b3 : wr.cell? ⟨w.heap.size + 1, 3, Option.none⟩ = some (.slice A' bs.length c') := by rw [blk_cell (HF.out.heap XB.out id)]; rfl
    by_cases hil : i < bs.length
    · have hiI : (i : Int) < (bs.length : Int) := by omega
      have hiD : decide (i < bs.length) = true := decide_eq_true hil
      obtain ⟨b, hb⟩ : ∃ b, bs[i]? = some b := ⟨_, List.getElem?_eq_getElem hil⟩
      obtain ⟨ad, hA, hcv⟩ := rd_at HA.out i b hb
      obtain ⟨ad', hA', hcv'⟩ := rd_at HB.out i b hb
      have FF := FW.out.none HF.out
      have LA : ∀ x, Fr No wr x → (loadVar 71 (ad.add (i * 33))).run Try.prog x = .ok (.agg (bkC .i64 b)) x := ld_elem (hcv.no FF) Try.underlying71 rfl (by rw [bkL_length]; kernel_rfl)
      have LB : ∀ x, Fr No wr x → (loadVar 71 (ad'.add (i * 33))).run Try.prog x = .ok (.agg (bkC .i64 b)) x := ld_elem (hcv'.no FF) Try.underlying71 rfl (by rw [bkL_length]; kernel_rfl)
      have HA2 := Aside0.mk hA; have HA3 := Aside0.mk hA'
      have qn := fun W => neqR b b W
      have qg := fun x y W => run_eqGuard_agg (P := Try.prog) W .neq 71 x y (bkC .i64 b) (bkC .i64 b) (by kernel_rfl)
      simp only [decide_true, Bool.not_true] at qn
      have FD : Aside0 (Fr No wr wr.drew) := ⟨(Fr.refl _ _).drew⟩
      clear hb hcv hcv' hA hA' FF
      go_wp2
      refine Rg.start (fun _ x => Fr No wr x) (by kernel_rfl) (by kernel_rfl) [] [] (by kernel_rfl) (.q 0 0 (.q 1 0 (.q 2 0 (.q 3 0 (.q 4 0 (.q 5 0 (.q 6 0 (.q 7 0 (.q 8 0 (.q 9 0 (.q 10 0 (.done)))))))))))) (by kernel_rfl) ?_ ?_
      · exact fun _ => FD.out
      repeat (first
        | (refine Rg.q (o := ?_) (v := ?_) ?_ ?_ ?_ ?_ ?_
           rotate_left 2
           · (simp only [List.getElem?_toArray, List.getElem?_cons_succ, List.getElem?_cons_zero]; rfl)
           · exact fun _ _ _ h => h
           · first | rfl | (go_simp; done)
           · (intro x_ hx; (try dsimp only at hx); first | (first|(refine (ex_ix 30 71 33 (.tmp 42) (.tmp 43) ad A bs.length c i _ Try.underlying30 (by kernel_rfl) rfl rfl HA2.out rfl rfl hil).trans ?_; with_reducible rfl)|(refine (ex_ix 30 71 33 (.tmp 47) (.tmp 48) ad' A' bs.length c' i _ Try.underlying30 (by kernel_rfl) rfl rfl HA3.out rfl rfl hil).trans ?_; with_reducible rfl)) | (first|(refine (ex_ld rfl rfl (LA _ hx)).trans ?_; with_reducible rfl)|(refine (ex_ld rfl rfl (LB _ hx)).trans ?_; with_reducible rfl)) | (have q1 := hx.cell a3 id; have q2 := hx.cell b3 id; (try clear hx); go_simp; (try rw [if_neg (by omega)]); (try rw [if_pos (by omega)]); (try go_simp); try with_reducible rfl))
           try simp only [Act.put, List.setIfInBounds_toArray, List.set_cons_zero, List.set_cons_succ])
        | (refine Rg.skip (o := ?_) ?_ ?_ ?_ ?_
           rotate_left 1
           · (simp only [List.getElem?_toArray, List.getElem?_cons_succ, List.getElem?_cons_zero]; rfl)
           · exact fun _ _ _ h => h
           · first | rfl | (go_simp; done)
           try simp only [Act.put, List.setIfInBounds_toArray, List.set_cons_zero, List.set_cons_succ]))
      refine Rg.done ?_
      go_simp
      clear LA LB qn qg
      go_wp2
      go_roundw
      case rel => exact ⟨i + 1, by go_num, by omega, ⟨HF.out.none FD.out⟩⟩
      case measure => simp [intOf]; omega
    · have hiI : ¬ (i : Int) < (bs.length : Int) := by omega
      have hiD : decide (i < bs.length) = false := decide_eq_false hil
      go_wp2
      go_ret
      exact ⟨rfl, FW.out.none HF.out⟩
end Go.Proofs.Ytinjkebhamhenaa.L6
