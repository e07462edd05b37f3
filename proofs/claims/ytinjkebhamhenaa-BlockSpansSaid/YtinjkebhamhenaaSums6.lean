/- The statements' head of chapter 06: walked. -/
import Derived.Test.YtinjkebhamhenaaChk
import Derived.Test.YtinjkebhamhenaaFind
import Derived.Test.YtinjkebhamhenaaBlkM
import Derived.Test.YtinjkebhamhenaaWeak
import Derived.Lib.SlBytesConst
set_option linter.unusedVariables false
set_option linter.unusedSimpArgs false
namespace Go.Proofs.Ytinjkebhamhenaa.L6
open Go.RowKit Go.IntWalk Go.Proofs.YtinjkebhamhenaaW.PrintWords Go.Proofs.Ytinjkebhamhenaa.B Go.Proofs.Ytinjkebhamhenaa.PB Go.Proofs.Ytinjkebhamhenaa.SWeak Go.Proofs.Ytinjkebhamhenaa.Bk Go.Proofs.Ytinjkebhamhenaa.SBlk Go.Proofs.Ytinjkebhamhenaa.Blk

/-- What is made is well made. -/
theorem clean_sums (cut : Int) (p : List UInt8) : clean cut.toNat (sums cut p) = true := by
  refine clean_true fun k x hk hx => ?_
  have hs := Sha.sha_length p
  have e : (sums cut p).st = (Sha.sha p).take (Sha.cutK cut) ++ List.replicate (32 - Sha.cutK cut) 0 := rfl
  have hl : k < 32 := by have := (List.getElem?_eq_some_iff.1 hx).1; rw [(sums cut p).h] at this; exact this
  have hc : Sha.cutK cut ≤ k := by unfold Sha.cutK; omega
  rw [e, List.getElem?_append_right (by rw [List.length_take]; omega)] at hx
  rw [List.getElem?_replicate] at hx
  split at hx
  · injection hx with hx; exact hx.symm
  · cases hx
theorem chk_made {d : List UInt8} {size cut : Int} (h : makeE d.length size cut = 0) : chkE size cut d.length (blocks size.toNat cut d (cnt d.length size.toNat)) = 0 := by
  have hc := makeE_cases d.length size cut
  obtain ⟨a1, a2, a3, a4, a5⟩ : 1 ≤ size ∧ size ≤ 4096 ∧ 0 ≤ cut ∧ cut ≤ 32 ∧ countI d.length size ≤ 4096 := by
    rcases hc with h | h | h | h | h | h <;> omega
  have hn : ¬ (size < 1 ∨ 4096 < size ∨ cut < 0 ∨ 32 < cut ∨ (d.length : Int) < 0) := by omega
  have hcnt : countI d.length size = (cnt d.length size.toNat : Int) := by
    have := countI_nat d.length size.toNat (by omega)
    rw [Int.toNat_of_nonneg (by omega)] at this
    exact this
  unfold chkE
  rw [if_neg hn, if_neg (by omega), blocks_length, hcnt, if_neg (by simp), if_pos]
  rw [List.all_eq_true]
  intro b hb
  unfold blocks at hb
  obtain ⟨i, _, rfl⟩ := List.mem_map.1 hb
  exact clean_sums _ _

theorem makeS_length (d : List UInt8) (size cut : Int) : (makeS d size cut).bs.length ≤ 1000000 := by
  have hc := makeE_cases d.length size cut
  unfold makeS
  split
  · rename_i h
    have hcnt : countI d.length size = (cnt d.length size.toNat : Int) := by
      have := countI_nat d.length size.toNat (by omega)
      rw [Int.toNat_of_nonneg (by omega)] at this
      exact this
    simp only [blocks_length]
    omega
  · exact Nat.zero_le _
def d3 : List UInt8 := [97, 98, 99]
theorem find3 : findL (hit 2 3 ⟨weak [99], Sha.cut 4 [99], Sha.cut_length 4 [99], weak_lt [99]⟩ 1) 0 (blocks 2 4 d3 2) = some 1 := by
  have e : blocks 2 4 d3 2 = [sums 4 (piece 2 d3 0), sums 4 [99]] := rfl
  rw [e, findL, if_neg (by unfold hit; simp), findL, if_pos (by unfold hit sums; simp)]

theorem rdB_lit (W : World) (xs : List UInt8) (e : Nat) (fz : Nat × Nat) (hm : xs.length ≤ maxLen) : RdB (W.alloc (.cells (xs.map vu8).toArray e fz)) (.slice (some ⟨W.heap.size, 0, none⟩) xs.length xs.length) xs := by
  refine ⟨_, xs.length, rfl, Nat.le_refl _, hm, fun _ => ⟨_, rfl, fun i u hu => ?_⟩⟩
  rw [u8_cells] at hu
  rw [add_plain]
  have := (List.getElem?_eq_some_iff.1 hu).1
  simpa [World.cell?, World.alloc, -World.alloc_eq] using hu
theorem make3 (v : Value) (w : World) (hv : RdB w v d3) : Calls Try.prog 10 #[v, .int .i64 2, .int .i64 4] w fun e w' =>
    ∃ A c, e = .returned (.tuple #[.agg (sgC 2 4 3 (.slice A 2 c)), .int .i64 0]) ∧ OwS w' w.heap.size (.slice A 2 c) (blocks 2 4 d3 2) ∧ Fr No w w' := by
  refine (make_ok v d3 2 4 w hv (by decide) (by decide) (by decide)).mono ?_
  rintro e w' ⟨sl, rfl, h3, h4⟩
  have h5 : OwS w' w.heap.size sl (blocks 2 4 d3 2) := h3
  obtain ⟨A, c, rfl⟩ := h5.1.form
  exact ⟨A, c, rfl, h5, h4⟩
theorem span3 (A : Option Addr) (c : Nat) (w : World) : Calls Try.prog 18 #[.agg (sgC 2 4 3 (.slice A 2 c)), .int .i64 1] w fun e w' => e = .returned (.tuple #[.int .i64 2, .int .i64 1]) ∧ Fr No w w' :=
  span_calls 2 1 3 4 A 2 c w (by decide) (by decide) (by decide) (by decide)
theorem found3 (p sl vb : Value) (n : Nat) (w : World) (hT : Tbl w p n 2 4 3 sl (blocks 2 4 d3 2)) (hv : Rd (fBk .u32) w sl (blocks 2 4 d3 2)) (hb : RdB w vb [99]) : Calls Try.prog 15 #[p, .int .u32 ((weak [99] : Nat) : Int), vb] w fun e w' => e = .returned (.tuple #[.int .i64 1, .bool true]) ∧ Fr No w w' := by
  have h := find_calls p sl vb n (weak [99]) 2 3 4 (blocks 2 4 d3 2) [99] w hT hv (by rw [blocks_length]; decide) hb (by decide) (weak_lt _) (by decide) (by decide) (by rw [blocks_length]; intro i hi; omega) (by decide) (by decide)
  rw [show ([99] : List UInt8).length = 1 from rfl, find3] at h
  exact h
set_option maxHeartbeats 4000000 in
set_option maxRecDepth 100000 in
theorem sums_calls (w : World) : Calls Try.prog 9 #[] w fun e w' => e = .returned (.bool true) ∧ Fr No w w' := by
  have h1 := fun W : World => Lib.run_convert_bytes_const (P := Try.prog) W 22 5 #[.int .u8 97, .int .u8 98, .int .u8 99] 3 3 Try.underlying22 Try.underlying5
  have h2 := fun W : World => Lib.run_convert_bytes_const (P := Try.prog) W 22 5 #[.int .u8 99] 1 1 Try.underlying22 Try.underlying5
  go_enter Try.func9, Try.ntmps9
  go_wp2_with fail
  refine (make3 _ _ (rdB_lit w d3 _ _ (by decide))).mono ?_
  rintro e w1 ⟨A, c, rfl, hO, hf⟩
  have F1 : Aside0 (Fr No w w1) := ⟨((Fr.refl _ _).alloc _).none hf⟩
  have HO := Aside0.mk hO
  clear hf hO h1
  go_wp2_with fail
  have XS : Aside0 ((w1.alloc (.cells (sgC 2 4 3 (.slice A 2 c)) 26)).heap[w1.heap.size]? = some (.cells (sgC 2 4 3 (.slice A 2 c)) 26 (0, 0))) := ⟨heap_alloc_new w1 _⟩
  have F2 : Aside0 (Fr No w (w1.alloc (.cells (sgC 2 4 3 (.slice A 2 c)) 26))) := ⟨F1.out.alloc _⟩
  have HR : Aside0 (Rd (fBk .u32) (w1.alloc (.cells (sgC 2 4 3 (.slice A 2 c)) 26)) (.slice A 2 c) (blocks 2 4 d3 2)) := ⟨HO.out.1.rd.no ((Fr.refl _ _).alloc _)⟩
  change Calls _ _ _ (w1.alloc (.cells (sgC 2 4 3 (.slice A 2 c)) 26)) _
  generalize w1.alloc (.cells (sgC 2 4 3 (.slice A 2 c)) 26) = w2 at XS F2 HR ⊢
  have hck := check_calls 2 4 3 _ _ w2 HR.out (by decide) (by decide)
  rw [show chkE 2 4 3 (blocks 2 4 d3 2) = 0 from chk_made (d := d3) (size := 2) (cut := 4) (by decide)] at hck
  refine hck.mono ?_
  rintro e w3 ⟨rfl, hf⟩
  have F3 := Aside0.mk hf
  have LD := ld_all (P := Try.prog) (ty := 26) XS.out Try.underlying26 rfl (by kernel_rfl)
  clear hf hck
  go_wp2_with (first
    | (refine ldG (.tmp 1) 26 _ _ rfl rfl (LD _ F3.out) (by first | rfl | (go_simp; done)) ?_)
    | fail)
  refine (span3 A c w3).mono ?_
  rintro e w4 ⟨rfl, hf⟩
  have F4 : Aside0 (Fr No w2 w4) := ⟨F3.out.none hf⟩
  clear hf
  go_wp2_with (first
    | (refine ldG (.tmp 1) 26 _ _ rfl rfl (LD _ F4.out) (by first | rfl | (go_simp; done)) ?_)
    | fail)
  refine (index_calls 2 4 3 _ _ w4 (HR.out.no F4.out) (by rw [blocks_length]; decide)).mono ?_
  rintro e w5 ⟨p, rfl, hT, hf⟩
  have F5 : Aside0 (Fr No w2 w5) := ⟨F4.out.none hf⟩
  have HT := Aside0.mk hT
  clear hf hT LD
  go_wp2_with fail
  refine (Wk.of_calls _ [99] _ (rdB_lit w5 [99] _ _ (by decide)) (by decide)).mono ?_
  rintro e w6 ⟨rfl, hf⟩
  have F6 : Aside0 (Fr No w5 w6) := ⟨((Fr.refl _ _).alloc _).none hf⟩
  clear hf
  go_wp2_with fail
  refine (Wk.value_calls [99] w6).mono ?_
  rintro e w7 ⟨rfl, hf⟩
  have F7 : Aside0 (Fr No w5 w7) := ⟨F6.out.none hf⟩
  clear hf
  go_wp2_with fail
  have F8 : Aside0 (Fr No w5 (w7.alloc (.cells #[.int .u8 99] 5 (1, 2)))) := ⟨F7.out.alloc _⟩
  refine (found3 p (.slice A 2 c) _ _ _ (HT.out.no F8.out) ((HR.out.no F5.out).no F8.out) (rdB_lit w7 [99] _ _ (by decide))).mono ?_
  rintro e w8 ⟨rfl, hf⟩
  have F9 : Aside0 (Fr No w2 w8) := ⟨(F5.out.none F8.out).none hf⟩
  have c2 : w8.cell? ⟨w1.heap.size, 2, Option.none⟩ = some (.int .i64 3) := by rw [blk_cell (F9.out.heap XS.out id)]; rfl
  clear hf h2
  go_wp2
  go_ret
  exact ⟨rfl, F2.out.none F9.out⟩
end Go.Proofs.Ytinjkebhamhenaa.L6
