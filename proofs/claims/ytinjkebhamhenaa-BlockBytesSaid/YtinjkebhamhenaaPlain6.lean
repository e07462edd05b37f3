/- The statement's plain of chapter 06: the program's sums as the document's: walked. -/
import Derived.Test.YtinjkebhamhenaaRef6
import Derived.Test.YtinjkebhamhenaaIx
set_option linter.unusedVariables false
set_option linter.unusedSimpArgs false
namespace Go.Proofs.Ytinjkebhamhenaa.L6
open Go.RowKit Go.IntWalk Go.Proofs.YtinjkebhamhenaaW.PrintWords Go.Proofs.Ytinjkebhamhenaa.B Go.Proofs.Ytinjkebhamhenaa.PB Go.Proofs.Ytinjkebhamhenaa.SWeak Go.Proofs.Ytinjkebhamhenaa.Bk Go.Proofs.Ytinjkebhamhenaa.SBlk Go.Proofs.Ytinjkebhamhenaa.Blk Go.Proofs.Ytinjkebhamhenaa.Ref6
attribute [local go_sem] B.max2_int B.min2_int B.max_two B.min_two

theorem ld_sum {w : World} {g : Nat} {t : TypeId} {fz : Nat × Nat} {k : IntKind} {b : BK} (h : w.heap[g]? = some (.cells (bkC k b) t fz)) : ∀ x, Fr No w x → (loadVar 53 ⟨g, 1, none⟩).run Try.prog x = .ok (Arr.av b.st) x := fun x hx => by
  have hc : Cv x ⟨g, 1, none⟩ (b.st.map vu8) := by
    have := Cv.of_block (hx.heap h id) 1
    have e : (bkC k b).toList.drop 1 = b.st.map vu8 := by simp [bkC, bkL]
    rw [e] at this
    exact this
  exact run_loadVar_cells hc Try.underlying53 rfl (by rw [List.length_map, b.h]; kernel_rfl)

set_option maxHeartbeats 4000000 in
set_option maxRecDepth 100000 in
theorem plain_calls (size cut len : Int) (sl : Value) (bs : List BK) (w : World) (hv : Rd (fBk .u32) w sl bs) (hn : bs.length ≤ 1000000) : Calls Try.prog 13 #[.agg (sgC size cut len sl)] w fun e w' =>
    ∃ sl', e = .returned (.agg (sgC size cut len sl')) ∧ OwR w' w.heap.size sl' bs ∧ Fr No w w' := by
  obtain ⟨A, c, rfl, hAc, hm, _⟩ := id hv
  have HV := Aside0.mk hv
  clear hv
  go_enter Try.func13, Try.ntmps13
  go_wp2
  obtain ⟨g, hg⟩ : ∃ g, w.heap.size + 1 + 1 = g := ⟨_, rfl⟩
  obtain ⟨r, hr⟩ : ∃ r, w.heap.size + 1 = r := ⟨_, rfl⟩
  have HG := Aside0.mk hg; have HR := Aside0.mk hr
  have FW : Aside0 (Fr No w (((w.alloc (.cells (sgC size cut len (.slice A bs.length c)) 26)).alloc (.cells (sgC 0 0 0 (.slice none 0 0)) 32)).alloc (.cells (sgC size cut len (.slice none 0 0)) 32))) := ⟨(((Fr.refl _ _).alloc _).alloc _).alloc _⟩
  have X1 : Aside0 ((((w.alloc (.cells (sgC size cut len (.slice A bs.length c)) 26)).alloc (.cells (sgC 0 0 0 (.slice none 0 0)) 32)).alloc (.cells (sgC size cut len (.slice none 0 0)) 32)).heap[r]? = some (.cells (sgC 0 0 0 (.slice none 0 0)) 32 (0, 0))) := ⟨by rw [← hr]; exact blk_alloc (heap_alloc2_new w _ _) _⟩
  have X2 : Aside0 ((((w.alloc (.cells (sgC size cut len (.slice A bs.length c)) 26)).alloc (.cells (sgC 0 0 0 (.slice none 0 0)) 32)).alloc (.cells (sgC size cut len (.slice none 0 0)) 32)).heap[g]? = some (.cells (sgC size cut len (.slice none 0 0)) 32 (0, 0))) := ⟨by rw [← hg]; simpa using heap_alloc_new ((w.alloc (.cells (sgC size cut len (.slice A bs.length c)) 26)).alloc (.cells (sgC 0 0 0 (.slice none 0 0)) 32)) (.cells (sgC size cut len (.slice none 0 0)) 32)⟩
  rw [hg, hr]
  change Code.wp _ _ _ _ (((w.alloc (.cells (sgC size cut len (.slice A bs.length c)) 26)).alloc (.cells (sgC 0 0 0 (.slice none 0 0)) 32)).alloc (.cells (sgC size cut len (.slice none 0 0)) 32))
  generalize ((w.alloc (.cells (sgC size cut len (.slice A bs.length c)) 26)).alloc (.cells (sgC 0 0 0 (.slice none 0 0)) 32)).alloc (.cells (sgC size cut len (.slice none 0 0)) 32) = w0 at FW X1 X2 ⊢
  clear hg hr
  go_loopw [16] (fun v16 wr => ∃ (i : Nat) (vi : Value), v16 = .int .i64 (i : Int) ∧ i ≤ bs.length ∧ Aside0 (wr.heap[r]? = some (.cells (sgC 0 0 0 (.slice none 0 0)) 32 (0, 0))) ∧ Aside0 (wr.heap[g]? = some (.cells (sgC size cut len vi) 32 (0, 0))) ∧ Aside0 (OwR wr w.heap.size vi (bs.take i)) ∧ Aside0 (Fr No w wr)) (fun v16 _ => bs.length - (intOf v16).toNat)
  case atStart => exact ⟨0, .slice none 0 0, rfl, Nat.zero_le _, X1, X2, ⟨⟨Ow.nil _ _ _, fun q hq => by cases hq⟩⟩, FW⟩
  case round =>
    obtain ⟨i, vi, rfl, hi, H0, H1, HO, HF⟩ := hrel
    by_cases hil : i < bs.length
    · have hiI : (i : Int) < (bs.length : Int) := by omega
      obtain ⟨b, hb⟩ : ∃ b, bs[i]? = some b := ⟨_, List.getElem?_eq_getElem hil⟩
      obtain ⟨ad, hA, hcv⟩ := rd_at HV.out i b hb
      have LD : ∀ x, Fr No wr x → (loadVar 55 (ad.add (i * 33))).run Try.prog x = .ok (.agg (bkC .u32 b)) x := ld_elem (hcv.no HF.out) Try.underlying55 rfl (by rw [bkL_length]; kernel_rfl)
      have HA := Aside0.mk hA
      have HT : Aside0 (bs.take (i + 1) = bs.take i ++ [b]) := ⟨by rw [List.take_add_one, hb]; rfl⟩
      have hbw := b.hw
      have htl : (bs.take i).length = i := by rw [List.length_take]; omega
      have HTL := Aside0.mk htl
      clear hb hcv hA htl
      go_upto_region 5 with (first
        | (refine lsIx 24 55 33 (.tmp 14) (.tmp 16) ad A bs.length c i _ Try.underlying24 (by kernel_rfl) rfl rfl rfl HA.out rfl rfl hil ?_)
        | (refine ldG (.tmp 18) 55 _ _ rfl rfl (LD _ (Fr.refl _ _)) (by first | rfl | (go_simp; done)) ?_)
        | (refine PB.stRow (.tmp 5) (.tmp 19) 55 wr.heap.size 55 _ (bkC .u32 b) rfl rfl rfl rfl (heap_alloc_new wr _) (by rw [bkC_size]; kernel_rfl) (by rw [bkC_size]; rfl) (bkC_one _ _) ?_; rw [World.setRow_alloc_new]))
      change Code.wp _ _ _ _ (wr.alloc (.cells (bkC .u32 b) 55))
      have XB : Aside0 ((wr.alloc (.cells (bkC .u32 b) 55)).heap[wr.heap.size]? = some (.cells (bkC .u32 b) 55 (0, 0))) := ⟨heap_alloc_new wr _⟩
      have XF : Aside0 (Fr No wr (wr.alloc (.cells (bkC .u32 b) 55))) := ⟨(Fr.refl _ _).alloc _⟩
      generalize wr.alloc (.cells (bkC .u32 b) 55) = wx at XB XF ⊢
      have h1x := XF.out.heap H1.out id
      have y3 : wx.cell? ⟨g, 3, Option.none⟩ = some vi := by rw [blk_cell h1x]; rfl
      have y0 : wx.cell? ⟨wr.heap.size, 0, Option.none⟩ = some (.int .u32 (b.w : Int)) := by rw [blk_cell XB.out]; rfl
      have LS := ld_sum XB.out
      have HX1 := Aside0.mk h1x; have HX0 := Aside0.mk (XF.out.heap H0.out id)
      clear h1x LD
      go_wp2_with (first
        | (refine ldG (.tmp 25) 53 _ _ rfl rfl (LS _ (Fr.refl _ _)) (by first | rfl | (go_simp; done)) ?_)
        | (refine lsX rfl (ex_build (buildR b wx) rfl (by kernel_rfl)) ?_)
        | (refine lsX rfl (ex_buildSlice (oneR b wx) rfl (by kernel_rfl)) ?_)
        | (at_builtin; refine ap1 (f := fBk .i64) rfl (.tmp 21) (.tmp 28) 30 71 (.agg (bkC .i64 zBK)) 40 rfl Try.underlying30 infoR (bkC_size _ _) (by decide) (by decide) vi (bs.take i) b (bkL .i64 b) rfl rfl rfl (HO.out.1.no XF.out) ?c3 ?_; (case c3 => have := HTL.out; omega); intro v1 x3 h1 h2 h3 h4; have J1 := Aside0.mk h1; have J2 := Aside0.mk h2; have J3 := Aside0.mk h3; have J4 := h2.heap HX1.out (fun hb => by obtain ⟨cs', hb'⟩ := (HO.out.1.no XF.out).typed g hb; rw [HX1.out] at hb'; injection hb' with hb'; injection hb' with _ e2; exact absurd e2 (by decide)); have J5 := Aside0.mk J4; have J0 := Aside0.mk (h2.heap HX0.out (fun hb => by obtain ⟨cs', hb'⟩ := (HO.out.1.no XF.out).typed r hb; rw [HX0.out] at hb'; injection hb' with hb'; injection hb' with _ e2; exact absurd e2 (by decide))); have z3 : x3.cell? ⟨g, 3, Option.none⟩ = some vi := (by rw [blk_cell J4]; rfl); have zf : x3.frozen? ⟨g, 3, Option.none⟩ = false := blk_frozen J4 _; have i5 := h1.form; obtain ⟨A1, c1, rfl⟩ := i5; clear h1 h2 h3 h4 J4))
      go_roundw
      case rel =>
        have hl1 : (bs.take i ++ [b]).length = i + 1 := by rw [List.length_append, HTL.out]; rfl
        have J1' := J1.out; have J3' := J3.out
        rw [hl1] at J1' J3'
        have e9 : (bs.take i).length + 1 = i + 1 := by rw [HTL.out]
        have s1 := blk_set J5.out 3 (.slice A1 (i + 1) c1)
        have fs : Fr (one g) x3 (x3.setCell ⟨g, 3, none⟩ (.slice A1 (i + 1) c1)) := fr_one_set _ _ _ _
        have hF3 : Fr No w x3 := (HF.out.none XF.out).trans J2.out (fun q hq hb => absurd (HO.out.2 q hb) (by omega))
        refine ⟨i + 1, .slice A1 (i + 1) c1, by go_num, by omega, ⟨fs.heap J0.out (fun e => by have e' : r = g := e; have := HG.out; have := HR.out; omega)⟩, ⟨by simpa using s1⟩, ⟨⟨?_, fun q hq => ?_⟩⟩, ⟨hF3.setCell (p := ⟨g, 3, none⟩) (.inr (by have := HG.out; show w.heap.size ≤ g; omega)) _⟩⟩
        · rw [HT.out]
          exact J1'.fr fs (fun q hq hb => by
            have e' : q = g := hb
            obtain ⟨cs', hb'⟩ := J1'.typed q hq
            rw [e', J5.out] at hb'
            injection hb' with hb'
            injection hb' with _ e2
            exact absurd e2 (by decide))
        · rcases J3' with h9 | ⟨q', h9, h10⟩
          · rw [hq] at h9; exact HO.out.2 q h9.symm
          · rw [hq] at h9; injection h9 with h9; have := HF.out.size; have := XF.out.size; omega
      case measure => simp [intOf]; omega
    · have hiI : ¬ (i : Int) < (bs.length : Int) := by omega
      have hin : i = bs.length := by omega
      have HOe := HO.out
      rw [hin, List.take_length] at HOe
      have HE := Aside0.mk HOe
      have LD := ld_all (P := Try.prog) (ty := 32) H1.out Try.underlying32 rfl (by kernel_rfl)
      clear HOe
      go_wp2_with (first
        | (refine ldG (.tmp 3) 32 _ _ rfl rfl (LD _ (Fr.refl _ _)) (by first | rfl | (go_simp; done)) ?_)
        | (refine PB.stRow (.tmp 2) (.tmp 32) 32 r 32 _ (sgC size cut len vi) rfl rfl rfl rfl H0.out (by kernel_rfl) rfl (by obtain ⟨A1, c1, rfl⟩ := HO.out.1.form; simp [Value.oneCell']) ?_))
      (try simp only [Exit.inBlock, Exit.then]); refine bodyPost_ret (results_single (r := .cell 2 32) rfl (.cell r 32 (sgC size cut len vi) (0, 0) _ rfl (setRow_heap _ _ _ _ _ _ H0.out) Try.underlying32 rfl (by kernel_rfl) .nil)) rfl ?_
      refine ⟨vi, rfl, ⟨HE.out.1.fr (fr_one_row _ _ _) (fun q hq hb => by
        have e' : q = r := hb
        obtain ⟨cs', hb'⟩ := HE.out.1.typed q hq
        rw [e', H0.out] at hb'
        injection hb' with hb'
        injection hb' with _ e2
        exact absurd e2 (by decide)), HE.out.2⟩, fr_setRow HF.out (.inr (by have := HR.out; omega)) _⟩
end Go.Proofs.Ytinjkebhamhenaa.L6
