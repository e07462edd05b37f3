/- The statement's plain of chapter 06: the program's sums as the document's: walked. delta.Make and the document's, whatever the sums; the statements' head of chapter 07: walked. -/
import Derived.Test.YtebgkmfecmlanaaRef6
import Derived.Test.YtebgkmfecmlanaaIx
import Derived.Test.YtebgkmfecmlanaaDelM
import Derived.Test.YtebgkmfecmlanaaDelT
import Derived.Test.YtebgkmfecmlanaaSums6
import Derived.Lib.SlBytesConst
set_option linter.unusedVariables false
set_option linter.unusedSimpArgs false
namespace Go.Proofs.Ytebgkmfecmlanaa.L7
open Go.RowKit Go.IntWalk Go.Proofs.YtebgkmfecmlanaaW.PrintWords Go.Proofs.Ytebgkmfecmlanaa.B Go.Proofs.Ytebgkmfecmlanaa.PB Go.Proofs.Ytebgkmfecmlanaa.SWeak Go.Proofs.Ytebgkmfecmlanaa.Bk Go.Proofs.Ytebgkmfecmlanaa.SBlk Go.Proofs.Ytebgkmfecmlanaa.Blk Go.Proofs.Ytebgkmfecmlanaa.Ref6
attribute [local go_sem] B.max2_int B.min2_int B.max_two B.min_two

theorem ld_sum {w : World} {g : Nat} {t : TypeId} {fz : Nat × Nat} {k : IntKind} {b : BK} (h : w.heap[g]? = some (.cells (bkC k b) t fz)) : ∀ x, Fr No w x → (loadVar 63 ⟨g, 1, none⟩).run Try.prog x = .ok (Arr.av b.st) x := fun x hx => by
  have hc : Cv x ⟨g, 1, none⟩ (b.st.map vu8) := by
    have := Cv.of_block (hx.heap h id) 1
    have e : (bkC k b).toList.drop 1 = b.st.map vu8 := by simp [bkC, bkL]
    rw [e] at this
    exact this
  exact run_loadVar_cells hc Try.underlying63 rfl (by rw [List.length_map, b.h]; kernel_rfl)

set_option maxHeartbeats 4000000 in
set_option maxRecDepth 100000 in
theorem sums7_calls (size cut len : Int) (sl : Value) (bs : List BK) (w : World) (hv : Rd (fBk .u32) w sl bs) (hn : bs.length ≤ 1000000) : Calls Try.prog 14 #[.agg (sgC size cut len sl)] w fun e w' =>
    ∃ sl', e = .returned (.agg (sgC size cut len sl')) ∧ OwR w' w.heap.size sl' bs ∧ Fr No w w' := by
  obtain ⟨A, c, rfl, hAc, hm, _⟩ := id hv
  have HV := Aside0.mk hv
  clear hv
  go_enter Try.func14, Try.ntmps14
  go_wp2
  obtain ⟨g, hg⟩ : ∃ g, w.heap.size + 1 + 1 = g := ⟨_, rfl⟩
  obtain ⟨r, hr⟩ : ∃ r, w.heap.size + 1 = r := ⟨_, rfl⟩
  have HG := Aside0.mk hg; have HR := Aside0.mk hr
  have FW : Aside0 (Fr No w (((w.alloc (.cells (sgC size cut len (.slice A bs.length c)) 27)).alloc (.cells (sgC 0 0 0 (.slice none 0 0)) 39)).alloc (.cells (sgC size cut len (.slice none 0 0)) 39))) := ⟨(((Fr.refl _ _).alloc _).alloc _).alloc _⟩
  have X1 : Aside0 ((((w.alloc (.cells (sgC size cut len (.slice A bs.length c)) 27)).alloc (.cells (sgC 0 0 0 (.slice none 0 0)) 39)).alloc (.cells (sgC size cut len (.slice none 0 0)) 39)).heap[r]? = some (.cells (sgC 0 0 0 (.slice none 0 0)) 39 (0, 0))) := ⟨by rw [← hr]; exact blk_alloc (heap_alloc2_new w _ _) _⟩
  have X2 : Aside0 ((((w.alloc (.cells (sgC size cut len (.slice A bs.length c)) 27)).alloc (.cells (sgC 0 0 0 (.slice none 0 0)) 39)).alloc (.cells (sgC size cut len (.slice none 0 0)) 39)).heap[g]? = some (.cells (sgC size cut len (.slice none 0 0)) 39 (0, 0))) := ⟨by rw [← hg]; simpa using heap_alloc_new ((w.alloc (.cells (sgC size cut len (.slice A bs.length c)) 27)).alloc (.cells (sgC 0 0 0 (.slice none 0 0)) 39)) (.cells (sgC size cut len (.slice none 0 0)) 39)⟩
  rw [hg, hr]
  change Code.wp _ _ _ _ (((w.alloc (.cells (sgC size cut len (.slice A bs.length c)) 27)).alloc (.cells (sgC 0 0 0 (.slice none 0 0)) 39)).alloc (.cells (sgC size cut len (.slice none 0 0)) 39))
  generalize ((w.alloc (.cells (sgC size cut len (.slice A bs.length c)) 27)).alloc (.cells (sgC 0 0 0 (.slice none 0 0)) 39)).alloc (.cells (sgC size cut len (.slice none 0 0)) 39) = w0 at FW X1 X2 ⊢
  clear hg hr
  go_loopw [16] (fun v16 wr => ∃ (i : Nat) (vi : Value), v16 = .int .i64 (i : Int) ∧ i ≤ bs.length ∧ Aside0 (wr.heap[r]? = some (.cells (sgC 0 0 0 (.slice none 0 0)) 39 (0, 0))) ∧ Aside0 (wr.heap[g]? = some (.cells (sgC size cut len vi) 39 (0, 0))) ∧ Aside0 (OwR wr w.heap.size vi (bs.take i)) ∧ Aside0 (Fr No w wr)) (fun v16 _ => bs.length - (intOf v16).toNat)
  case atStart => exact ⟨0, .slice none 0 0, rfl, Nat.zero_le _, X1, X2, ⟨⟨Ow.nil _ _ _, fun q hq => by cases hq⟩⟩, FW⟩
  case round =>
    obtain ⟨i, vi, rfl, hi, H0, H1, HO, HF⟩ := hrel
    by_cases hil : i < bs.length
    · have hiI : (i : Int) < (bs.length : Int) := by omega
      obtain ⟨b, hb⟩ : ∃ b, bs[i]? = some b := ⟨_, List.getElem?_eq_getElem hil⟩
      obtain ⟨ad, hA, hcv⟩ := rd_at HV.out i b hb
      have LD : ∀ x, Fr No wr x → (loadVar 65 (ad.add (i * 33))).run Try.prog x = .ok (.agg (bkC .u32 b)) x := ld_elem (hcv.no HF.out) Try.underlying65 rfl (by rw [bkL_length]; kernel_rfl)
      have HA := Aside0.mk hA
      have HT : Aside0 (bs.take (i + 1) = bs.take i ++ [b]) := ⟨by rw [List.take_add_one, hb]; rfl⟩
      have hbw := b.hw
      have htl : (bs.take i).length = i := by rw [List.length_take]; omega
      have HTL := Aside0.mk htl
      clear hb hcv hA htl
      go_upto_region 5 with (first
        | (refine lsIx 25 65 33 (.tmp 14) (.tmp 16) ad A bs.length c i _ Try.underlying25 (by kernel_rfl) rfl rfl rfl HA.out rfl rfl hil ?_)
        | (refine ldG (.tmp 18) 65 _ _ rfl rfl (LD _ (Fr.refl _ _)) (by first | rfl | (go_simp; done)) ?_)
        | (refine PB.stRow (.tmp 5) (.tmp 19) 65 wr.heap.size 65 _ (bkC .u32 b) rfl rfl rfl rfl (heap_alloc_new wr _) (by rw [bkC_size]; kernel_rfl) (by rw [bkC_size]; rfl) (bkC_one _ _) ?_; rw [World.setRow_alloc_new]))
      change Code.wp _ _ _ _ (wr.alloc (.cells (bkC .u32 b) 65))
      have XB : Aside0 ((wr.alloc (.cells (bkC .u32 b) 65)).heap[wr.heap.size]? = some (.cells (bkC .u32 b) 65 (0, 0))) := ⟨heap_alloc_new wr _⟩
      have XF : Aside0 (Fr No wr (wr.alloc (.cells (bkC .u32 b) 65))) := ⟨(Fr.refl _ _).alloc _⟩
      generalize wr.alloc (.cells (bkC .u32 b) 65) = wx at XB XF ⊢
      have h1x := XF.out.heap H1.out id
      have y3 : wx.cell? ⟨g, 3, Option.none⟩ = some vi := by rw [blk_cell h1x]; rfl
      have y0 : wx.cell? ⟨wr.heap.size, 0, Option.none⟩ = some (.int .u32 (b.w : Int)) := by rw [blk_cell XB.out]; rfl
      have LS := ld_sum XB.out
      have HX1 := Aside0.mk h1x; have HX0 := Aside0.mk (XF.out.heap H0.out id)
      clear h1x LD
      go_wp2_with (first
        | (refine ldG (.tmp 25) 63 _ _ rfl rfl (LS _ (Fr.refl _ _)) (by first | rfl | (go_simp; done)) ?_)
        | (refine lsX rfl (ex_build (buildR b wx) rfl (by kernel_rfl)) ?_)
        | (refine lsX rfl (ex_buildSlice (oneR b wx) rfl (by kernel_rfl)) ?_)
        | (at_builtin; refine ap1 (f := fBk .i64) rfl (.tmp 21) (.tmp 28) 37 84 (.agg (bkC .i64 zBK)) 40 rfl Try.underlying37 infoR (bkC_size _ _) (by decide) (by decide) vi (bs.take i) b (bkL .i64 b) rfl rfl rfl (HO.out.1.no XF.out) ?c3 ?_; (case c3 => have := HTL.out; omega); intro v1 x3 h1 h2 h3 h4; have J1 := Aside0.mk h1; have J2 := Aside0.mk h2; have J3 := Aside0.mk h3; have J4 := h2.heap HX1.out (fun hb => by obtain ⟨cs', hb'⟩ := (HO.out.1.no XF.out).typed g hb; rw [HX1.out] at hb'; injection hb' with hb'; injection hb' with _ e2; exact absurd e2 (by decide)); have J5 := Aside0.mk J4; have J0 := Aside0.mk (h2.heap HX0.out (fun hb => by obtain ⟨cs', hb'⟩ := (HO.out.1.no XF.out).typed r hb; rw [HX0.out] at hb'; injection hb' with hb'; injection hb' with _ e2; exact absurd e2 (by decide))); have z3 : x3.cell? ⟨g, 3, Option.none⟩ = some vi := (by rw [blk_cell J4]; rfl); have zf : x3.frozen? ⟨g, 3, Option.none⟩ = false := blk_frozen J4 _; have i5 := h1.form; obtain ⟨A1, c1, rfl⟩ := i5; clear h1 h2 h3 h4 J4))
      go_roundw
      case rel =>
        have hl1 : (bs.take i ++ [b]).length = i + 1 := by rw [List.length_append, HTL.out]; rfl
        have J1' := J1.out; have J3' := J3.out
        rw [hl1] at J1' J3'
        have e9 : (bs.take i).length + 1 = i + 1 := by rw [HTL.out]
        have s1 := blk_set J5.out 3 (.slice A1 (i + 1) c1)
        have fs : Fr (one g) x3 (x3.setCell ⟨g, 3, none⟩ (.slice A1 (i + 1) c1)) := fr_one_set _ _ _ _
        have hF3 : Fr No w x3 := (HF.out.none XF.out).trans J2.out (fun q hq hb => absurd (HO.out.2 q hb) (by omega))
        refine ⟨i + 1, .slice A1 (i + 1) c1, by go_num, by omega, ⟨fs.heap J0.out (fun e => by have e' : r = g := e; have := HG.out; have := HR.out; omega)⟩, ⟨by simpa using s1⟩, ⟨⟨?_, fun q hq => ?_⟩⟩, ⟨hF3.setCell (p := ⟨g, 3, none⟩) (.inr (by have := HG.out; show w.heap.size ≤ g; omega)) _⟩⟩
        · rw [HT.out]
          exact J1'.fr fs (fun q hq hb => by
            have e' : q = g := hb
            obtain ⟨cs', hb'⟩ := J1'.typed q hq
            rw [e', J5.out] at hb'
            injection hb' with hb'
            injection hb' with _ e2
            exact absurd e2 (by decide))
        · rcases J3' with h9 | ⟨q', h9, h10⟩
          · rw [hq] at h9; exact HO.out.2 q h9.symm
          · rw [hq] at h9; injection h9 with h9; have := HF.out.size; have := XF.out.size; omega
      case measure => simp [intOf]; omega
    · have hiI : ¬ (i : Int) < (bs.length : Int) := by omega
      have hin : i = bs.length := by omega
      have HOe := HO.out
      rw [hin, List.take_length] at HOe
      have HE := Aside0.mk HOe
      have LD := ld_all (P := Try.prog) (ty := 39) H1.out Try.underlying39 rfl (by kernel_rfl)
      clear HOe
      go_wp2_with (first
        | (refine ldG (.tmp 3) 39 _ _ rfl rfl (LD _ (Fr.refl _ _)) (by first | rfl | (go_simp; done)) ?_)
        | (refine PB.stRow (.tmp 2) (.tmp 32) 39 r 39 _ (sgC size cut len vi) rfl rfl rfl rfl H0.out (by kernel_rfl) rfl (by obtain ⟨A1, c1, rfl⟩ := HO.out.1.form; simp [Value.oneCell']) ?_))
      (try simp only [Exit.inBlock, Exit.then]); refine bodyPost_ret (results_single (r := .cell 2 39) rfl (.cell r 39 (sgC size cut len vi) (0, 0) _ rfl (setRow_heap _ _ _ _ _ _ H0.out) Try.underlying39 rfl (by kernel_rfl) .nil)) rfl ?_
      refine ⟨vi, rfl, ⟨HE.out.1.fr (fr_one_row _ _ _) (fun q hq hb => by
        have e' : q = r := hb
        obtain ⟨cs', hb'⟩ := HE.out.1.typed q hq
        rw [e', H0.out] at hb'
        injection hb' with hb'
        injection hb' with _ e2
        exact absurd e2 (by decide)), HE.out.2⟩, fr_setRow HF.out (.inr (by have := HR.out; omega)) _⟩
end Go.Proofs.Ytebgkmfecmlanaa.L7
namespace Go.Proofs.Ytebgkmfecmlanaa.L7
open Go.RowKit Go.IntWalk Go.Proofs.YtebgkmfecmlanaaW.PrintWords Go.Proofs.Ytebgkmfecmlanaa.B Go.Proofs.Ytebgkmfecmlanaa.PB Go.Proofs.Ytebgkmfecmlanaa.SWeak Go.Proofs.Ytebgkmfecmlanaa.Bk Go.Proofs.Ytebgkmfecmlanaa.SBlk Go.Proofs.Ytebgkmfecmlanaa.Blk Go.Proofs.Ytebgkmfecmlanaa.STell Go.Proofs.Ytebgkmfecmlanaa.Tk Go.Proofs.Ytebgkmfecmlanaa.L6

theorem dmake_calls (size cut len : Int) (sl vd : Value) (bs : List BK) (d : List UInt8) (w : World) (hv : Rd (fBk .u32) w sl bs) (hd : RdB w vd d) (hl : d.length ≤ 8192) (hsz : size ≤ 9223372036854775807) (hln : len ≤ 9223372036854775807) :
    Calls Try.prog 12 #[.agg (sgC size cut len sl), vd] w fun e w' => ∃ vo, e = .returned (.tuple #[vo, .int .i64 (chkE size cut len bs)]) ∧ Tl w' w.heap.size vo (tellR size cut len bs d) ∧ Fr No w w' := by
  by_cases h : chkE size cut len bs = 0
  · obtain ⟨s, c, L, rfl, rfl, rfl, h1, h2, h3, h4, h5, h6⟩ := chk_ok h
    unfold tellR
    rw [if_pos h, h, Int.toNat_natCast, Int.toNat_natCast]
    exact dmake_ok s c L sl vd bs d w hv hd hl h h1 h2 h3 (by omega) h5 h6
  · unfold tellR
    rw [if_neg h]
    refine (dmake_bad size cut len sl bs vd w hv hsz hln h).mono ?_
    rintro e w' ⟨rfl, h1⟩
    exact ⟨_, rfl, Tl.nil _ _, h1⟩
theorem rmake_calls (size cut len : Int) (sl : Value) (bs : List BK) (d : List UInt8) (w : World) (hv : Rd (fBk .i64) w sl bs) (hl : d.length ≤ 8192) (hsz : size ≤ 9223372036854775807) (hln : len ≤ 9223372036854775807) :
    Calls Try.prog 13 #[.agg (sgC size cut len sl), .string (bstr d)] w fun e w' => ∃ vo, e = .returned (.tuple #[vo, .int .i64 (chkE size cut len bs)]) ∧ Ow fD 82 w' vo (tellR size cut len bs d) ∧ Fr No w w' := by
  by_cases h : chkE size cut len bs = 0
  · obtain ⟨s, c, L, rfl, rfl, rfl, h1, h2, h3, h4, h5, h6⟩ := chk_ok h
    unfold tellR
    rw [if_pos h, h, Int.toNat_natCast, Int.toNat_natCast]
    exact rmake_ok s c L sl bs d w hv hl h h1 h2 h3 (by omega) h5 h6
  · unfold tellR
    rw [if_neg h]
    refine (rmake_bad size cut len sl bs d w hv hsz hln h).mono ?_
    rintro e w' ⟨rfl, h1⟩
    exact ⟨_, rfl, Ow.nil _ _ _, h1⟩
theorem tellR_length (size cut len : Int) (bs : List BK) (d : List UInt8) : (tellR size cut len bs d).length ≤ d.length := by
  unfold tellR
  split
  · rename_i h
    obtain ⟨s, c, L, rfl, rfl, rfl, h1, _⟩ := chk_ok h
    have := tell_length (s := s) (by omega) (fB s (L : Int).toNat c bs) d []
    simpa using this
  · exact Nat.zero_le _

def d4 : List UInt8 := [97, 98, 99, 100]
theorem sums_ne {c : Int} {a b : List UInt8} (h : weak a ≠ weak b) : sums c a ≠ sums c b := fun e => h (congrArg BK.w e)
theorem tell4 : tellR 2 32 4 (blocks 2 32 d4 2) [120, 99, 100] = [(0, 0, [120]), (1, 1, [])] := by
  have e : blocks 2 32 d4 2 = [sums 32 [97, 98], sums 32 [99, 100]] := rfl
  have h1 : fB 2 4 32 (blocks 2 32 d4 2) (([120, 99, 100] : List UInt8).take 2) = none := by
    rw [e]
    unfold fB
    show findL (hit 2 4 (sums 32 [120, 99]) 2) 0 _ = none
    rw [findL, if_neg (by unfold hit; rw [decide_eq_false (sums_ne (by decide))]; simp), findL, if_neg (by unfold hit; rw [decide_eq_false (sums_ne (by decide))]; simp)]
    rfl
  have h2 : fB 2 4 32 (blocks 2 32 d4 2) (([99, 100] : List UInt8).take 2) = some 1 := by
    rw [e]
    unfold fB
    show findL (hit 2 4 (sums 32 [99, 100]) 2) 0 _ = some 1
    rw [findL, if_neg (by unfold hit; rw [decide_eq_false (sums_ne (by decide))]; simp), findL, if_pos (by unfold hit; simp)]
  have hc : chkE 2 32 4 (blocks 2 32 d4 2) = 0 := chk_made (d := d4) (size := 2) (cut := 32) (by decide)
  unfold tellR
  rw [if_pos hc]
  show tell 2 (fB 2 4 32 (blocks 2 32 d4 2)) [120, 99, 100] [] = _
  rw [tell_miss [] h1, tell_hit _ (by decide) (by simp) h2]
  rfl
theorem dmake4 (sl vd : Value) (w : World) (hv : Rd (fBk .u32) w sl (blocks 2 32 d4 2)) (hd : RdB w vd [120, 99, 100]) :
    Calls Try.prog 12 #[.agg (sgC 2 32 4 sl), vd] w fun e w' => ∃ g cc A0 c0 A1 c1, e = .returned (.tuple #[.slice (some ⟨g, 0, none⟩) 2 cc, .int .i64 0]) ∧ Tks w' w.heap.size (.slice (some ⟨g, 0, none⟩) 2 cc) [⟨0, 0, A0, c0, [120]⟩, ⟨1, 1, A1, c1, []⟩] ∧ Fr No w w' := by
  have h := dmake_calls 2 32 4 sl vd _ _ w hv hd (by decide) (by decide) (by decide)
  rw [tell4, show chkE 2 32 4 (blocks 2 32 d4 2) = 0 from chk_made (d := d4) (size := 2) (cut := 32) (by decide)] at h
  refine h.mono ?_
  rintro e w' ⟨vo, rfl, ⟨fs, hT, hfs⟩, hf⟩
  obtain ⟨e0, e1, rfl⟩ : ∃ e0 e1, fs = [e0, e1] := by
    rcases fs with _ | ⟨e0, _ | ⟨e1, _ | ⟨e2, fs⟩⟩⟩
    · simp at hfs
    · simp at hfs
    · exact ⟨_, _, rfl⟩
    · simp at hfs
  obtain ⟨f0, k0, A0, c0, x0⟩ := e0
  obtain ⟨f1, k1, A1, c1, x1⟩ := e1
  simp [TV.tok] at hfs
  obtain ⟨⟨rfl, rfl, rfl⟩, rfl, rfl, rfl⟩ := hfs
  obtain ⟨g, cc, rfl, _⟩ := hT.row.at_ (by simp)
  exact ⟨g, cc, A0, c0, A1, c1, rfl, hT, hf⟩
theorem make4 (v : Value) (w : World) (hv : RdB w v d4) : Calls Try.prog 11 #[v, .int .i64 2, .int .i64 32] w fun e w' =>
    ∃ A c, e = .returned (.tuple #[.agg (sgC 2 32 4 (.slice A 2 c)), .int .i64 0]) ∧ OwS w' w.heap.size (.slice A 2 c) (blocks 2 32 d4 2) ∧ Fr No w w' := by
  refine (make_ok v d4 2 32 w hv (by decide) (by decide) (by decide)).mono ?_
  rintro e w' ⟨sl, rfl, h3, h4⟩
  have h5 : OwS w' w.heap.size sl (blocks 2 32 d4 2) := h3
  obtain ⟨A, c, rfl⟩ := h5.1.form
  exact ⟨A, c, rfl, h5, h4⟩

set_option maxHeartbeats 4000000 in
set_option maxRecDepth 100000 in
theorem tells_calls (w : World) : Calls Try.prog 10 #[] w fun e w' => e = .returned (.bool true) ∧ Fr No w w' := by
  have h1 := fun W : World => Lib.run_convert_bytes_const (P := Try.prog) W 22 5 #[.int .u8 97, .int .u8 98, .int .u8 99, .int .u8 100] 4 4 Try.underlying22 Try.underlying5
  have h2 := fun W : World => Lib.run_convert_bytes_const (P := Try.prog) W 22 5 #[.int .u8 120, .int .u8 99, .int .u8 100] 3 3 Try.underlying22 Try.underlying5
  go_enter Try.func10, Try.ntmps10
  go_wp2_with fail
  refine (make4 _ _ (rdB_lit w d4 _ _ (by decide))).mono ?_
  rintro e w1 ⟨A, c, rfl, hO, hf⟩
  have F1 : Aside0 (Fr No w w1) := ⟨((Fr.refl _ _).alloc _).none hf⟩
  have HO := Aside0.mk hO
  clear hf hO h1
  go_upto_region 2 with fail
  have XS : Aside0 ((w1.alloc (.cells (sgC 2 32 4 (.slice A 2 c)) 27)).heap[w1.heap.size]? = some (.cells (sgC 2 32 4 (.slice A 2 c)) 27 (0, 0))) := ⟨heap_alloc_new w1 _⟩
  have F2 : Aside0 (Fr No w (w1.alloc (.cells (sgC 2 32 4 (.slice A 2 c)) 27))) := ⟨F1.out.alloc _⟩
  have HR : Aside0 (Rd (fBk .u32) (w1.alloc (.cells (sgC 2 32 4 (.slice A 2 c)) 27)) (.slice A 2 c) (blocks 2 32 d4 2)) := ⟨HO.out.1.rd.no ((Fr.refl _ _).alloc _)⟩
  change Code.wp _ _ _ _ (w1.alloc (.cells (sgC 2 32 4 (.slice A 2 c)) 27))
  generalize w1.alloc (.cells (sgC 2 32 4 (.slice A 2 c)) 27) = w2 at XS F2 HR ⊢
  have LD := ld_all (P := Try.prog) (ty := 27) XS.out Try.underlying27 rfl (by kernel_rfl)
  go_wp2_with (first
    | (refine ldG (.tmp 1) 27 _ _ rfl rfl (LD _ (Fr.refl _ _)) (by first | rfl | (go_simp; done)) ?_)
    | fail)
  refine (dmake4 _ _ _ (HR.out.no ((Fr.refl _ _).alloc _)) (rdB_lit w2 [120, 99, 100] _ _ (by decide))).mono ?_
  rintro e w3 ⟨g, cc, A0, c0, A1, c1, rfl, hT, hf⟩
  have F3 : Aside0 (Fr No w w3) := ⟨(F2.out.alloc _).none hf⟩
  obtain ⟨A', c', he', _, _, hc⟩ := hT.row.rd
  injection he' with e4 _ e5
  subst e4
  subst e5
  obtain ⟨ad, had, hcell⟩ := hc (by simp)
  injection had with had
  subst had
  have k2 : w3.cell? ⟨g, 2, Option.none⟩ = some (.slice A0 1 c0) := hcell 2 _ rfl
  have k3 : w3.cell? ⟨g, 3, Option.none⟩ = some (.int .i64 1) := hcell 3 _ rfl
  have k4 : w3.cell? ⟨g, 4, Option.none⟩ = some (.int .i64 1) := hcell 4 _ rfl
  have q1 : (convert 22 9 (.slice A0 1 c0)).run Try.prog w3 = .ok (.string (bstr [120])) w3 := str_of_rd (hT.own (⟨0, 0, A0, c0, [120]⟩ : TV) (by simp)).1.rd
  clear hf hT hc hcell LD h2
  go_wp2_with fail
  go_ret
  exact ⟨rfl, F3.out⟩
end Go.Proofs.Ytebgkmfecmlanaa.L7
