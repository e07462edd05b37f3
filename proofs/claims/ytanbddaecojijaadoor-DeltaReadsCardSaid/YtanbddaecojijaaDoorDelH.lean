/- The statement's plain of chapter 06: the program's sums as the document's: walked. delta.Make and the document's, whatever the sums; the statements' head of chapter 07: walked. -/
import Derived.Test.YtanbddaecojijaaDoorIx
import Derived.Test.YtanbddaecojijaaDoorDelM
import Derived.Test.YtanbddaecojijaaDoorSums6
import Derived.Lib.SlBytesConst
set_option linter.unusedVariables false
set_option linter.unusedSimpArgs false
namespace Go.Proofs.YtanbddaecojijaaDoor.L7
open Go.RowKit Go.IntWalk Go.Proofs.YtanbddaecojijaaDoorW.PrintWords Go.Proofs.YtanbddaecojijaaDoor.B Go.Proofs.YtanbddaecojijaaDoor.PB Go.Proofs.YtanbddaecojijaaDoor.SWeak Go.Proofs.YtanbddaecojijaaDoor.Bk Go.Proofs.YtanbddaecojijaaDoor.SBlk Go.Proofs.YtanbddaecojijaaDoor.Blk
attribute [local go_sem] B.max2_int B.min2_int B.max_two B.min_two

theorem ld_sum {w : World} {g : Nat} {t : TypeId} {fz : Nat × Nat} {k : IntKind} {b : BK} (h : w.heap[g]? = some (.cells (bkC k b) t fz)) : ∀ x, Fr No w x → (loadVar 57 ⟨g, 1, none⟩).run Tryd.prog x = .ok (Arr.av b.st) x := fun x hx => by
  have hc : Cv x ⟨g, 1, none⟩ (b.st.map vu8) := by
    have := Cv.of_block (hx.heap h id) 1
    have e : (bkC k b).toList.drop 1 = b.st.map vu8 := by simp [bkC, bkL]
    rw [e] at this
    exact this
  exact run_loadVar_cells hc Tryd.underlying57 rfl (by rw [List.length_map, b.h]; kernel_rfl)

end Go.Proofs.YtanbddaecojijaaDoor.L7
namespace Go.Proofs.YtanbddaecojijaaDoor.L7
open Go.RowKit Go.IntWalk Go.Proofs.YtanbddaecojijaaDoorW.PrintWords Go.Proofs.YtanbddaecojijaaDoor.B Go.Proofs.YtanbddaecojijaaDoor.PB Go.Proofs.YtanbddaecojijaaDoor.SWeak Go.Proofs.YtanbddaecojijaaDoor.Bk Go.Proofs.YtanbddaecojijaaDoor.SBlk Go.Proofs.YtanbddaecojijaaDoor.Blk Go.Proofs.YtanbddaecojijaaDoor.STell Go.Proofs.YtanbddaecojijaaDoor.Tk Go.Proofs.YtanbddaecojijaaDoor.L6

theorem dmake_calls (size cut len : Int) (sl vd : Value) (bs : List BK) (d : List UInt8) (w : World) (hv : Rd (fBk .u32) w sl bs) (hd : RdB w vd d) (hl : d.length ≤ 8192) (hsz : size ≤ 9223372036854775807) (hln : len ≤ 9223372036854775807) :
    Calls Tryd.prog 47 #[.agg (sgC size cut len sl), vd] w fun e w' => ∃ vo, e = .returned (.tuple #[vo, .int .i64 (chkE size cut len bs)]) ∧ Tl w' w.heap.size vo (tellR size cut len bs d) ∧ Fr No w w' := by
  by_cases h : chkE size cut len bs = 0
  · obtain ⟨s, c, L, rfl, rfl, rfl, h1, h2, h3, h4, h5, h6⟩ := chk_ok h
    unfold tellR
    rw [if_pos h, h, Int.toNat_natCast, Int.toNat_natCast]
    exact dmake_ok s c L sl vd bs d w hv hd hl h h1 h2 h3 (by omega) h5 h6
  · unfold tellR
    rw [if_neg h]
    refine (dmake_bad size cut len sl bs vd w hv hsz hln h).mono ?_
    rintro e w' ⟨rfl, h1⟩
    exact ⟨_, rfl, Tl.nil _ _, h1⟩
/-- .. of longer files, where what is told is short. -/
theorem dmake_wide (size cut len : Int) (sl vd : Value) (bs : List BK) (d : List UInt8) (w : World) (hv : Rd (fBk .u32) w sl bs) (hd : RdB w vd d) (hl : d.length ≤ 100000) (hT : (tellR size cut len bs d).length ≤ 8192) (hsz : size ≤ 9223372036854775807) (hln : len ≤ 9223372036854775807) :
    Calls Tryd.prog 47 #[.agg (sgC size cut len sl), vd] w fun e w' => ∃ vo, e = .returned (.tuple #[vo, .int .i64 (chkE size cut len bs)]) ∧ Tl w' w.heap.size vo (tellR size cut len bs d) ∧ Fr No w w' := by
  by_cases h : chkE size cut len bs = 0
  · obtain ⟨s, c, L, rfl, rfl, rfl, h1, h2, h3, h4, h5, h6⟩ := chk_ok h
    unfold tellR at hT ⊢
    rw [if_pos h, Int.toNat_natCast, Int.toNat_natCast] at hT
    rw [if_pos h, h, Int.toNat_natCast, Int.toNat_natCast]
    exact dmake_big s c L sl vd bs d w hv hd hl hT h h1 h2 h3 (by omega) h5 h6
  · unfold tellR
    rw [if_neg h]
    refine (dmake_bad size cut len sl bs vd w hv hsz hln h).mono ?_
    rintro e w' ⟨rfl, h1⟩
    exact ⟨_, rfl, Tl.nil _ _, h1⟩
theorem tellR_length (size cut len : Int) (bs : List BK) (d : List UInt8) : (tellR size cut len bs d).length ≤ d.length := by
  unfold tellR
  split
  · rename_i h
    obtain ⟨s, c, L, rfl, rfl, rfl, h1, _⟩ := chk_ok h
    have := tell_length (s := s) (by omega) (fB s (L : Int).toNat c bs) d []
    simpa using this
  · exact Nat.zero_le _

def d4 : List UInt8 := [97, 98, 99, 100]
theorem sums_ne {c : Int} {a b : List UInt8} (h : weak a ≠ weak b) : sums c a ≠ sums c b := fun e => h (congrArg BK.w e)
theorem tell4 : tellR 2 32 4 (blocks 2 32 d4 2) [120, 99, 100] = [(0, 0, [120]), (1, 1, [])] := by
  have e : blocks 2 32 d4 2 = [sums 32 [97, 98], sums 32 [99, 100]] := rfl
  have h1 : fB 2 4 32 (blocks 2 32 d4 2) (([120, 99, 100] : List UInt8).take 2) = none := by
    rw [e]
    unfold fB
    show findL (hit 2 4 (sums 32 [120, 99]) 2) 0 _ = none
    rw [findL, if_neg (by unfold hit; rw [decide_eq_false (sums_ne (by decide))]; simp), findL, if_neg (by unfold hit; rw [decide_eq_false (sums_ne (by decide))]; simp)]
    rfl
  have h2 : fB 2 4 32 (blocks 2 32 d4 2) (([99, 100] : List UInt8).take 2) = some 1 := by
    rw [e]
    unfold fB
    show findL (hit 2 4 (sums 32 [99, 100]) 2) 0 _ = some 1
    rw [findL, if_neg (by unfold hit; rw [decide_eq_false (sums_ne (by decide))]; simp), findL, if_pos (by unfold hit; simp)]
  have hc : chkE 2 32 4 (blocks 2 32 d4 2) = 0 := chk_made (d := d4) (size := 2) (cut := 32) (by decide)
  unfold tellR
  rw [if_pos hc]
  show tell 2 (fB 2 4 32 (blocks 2 32 d4 2)) [120, 99, 100] [] = _
  rw [tell_miss [] h1, tell_hit _ (by decide) (by simp) h2]
  rfl
theorem dmake4 (sl vd : Value) (w : World) (hv : Rd (fBk .u32) w sl (blocks 2 32 d4 2)) (hd : RdB w vd [120, 99, 100]) :
    Calls Tryd.prog 47 #[.agg (sgC 2 32 4 sl), vd] w fun e w' => ∃ g cc A0 c0 A1 c1, e = .returned (.tuple #[.slice (some ⟨g, 0, none⟩) 2 cc, .int .i64 0]) ∧ Tks w' w.heap.size (.slice (some ⟨g, 0, none⟩) 2 cc) [⟨0, 0, A0, c0, [120]⟩, ⟨1, 1, A1, c1, []⟩] ∧ Fr No w w' := by
  have h := dmake_calls 2 32 4 sl vd _ _ w hv hd (by decide) (by decide) (by decide)
  rw [tell4, show chkE 2 32 4 (blocks 2 32 d4 2) = 0 from chk_made (d := d4) (size := 2) (cut := 32) (by decide)] at h
  refine h.mono ?_
  rintro e w' ⟨vo, rfl, ⟨fs, hT, hfs⟩, hf⟩
  obtain ⟨e0, e1, rfl⟩ : ∃ e0 e1, fs = [e0, e1] := by
    rcases fs with _ | ⟨e0, _ | ⟨e1, _ | ⟨e2, fs⟩⟩⟩
    · simp at hfs
    · simp at hfs
    · exact ⟨_, _, rfl⟩
    · simp at hfs
  obtain ⟨f0, k0, A0, c0, x0⟩ := e0
  obtain ⟨f1, k1, A1, c1, x1⟩ := e1
  simp [TV.tok] at hfs
  obtain ⟨⟨rfl, rfl, rfl⟩, rfl, rfl, rfl⟩ := hfs
  obtain ⟨g, cc, rfl, _⟩ := hT.row.at_ (by simp)
  exact ⟨g, cc, A0, c0, A1, c1, rfl, hT, hf⟩
theorem make4 (v : Value) (w : World) (hv : RdB w v d4) : Calls Tryd.prog 27 #[v, .int .i64 2, .int .i64 32] w fun e w' =>
    ∃ A c, e = .returned (.tuple #[.agg (sgC 2 32 4 (.slice A 2 c)), .int .i64 0]) ∧ OwS w' w.heap.size (.slice A 2 c) (blocks 2 32 d4 2) ∧ Fr No w w' := by
  refine (make_ok v d4 2 32 w hv (by decide) (by decide) (by decide)).mono ?_
  rintro e w' ⟨sl, rfl, h3, h4⟩
  have h5 : OwS w' w.heap.size sl (blocks 2 32 d4 2) := h3
  obtain ⟨A, c, rfl⟩ := h5.1.form
  exact ⟨A, c, rfl, h5, h4⟩

set_option maxHeartbeats 4000000 in
set_option maxRecDepth 100000 in
theorem tells_calls (w : World) : Calls Tryd.prog 15 #[] w fun e w' => e = .returned (.bool true) ∧ Fr No w w' := by
  have h1 := fun W : World => Lib.run_convert_bytes_const (P := Tryd.prog) W 22 5 #[.int .u8 97, .int .u8 98, .int .u8 99, .int .u8 100] 4 4 Tryd.underlying22 Tryd.underlying5
  have h2 := fun W : World => Lib.run_convert_bytes_const (P := Tryd.prog) W 22 5 #[.int .u8 120, .int .u8 99, .int .u8 100] 3 3 Tryd.underlying22 Tryd.underlying5
  go_enter Tryd.func15, Tryd.ntmps15
  go_wp2_with fail
  refine (make4 _ _ (rdB_lit w d4 _ _ (by decide))).mono ?_
  rintro e w1 ⟨A, c, rfl, hO, hf⟩
  have F1 : Aside0 (Fr No w w1) := ⟨((Fr.refl _ _).alloc _).none hf⟩
  have HO := Aside0.mk hO
  clear hf hO h1
  go_upto_region 2 with fail
  have XS : Aside0 ((w1.alloc (.cells (sgC 2 32 4 (.slice A 2 c)) 26)).heap[w1.heap.size]? = some (.cells (sgC 2 32 4 (.slice A 2 c)) 26 (0, 0))) := ⟨heap_alloc_new w1 _⟩
  have F2 : Aside0 (Fr No w (w1.alloc (.cells (sgC 2 32 4 (.slice A 2 c)) 26))) := ⟨F1.out.alloc _⟩
  have HR : Aside0 (Rd (fBk .u32) (w1.alloc (.cells (sgC 2 32 4 (.slice A 2 c)) 26)) (.slice A 2 c) (blocks 2 32 d4 2)) := ⟨HO.out.1.rd.no ((Fr.refl _ _).alloc _)⟩
  change Code.wp _ _ _ _ (w1.alloc (.cells (sgC 2 32 4 (.slice A 2 c)) 26))
  generalize w1.alloc (.cells (sgC 2 32 4 (.slice A 2 c)) 26) = w2 at XS F2 HR ⊢
  have LD := ld_all (P := Tryd.prog) (ty := 26) XS.out Tryd.underlying26 rfl (by kernel_rfl)
  go_wp2_with (first
    | (refine ldG (.tmp 1) 26 _ _ rfl rfl (LD _ (Fr.refl _ _)) (by first | rfl | (go_simp; done)) ?_)
    | fail)
  refine (dmake4 _ _ _ (HR.out.no ((Fr.refl _ _).alloc _)) (rdB_lit w2 [120, 99, 100] _ _ (by decide))).mono ?_
  rintro e w3 ⟨g, cc, A0, c0, A1, c1, rfl, hT, hf⟩
  have F3 : Aside0 (Fr No w w3) := ⟨(F2.out.alloc _).none hf⟩
  obtain ⟨A', c', he', _, _, hc⟩ := hT.row.rd
  injection he' with e4 _ e5
  subst e4
  subst e5
  obtain ⟨ad, had, hcell⟩ := hc (by simp)
  injection had with had
  subst had
  have k2 : w3.cell? ⟨g, 2, Option.none⟩ = some (.slice A0 1 c0) := hcell 2 _ rfl
  have k3 : w3.cell? ⟨g, 3, Option.none⟩ = some (.int .i64 1) := hcell 3 _ rfl
  have k4 : w3.cell? ⟨g, 4, Option.none⟩ = some (.int .i64 1) := hcell 4 _ rfl
  have q1 : (convert 22 9 (.slice A0 1 c0)).run Tryd.prog w3 = .ok (.string (bstr [120])) w3 := str_of_rd (hT.own (⟨0, 0, A0, c0, [120]⟩ : TV) (by simp)).1.rd
  clear hf hT hc hcell LD h2
  go_wp2_with fail
  go_ret
  exact ⟨rfl, F3.out⟩
end Go.Proofs.YtanbddaecojijaaDoor.L7
