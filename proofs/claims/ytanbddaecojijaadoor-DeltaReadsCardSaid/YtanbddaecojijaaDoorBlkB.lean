/- Signature.Bytes: walked. -/
import Derived.Test.YtanbddaecojijaaDoorSpecLaw6
import Derived.Test.YtanbddaecojijaaDoorChk
import Derived.Test.YtanbddaecojijaaDoorCodeN
set_option linter.unusedVariables false
set_option linter.unusedSimpArgs false
namespace Go.Proofs.YtanbddaecojijaaDoor.Blk
open Go.RowKit Go.IntWalk Go.Proofs.YtanbddaecojijaaDoorW.PrintWords Go.Proofs.YtanbddaecojijaaDoor.B Go.Proofs.YtanbddaecojijaaDoor.PB Go.Proofs.YtanbddaecojijaaDoor.SWeak Go.Proofs.YtanbddaecojijaaDoor.Bk Go.Proofs.YtanbddaecojijaaDoor.SBlk Go.Proofs.YtanbddaecojijaaDoor.SCode

/-- A row of bytes that was begun behind w0, which stays as it was. -/
structure On (w0 w : World) (v : Value) (xs : List UInt8) : Prop where
  own : OwB w v xs
  new : ∀ q, v.ownBlock = some q → w0.heap.size ≤ q
  fr : Fr No w0 w
theorem On.nil {w0 w : World} (h : Fr No w0 w) : On w0 w (.slice none 0 0) [] := ⟨Ow.nil _ _ _, fun q hq => (by cases hq), h⟩
theorem On.no {w0 w w' : World} {v : Value} {xs : List UInt8} (h : On w0 w v xs) (k : Fr No w w') : On w0 w' v xs := ⟨h.own.no k, h.new, h.fr.none k⟩
theorem On.step {w0 w w' : World} {v v' : Value} {xs ys : List UInt8} (h : On w0 w v xs) (ho : OwB w' v' ys) (k : Fr (blk v) w w') (ha : At w v v') : On w0 w' v' ys :=
  ⟨ho, fun q hq => by
    rcases ha with h9 | ⟨q', h9, h10⟩
    · exact h.new q (h9 ▸ hq)
    · rw [hq] at h9; injection h9 with h9; have := h.fr.size; omega, h.fr.trans k (fun q hq hb => absurd (h.new q hb) (by omega))⟩
theorem On.back {w0 w1 w : World} {v : Value} {xs : List UInt8} (h : On w1 w v xs) (k : Fr No w0 w1) : On w0 w v xs := ⟨h.own, fun q hq => by have := h.new q hq; have := k.size; omega, k.none h.fr⟩
/-- A part of a block's strong sum. -/
theorem rd_st {w : World} {g : Nat} {t : TypeId} {k : IntKind} {b : BK} (h : w.heap[g]? = some (.cells (bkC k b) t (0, 0))) (d : Nat) (hd : d ≤ 32) : RdB w (.slice (some ⟨g, 1, none⟩) d 32) (b.st.take d) := by
  have hl : (b.st.take d).length = d := by rw [List.length_take, b.h]; omega
  refine ⟨_, 32, by rw [hl], by omega, by decide, fun _ => ⟨_, rfl, fun i u hu => ?_⟩⟩
  rw [u8_cells, List.getElem?_map, List.getElem?_take] at hu
  split at hu
  · rw [show (⟨g, 1, none⟩ : Addr).add i = ⟨g, 1 + i, none⟩ from by simp [Addr.add], blk_cell h, show 1 + i = i + 1 by omega]
    simp only [bkC, bkL, List.getElem?_toArray, List.getElem?_cons_succ, List.getElem?_map]
    exact hu
  · cases hu

set_option maxRecDepth 100000 in
theorem slice_st (g d : Nat) (hd : d ≤ 32) (W : World) : (Instr.sliceAt 57 (.pointer (some ⟨g, 1, none⟩)) none (some (.int .i64 (d : Int))) none).run Tryd.prog W = .ok (.slice (some ⟨g, 1, none⟩) d 32) W := by
  have hl : Tryd.prog.arrayLen 57 = 32 := by kernel_rfl
  have h1 := run_sliceAt_array_h (P := Tryd.prog) W 57 ⟨g, 1, none⟩ (by kernel_rfl) .i64 (d : Int) (by omega) (by rw [hl]; omega)
  have h2 : ∀ W : World, (sizeOf (Tryd.prog.elem 57)).run Tryd.prog W = .ok 1 W := fun W => by kernel_rfl
  rw [h1, h2, hl]
  simp [Result.andThen, slicedAt]
  rfl
set_option maxHeartbeats 4000000 in
set_option maxRecDepth 100000 in
theorem bytes_bad (size cut len : Int) (sl : Value) (bs : List BK) (w : World) (hv : Rd (fBk .u32) w sl bs) (hsz : size ≤ 9223372036854775807) (hln : len ≤ 9223372036854775807) (hE : chkE size cut len bs ≠ 0) :
    Calls Tryd.prog 14 #[.agg (sgC size cut len sl)] w fun e w' => e = .returned (.tuple #[.slice none 0 0, .int .i64 (chkE size cut len bs)]) ∧ Fr No w w' := by
  obtain ⟨A, c, rfl, hAc, hm, _⟩ := id hv
  obtain ⟨E, hEE⟩ : ∃ E, chkE size cut len bs = E := ⟨_, rfl⟩
  have hck := fun W hW => check_calls size cut len (.slice A bs.length c) bs W hW hsz hln
  rw [hEE] at hE hck ⊢
  have hE0 : (E == 0) = false := by rw [beq_eq_false_iff_ne]; exact hE
  have HV := Aside0.mk hv; have HCK := Aside0.mk hck
  clear hv hck hEE
  go_enter Tryd.func14, Tryd.ntmps14
  go_upto_region 1 with fail
  have hb := heap_alloc_new w (.cells (sgC size cut len (.slice A bs.length c)) 26)
  have F1 : Aside0 (Fr No w (w.alloc (.cells (sgC size cut len (.slice A bs.length c)) 26))) := ⟨(Fr.refl _ _).alloc _⟩
  change Code.wp _ _ _ _ (w.alloc (.cells (sgC size cut len (.slice A bs.length c)) 26))
  generalize w.alloc (.cells (sgC size cut len (.slice A bs.length c)) 26) = w1 at hb F1 ⊢
  have LD := ld_all (P := Tryd.prog) (ty := 26) hb Tryd.underlying26 rfl (by kernel_rfl)
  go_wp2_with (first
    | (refine ldG (.tmp 1) 26 _ _ rfl rfl (LD _ (Fr.refl _ _)) (by first | rfl | (go_simp; done)) ?_)
    | fail)
  refine (HCK.out w1 (HV.out.no F1.out)).mono ?_
  rintro e w2 ⟨rfl, hf⟩
  have F2 : Aside0 (Fr No w w2) := ⟨F1.out.none hf⟩
  clear hf LD hb
  go_wp2
  (try simp only [Exit.inBlock, Exit.then]); refine bodyPost_ret (results_list (rs := [.tmp 2, .tmp 3]) rfl (by simp) (.tmp (.tmp .nil))) rfl ?_
  exact ⟨rfl, F2.out⟩

set_option maxHeartbeats 4000000 in
set_option maxRecDepth 100000 in
theorem bytes_ok (size : Int) (d : Nat) (len : Int) (sl : Value) (bs : List BK) (w : World) (hv : Rd (fBk .u32) w sl bs) (hsz : size ≤ 9223372036854775807) (hln : len ≤ 9223372036854775807) (hd : d ≤ 32) (hn : bs.length ≤ 4096) (hE : chkE size d len bs = 0) :
    Calls Tryd.prog 14 #[.agg (sgC size d len sl)] w fun e w' => ∃ v, e = .returned (.tuple #[v, .int .i64 0]) ∧ On w w' v (sgB size d len bs) := by
  obtain ⟨A, c, rfl, hAc, hm, _⟩ := id hv
  have hck := fun W hW => check_calls size d len (.slice A bs.length c) bs W hW hsz hln
  rw [hE] at hck
  have HV := Aside0.mk hv; have HCK := Aside0.mk hck
  clear hv hck hE
  obtain ⟨pre, hpre⟩ : ∃ pre, (numI size ++ numI d) ++ numI len = pre := ⟨_, rfl⟩
  have hprel : pre.length ≤ 18 := by
    have h1 := numI_length size; have h2 := numI_length d; have h3 := numI_length len
    rw [← hpre]
    simp only [List.length_append]
    omega
  have hall : Aside0 (sgB size d len bs = pre ++ rowsB d bs) := ⟨by unfold sgB; rw [hpre, Int.toNat_natCast]⟩
  rw [hall.out]
  have HPRE := Aside0.mk hpre
  clear hpre hall
  go_enter Tryd.func14, Tryd.ntmps14
  go_upto_region 1 with fail
  have hb := heap_alloc_new w (.cells (sgC size d len (.slice A bs.length c)) 26)
  have F1 : Aside0 (Fr No w (w.alloc (.cells (sgC size d len (.slice A bs.length c)) 26))) := ⟨(Fr.refl _ _).alloc _⟩
  change Code.wp _ _ _ _ (w.alloc (.cells (sgC size d len (.slice A bs.length c)) 26))
  generalize w.alloc (.cells (sgC size d len (.slice A bs.length c)) 26) = w1 at hb F1 ⊢
  have LD := ld_all (P := Tryd.prog) (ty := 26) hb Tryd.underlying26 rfl (by kernel_rfl)
  go_wp2_with (first
    | (refine ldG (.tmp 1) 26 _ _ rfl rfl (LD _ (Fr.refl _ _)) (by first | rfl | (go_simp; done)) ?_)
    | fail)
  refine (HCK.out w1 (HV.out.no F1.out)).mono ?_
  rintro e w2 ⟨rfl, hf⟩
  have F2 : Aside0 (Fr No w w2) := ⟨F1.out.none hf⟩
  have HS2 : Aside0 (w2.heap[w.heap.size]? = some (.cells (sgC size d len (.slice A bs.length c)) 26 (0, 0))) := ⟨hf.heap hb id⟩
  clear hf LD hb
  have c0 : w2.cell? ⟨w.heap.size, 0, Option.none⟩ = some (.int .i64 size) := by rw [blk_cell HS2.out]; rfl
  have c1 : w2.cell? ⟨w.heap.size, 1, Option.none⟩ = some (.int .i64 d) := by rw [blk_cell HS2.out]; rfl
  have c2 : w2.cell? ⟨w.heap.size, 2, Option.none⟩ = some (.int .i64 len) := by rw [blk_cell HS2.out]; rfl
  go_wp2
  refine Rg.start (fun _ x => Fr No w2 x) (by kernel_rfl) (by kernel_rfl) [2, 5, 8] [[0, 1, 2], [3, 4, 0, 1, 2, 5], [6, 7, 3, 4, 0, 1, 2, 5, 8]] (by kernel_rfl) (.q 0 0 (.q 1 0 (.q 3 1 (.q 4 1 (.q 6 2 (.q 7 2 (.e 2 1 (.e 5 2 (.e 8 3 (.q 9 3 (.done))))))))))) (by kernel_rfl) ?_ ?_
  · exact fun _ => (Fr.refl _ _).drew
  repeat (first
    | (refine Rg.q (o := ?_) (v := ?_) ?_ ?_ ?_ ?_ ?_
       rotate_left 2
       · (simp only [List.getElem?_toArray, List.getElem?_cons_succ, List.getElem?_cons_zero]; rfl)
       · exact fun _ _ _ h => h
       · first | rfl | (go_simp; done)
       · (intro x_ hx; (try dsimp only at hx); (have q0 := hx.cell c0 id; have q1 := hx.cell c1 id; have q2 := hx.cell c2 id); go_simp; (try rw [if_neg (by omega)]); (try rw [if_pos (by omega)]); (try go_simp); try with_reducible rfl)
       try simp only [Act.put, List.setIfInBounds_toArray, List.set_cons_zero, List.set_cons_succ])
    | (refine Rg.skip (o := ?_) ?_ ?_ ?_ ?_
       rotate_left 1
       · (simp only [List.getElem?_toArray, List.getElem?_cons_succ, List.getElem?_cons_zero]; rfl)
       · exact fun _ _ _ h => h
       · first | rfl | (go_simp; done)
       try simp only [Act.put, List.setIfInBounds_toArray, List.set_cons_zero, List.set_cons_succ]))
  refine Rg.e (o := ?_) ?_ ?_
  rotate_left 1
  · (simp only [List.getElem?_toArray, List.getElem?_cons_succ, List.getElem?_cons_zero]; rfl)
  intro K hK
  go_simp
  refine (CodeW.num_calls (.slice none 0 0) [] size _ (Ow.nil _ _ _) (by simp)).mono ?_
  rintro en x1 ⟨v1, rfl, o1, f1, a1, _⟩
  have N1 : Aside0 (On w2 x1 v1 (numI size)) := ⟨(On.nil (Fr.refl _ _).drew).step o1 f1 a1⟩
  clear o1 f1 a1
  go_simp
  refine hK.out _ _ (fun _ x => Fr No w2 x) (fun k x hk h => h) ?_ ?_
  · exact fun _ _ => N1.out.fr
  try simp only [Act.put, List.setIfInBounds_toArray, List.set_cons_zero, List.set_cons_succ]
  repeat (first
    | (refine Rg.q (o := ?_) (v := ?_) ?_ ?_ ?_ ?_ ?_
       rotate_left 2
       · (simp only [List.getElem?_toArray, List.getElem?_cons_succ, List.getElem?_cons_zero]; rfl)
       · exact fun _ _ _ h => h
       · first | rfl | (go_simp; done)
       · (intro x_ hx; (try dsimp only at hx); (have q0 := hx.cell c0 id; have q1 := hx.cell c1 id; have q2 := hx.cell c2 id); go_simp; (try rw [if_neg (by omega)]); (try rw [if_pos (by omega)]); (try go_simp); try with_reducible rfl)
       try simp only [Act.put, List.setIfInBounds_toArray, List.set_cons_zero, List.set_cons_succ])
    | (refine Rg.skip (o := ?_) ?_ ?_ ?_ ?_
       rotate_left 1
       · (simp only [List.getElem?_toArray, List.getElem?_cons_succ, List.getElem?_cons_zero]; rfl)
       · exact fun _ _ _ h => h
       · first | rfl | (go_simp; done)
       try simp only [Act.put, List.setIfInBounds_toArray, List.set_cons_zero, List.set_cons_succ]))
  refine Rg.e (o := ?_) ?_ ?_
  rotate_left 1
  · (simp only [List.getElem?_toArray, List.getElem?_cons_succ, List.getElem?_cons_zero]; rfl)
  intro K hK
  go_simp
  refine (CodeW.num_calls v1 (numI size) d _ N1.out.own (by have := numI_length size; omega)).mono ?_
  rintro en x2 ⟨v2, rfl, o1, f1, a1, _⟩
  have N2 : Aside0 (On w2 x2 v2 (numI size ++ numI d)) := ⟨N1.out.step o1 f1 a1⟩
  clear o1 f1 a1
  go_simp
  refine hK.out _ _ (fun _ x => Fr No w2 x) (fun k x hk h => h) ?_ ?_
  · exact fun _ _ => N2.out.fr
  try simp only [Act.put, List.setIfInBounds_toArray, List.set_cons_zero, List.set_cons_succ]
  repeat (first
    | (refine Rg.q (o := ?_) (v := ?_) ?_ ?_ ?_ ?_ ?_
       rotate_left 2
       · (simp only [List.getElem?_toArray, List.getElem?_cons_succ, List.getElem?_cons_zero]; rfl)
       · exact fun _ _ _ h => h
       · first | rfl | (go_simp; done)
       · (intro x_ hx; (try dsimp only at hx); (have q0 := hx.cell c0 id; have q1 := hx.cell c1 id; have q2 := hx.cell c2 id); go_simp; (try rw [if_neg (by omega)]); (try rw [if_pos (by omega)]); (try go_simp); try with_reducible rfl)
       try simp only [Act.put, List.setIfInBounds_toArray, List.set_cons_zero, List.set_cons_succ])
    | (refine Rg.skip (o := ?_) ?_ ?_ ?_ ?_
       rotate_left 1
       · (simp only [List.getElem?_toArray, List.getElem?_cons_succ, List.getElem?_cons_zero]; rfl)
       · exact fun _ _ _ h => h
       · first | rfl | (go_simp; done)
       try simp only [Act.put, List.setIfInBounds_toArray, List.set_cons_zero, List.set_cons_succ]))
  refine Rg.e (o := ?_) ?_ ?_
  rotate_left 1
  · (simp only [List.getElem?_toArray, List.getElem?_cons_succ, List.getElem?_cons_zero]; rfl)
  intro K hK
  go_simp
  refine (CodeW.num_calls v2 (numI size ++ numI d) len _ N2.out.own (by have := numI_length size; have := numI_length d; rw [List.length_append]; omega)).mono ?_
  rintro en x3 ⟨v3, rfl, o1, f1, a1, _⟩
  have N3 : Aside0 (On w2 x3 v3 ((numI size ++ numI d) ++ numI len)) := ⟨N2.out.step o1 f1 a1⟩
  clear o1 f1 a1
  go_simp
  refine hK.out _ _ (fun _ x => Fr No w2 x) (fun k x hk h => h) ?_ ?_
  · exact fun _ _ => N3.out.fr
  try simp only [Act.put, List.setIfInBounds_toArray, List.set_cons_zero, List.set_cons_succ]
  repeat (first
    | (refine Rg.q (o := ?_) (v := ?_) ?_ ?_ ?_ ?_ ?_
       rotate_left 2
       · (simp only [List.getElem?_toArray, List.getElem?_cons_succ, List.getElem?_cons_zero]; rfl)
       · exact fun _ _ _ h => h
       · first | rfl | (go_simp; done)
       · (intro x_ hx; (try dsimp only at hx); (have q0 := hx.cell c0 id; have q1 := hx.cell c1 id; have q2 := hx.cell c2 id); go_simp; (try rw [if_neg (by omega)]); (try rw [if_pos (by omega)]); (try go_simp); try with_reducible rfl)
       try simp only [Act.put, List.setIfInBounds_toArray, List.set_cons_zero, List.set_cons_succ])
    | (refine Rg.skip (o := ?_) ?_ ?_ ?_ ?_
       rotate_left 1
       · (simp only [List.getElem?_toArray, List.getElem?_cons_succ, List.getElem?_cons_zero]; rfl)
       · exact fun _ _ _ h => h
       · first | rfl | (go_simp; done)
       try simp only [Act.put, List.setIfInBounds_toArray, List.set_cons_zero, List.set_cons_succ]))
  refine Rg.done ?_
  go_simp
  clear c0 c1 c2
  rw [HPRE.out] at N3
  have c3 : x3.cell? ⟨w.heap.size, 3, Option.none⟩ = some (.slice A bs.length c) := by rw [blk_cell (N3.out.fr.heap HS2.out id)]; rfl
  go_wp2
  clear c3
  go_loopw [5, 25] (fun v5 v25 wr => ∃ i : Nat, v25 = .int .i64 (i : Int) ∧ i ≤ bs.length ∧ Aside0 (On w2 wr v5 (pre ++ rowsB d (bs.take i)))) (fun _ v25 _ => bs.length - (intOf v25).toNat)
  case atStart => exact ⟨0, rfl, Nat.zero_le _, ⟨by simpa [rowsB] using N3.out⟩⟩
  case round =>
    obtain ⟨i, rfl, hi, HN⟩ := hrel
    by_cases hil : i < bs.length
    · have hiI : (i : Int) < (bs.length : Int) := by omega
      obtain ⟨b, hb⟩ : ∃ b, bs[i]? = some b := ⟨_, List.getElem?_eq_getElem hil⟩
      obtain ⟨ad, hA, hcv⟩ := rd_at HV.out i b hb
      have FW : Fr No w wr := F2.out.none HN.out.fr
      have LD : ∀ x, Fr No wr x → (loadVar 101 (ad.add (i * 33))).run Tryd.prog x = .ok (.agg (bkC .u32 b)) x := ld_elem (hcv.no FW) Tryd.underlying101 rfl (by rw [bkL_length]; kernel_rfl)
      have HA := Aside0.mk hA
      have hlr : (pre ++ rowsB d (bs.take i)).length ≤ 200000 := by
        have h1 := rowsB_length_le d (bs.take i)
        rw [List.length_take] at h1
        rw [List.length_append]
        omega
      have HSN : Aside0 (pre ++ rowsB d (bs.take (i + 1)) = ((pre ++ rowsB d (bs.take i)) ++ numI (b.w : Int)) ++ b.st.take d) := ⟨by
        rw [List.take_add_one, hb]
        show pre ++ rowsB d (bs.take i ++ [b]) = _
        rw [rowsB_snoc]
        simp only [List.append_assoc]⟩
      obtain ⟨ys, hys⟩ : ∃ ys, pre ++ rowsB d (bs.take i) = ys := ⟨_, rfl⟩
      rw [hys] at HN hlr HSN
      clear hb hA hcv FW hys
      go_upto_region 8 with (first
        | (refine lsIx 24 101 33 (.tmp 23) (.tmp 25) ad A bs.length c i _ Tryd.underlying24 (by kernel_rfl) rfl rfl rfl HA.out rfl rfl hil ?_)
        | (refine ldG (.tmp 27) 101 _ _ rfl rfl (LD _ (Fr.refl _ _)) (by first | rfl | (go_simp; done)) ?_)
        | (refine PB.stRow (.tmp 7) (.tmp 28) 101 wr.heap.size 101 _ (bkC .u32 b) rfl rfl rfl rfl (heap_alloc_new wr _) (by rw [bkC_size]; kernel_rfl) (by rw [bkC_size]; rfl) (bkC_one _ _) ?_; rw [World.setRow_alloc_new]))
      change Code.wp _ _ _ _ (wr.alloc (.cells (bkC .u32 b) 101))
      have XB : Aside0 ((wr.alloc (.cells (bkC .u32 b) 101)).heap[wr.heap.size]? = some (.cells (bkC .u32 b) 101 (0, 0))) := ⟨heap_alloc_new wr _⟩
      have XF : Aside0 (On w2 (wr.alloc (.cells (bkC .u32 b) 101)) u5 ys) := ⟨HN.out.no ((Fr.refl _ _).alloc _)⟩
      generalize wr.alloc (.cells (bkC .u32 b) 101) = wx at XB XF ⊢
      obtain ⟨g, hg⟩ : ∃ g, wr.heap.size = g := ⟨_, rfl⟩
      rw [hg] at XB ⊢
      clear LD hg
      have y0 : wx.cell? ⟨g, 0, Option.none⟩ = some (.int .u32 (b.w : Int)) := by rw [blk_cell XB.out]; rfl
      have hbw := b.hw
      go_wp2_with fail
      refine (CodeW.num_calls u5 ys b.w wx XF.out.own (by omega)).mono ?_
      rintro e w4 ⟨v4, rfl, o1, f1, a1, _⟩
      have N4 : Aside0 (On w2 w4 v4 (ys ++ numI (b.w : Int))) := ⟨XF.out.step o1 f1 a1⟩
      have hng : ∀ q cs t, wx.heap[q]? = some (.cells cs t (0, 0)) → t ≠ 5 → ¬ blk u5 q := fun q cs t hb ht hq => by
        obtain ⟨cs', hb'⟩ := XF.out.own.typed q hq
        rw [hb] at hb'; injection hb' with hb'; injection hb' with _ e2; exact ht e2
      have XB4 : Aside0 (w4.heap[g]? = some (.cells (bkC .u32 b) 101 (0, 0))) := ⟨f1.heap XB.out (hng _ _ _ XB.out (by decide))⟩
      have c1 : w4.cell? ⟨w.heap.size, 1, Option.none⟩ = some (.int .i64 d) := by rw [blk_cell (N4.out.fr.heap HS2.out id)]; rfl
      have RB := rd_st XB4.out d hd
      have hlt : (b.st.take d).length = d := by rw [List.length_take, b.h]; omega
      have hl4 : (ys ++ numI (b.w : Int)).length ≤ 200010 := by have := numI_length (b.w : Int); rw [List.length_append]; omega
      have HRB := Aside0.mk RB
      have hsl := slice_st g d hd
      clear o1 f1 a1 y0 hng RB
      go_wp2_with (at_builtin; refine apBs v4 (ys ++ numI (b.w : Int)) (.slice (some ⟨g, 1, none⟩) d 32) (b.st.take d) rfl _ _ rfl rfl rfl N4.out.own HRB.out (by omega) ?_; intro v5 w5 i1 i2 i3 i4; have N5 : Aside0 (On w2 w5 v5 ((ys ++ numI (b.w : Int)) ++ b.st.take d)) := ⟨N4.out.step i1 i2 i3⟩; clear i1 i2 i3 i4)
      go_roundw
      case rel => exact ⟨i + 1, by go_num, by omega, ⟨by rw [HSN.out]; exact N5.out⟩⟩
      case measure => simp [intOf]; omega
    · have hiI : ¬ (i : Int) < (bs.length : Int) := by omega
      have hin : i = bs.length := by omega
      have hN := HN.out
      rw [hin, List.take_length] at hN
      have HNE := Aside0.mk hN
      clear hN HN
      go_wp2
      (try simp only [Exit.inBlock, Exit.then]); refine bodyPost_ret (results_list (rs := [.tmp 2, .tmp 3]) rfl (by simp) (.tmp (.tmp .nil))) rfl ?_
      exact ⟨_, rfl, HNE.out.back F2.out⟩
theorem bytes_calls (size cut len : Int) (sl : Value) (bs : List BK) (w : World) (hv : Rd (fBk .u32) w sl bs) (hsz : size ≤ 9223372036854775807) (hln : len ≤ 9223372036854775807) :
    Calls Tryd.prog 14 #[.agg (sgC size cut len sl)] w fun e w' => ∃ v, e = .returned (.tuple #[v, .int .i64 (chkE size cut len bs)]) ∧ On w w' v (if chkE size cut len bs = 0 then sgB size cut len bs else []) := by
  by_cases hE : chkE size cut len bs = 0
  · have hc := chk_cases size cut len bs
    have hq : 0 ≤ cut ∧ cut ≤ 32 ∧ bs.length ≤ 4096 := by
      rcases hc with h | h | h | h | h | h | h | h <;> omega
    obtain ⟨d, rfl⟩ := Int.eq_ofNat_of_zero_le hq.1
    rw [if_pos hE, hE]
    exact bytes_ok size d len sl bs w hv hsz hln (by omega) hq.2.2 hE
  · rw [if_neg hE]
    refine (bytes_bad size cut len sl bs w hv hsz hln hE).mono ?_
    rintro e w' ⟨rfl, hf⟩
    exact ⟨_, rfl, On.nil hf⟩
end Go.Proofs.YtanbddaecojijaaDoor.Blk
