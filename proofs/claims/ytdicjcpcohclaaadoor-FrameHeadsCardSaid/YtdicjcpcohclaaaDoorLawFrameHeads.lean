/- The walk of the law FrameHeads. -/
import Derived.Test.YtdicjcpcohclaaaDoorLawFrameReads
import Derived.Test.YtdicjcpcohclaaaDoorSpecFeed
set_option linter.unusedVariables false
set_option linter.unusedSimpArgs false
namespace Go.Proofs.YtdicjcpcohclaaaDoor.LFrameHeads
open Go.RowKit Go.IntWalk Go.Proofs.YtdicjcpcohclaaaDoorW.PrintWords Go.Proofs.YtdicjcpcohclaaaDoor.B Go.Proofs.YtdicjcpcohclaaaDoor.PB Go.Proofs.YtdicjcpcohclaaaDoor.Err Go.Proofs.YtdicjcpcohclaaaDoor.SCode Go.Proofs.YtdicjcpcohclaaaDoor.Rdr Go.Proofs.YtdicjcpcohclaaaDoor.Frm Go.Proofs.YtdicjcpcohclaaaDoor.Ref4 Go.Proofs.YtdicjcpcohclaaaDoor.LFrameReads

theorem headS_kind (b : List UInt8) (h : (headS b).2.2.2.2 = none) : ∃ x, b[0]? = some x ∧ (headS b).1 = x.toNat / 8 := by
  cases he : (rByte b ⟨0, none⟩).1.err with
  | some q => unfold headS at h; simp only [he] at h; cases h
  | none =>
    by_cases hl : 0 < b.length
    · obtain ⟨x, hx⟩ : ∃ x, b[0]? = some x := ⟨_, List.getElem?_eq_getElem hl⟩
      have hq : rByte b ⟨0, none⟩ = (⟨1, none⟩, x) := by
        have := (List.getElem?_eq_some_iff.1 hx).2
        simp [rByte, hl, this]
      refine ⟨x, hx, ?_⟩
      unfold headS at h ⊢
      simp only [hq] at h ⊢
      split at h
      · cases h
      · rename_i h8
        rw [if_neg h8]
        cases he2 : (rNum b ⟨1, none⟩).1.err with
        | some q => simp only [he2] at h; cases h
        | none =>
          simp only [he2] at h ⊢
          split at h
          · cases h
          · rename_i hm; rw [if_neg hm]
    · exfalso
      have : rByte b ⟨0, none⟩ = (⟨0, some (0, 30)⟩, 0) := by simp [rByte, hl]
      rw [this] at he; cases he
/-- What is wrong with a head is wrong with the frame. -/
theorem readS_of_head {b : List UInt8} {q : Nat × Nat} (h : (headS b).2.2.2.2 = some q) : readS b = (0, 0, [], 0, some q) := by
  unfold readS; simp only [h]
theorem headS_zero {b : List UInt8} {q : Nat × Nat} (h : (headS b).2.2.2.2 = some q) : headS b = (0, 0, 0, 0, some q) := by
  unfold headS at h ⊢
  cases he : (rByte b ⟨0, none⟩).1.err with
  | some e => simp only [he] at h ⊢; rw [← h]
  | none =>
    simp only [he] at h ⊢
    split at h
    · rename_i h8; rw [if_pos h8, ← h]
    · rename_i h8
      rw [if_neg h8]
      cases he2 : (rNum b (rByte b ⟨0, none⟩).1).1.err with
      | some e => simp only [he2] at h ⊢; rw [← h]
      | none =>
        simp only [he2] at h ⊢
        split at h
        · rename_i hm; rw [if_pos hm, ← h]
        · cases h

set_option maxHeartbeats 4000000 in
set_option maxRecDepth 100000 in
theorem walk0 (vb : Value) (b : List UInt8) (w : World) (hg : Gl w) (hb : RdB w vb b) (hl : b.length ≤ reach) : Calls Tryd.prog 9 #[vb] w fun e w' => e = .returned (.bool true) ∧ Fr No w w' := by
  obtain ⟨A, c, rfl, _, _, hcell⟩ := id hb
  have hl2 : b.length ≤ 140737488351232 := hl
  have HB := Aside0.mk hb; have HG := Aside0.mk hg; have HL := Aside0.mk hl2; have HC := Aside0.mk hcell; clear hb hg hl hl2 hcell
  go_enter Tryd.func9, Tryd.ntmps9
  go_wp2_with fail
  refine (readsF_calls _).mono ?_
  rintro e w1 ⟨rfl, hf⟩
  have F1 := Aside0.mk hf; clear hf
  go_wp2_with fail
  refine (head_calls _ b _ (HB.out.no F1.out)).mono ?_
  have hok := headS_le b
  have hkind := headS_kind b
  have hsm := headS_ok b
  have hbad := @readS_of_head b
  have hzero := @headS_zero b
  have hread : (headS b).2.2.2.2 = none → readS b = if b.length - (headS b).2.2.1 < (headS b).2.2.2.1 then (0, 0, [], 0, some (b.length, 30)) else ((headS b).1, (headS b).2.1, (b.drop (headS b).2.2.1).take (headS b).2.2.2.1, (headS b).2.2.1 + (headS b).2.2.2.1, none) := fun h => by unfold readS; simp only [h]
  have hpos := readS_pos b
  obtain ⟨⟨k, s, hh, n, er⟩, hhd⟩ : ∃ q, headS b = q := ⟨_, rfl⟩
  rw [hhd] at hok hkind hbad hzero hread hsm ⊢
  dsimp only at hok hkind hbad hzero hread hsm ⊢
  rintro e w2 ⟨ev, rfl, he, hf2⟩
  have HE := Aside0.mk he; have F2 := Aside0.mk (F1.out.none hf2)
  have H1 := Aside0.mk hok; have H2 := Aside0.mk hkind; have H3 := Aside0.mk @hbad; have H4 := Aside0.mk @hzero; have H5 := Aside0.mk hread; have H6 := Aside0.mk hpos; have H7 := Aside0.mk hsm
  clear hsm he hf2 hok hkind hbad hzero hread hpos hhd
  have hstr := fun o => str_of_rd ((HB.out.no F2.out).no ((Fr.refl No w2).alloc o))
  go_wp2_with fail
  have h9 := Ref4.read_calls b (by have := HL.out; omega) (w2.alloc (.cells #[.int .i64 (k : Int), .int .i64 (s : Int), .slice none 0 0] 59))
  obtain ⟨⟨k', s', xs, n', er'⟩, hrd⟩ : ∃ q, readS b = q := ⟨_, rfl⟩
  have HR := Aside0.mk hrd
  rw [hrd] at h9
  clear hrd
  refine h9.mono ?_
  clear h9 hstr
  dsimp only
  rintro e w3 ⟨rfl, hf3⟩
  have hb3 := hf3.heap (heap_alloc_new w2 (.cells #[.int .i64 (k : Int), .int .i64 (s : Int), .slice none 0 0] 59)) id
  have E3 : Fr No w2 w3 := ((Fr.refl No w2).alloc _).none hf3
  have F3 := Aside0.mk (F2.out.none E3)
  have HE3 := Aside0.mk (HE.out.no E3)
  have HB3 := Aside0.mk hb3
  clear hf3 hb3 E3
  go_upto_block 0 with (refine PB.stRow (.tmp 7) (.tmp 24) 63 w3.heap.size 63 _ (fc k' s' xs) rfl rfl rfl rfl (heap_alloc_new w3 _) (by kernel_rfl) rfl (by simp [Value.oneCell']) ?_; rw [World.setRow_alloc_new])
  generalize hw4 : w3.alloc (.cells (fc k' s' xs) 63) = w4
  have B4 : Aside0 (w4.heap[w3.heap.size]? = some (.cells (fc k' s' xs) 63 (0, 0))) := ⟨by rw [← hw4]; exact heap_alloc_new w3 _⟩
  have C4 : Aside0 (w4.heap[w2.heap.size]? = some (.cells #[.int .i64 (k : Int), .int .i64 (s : Int), .slice none 0 0] 59 (0, 0))) := ⟨by rw [← hw4]; exact blk_alloc HB3.out _⟩
  have E4 : Fr No w3 w4 := by rw [← hw4]; exact (Fr.refl _ _).alloc _
  have F4 := Aside0.mk (F3.out.none E4)
  have HE4 := Aside0.mk (HE3.out.no E4)
  clear hw4 E4 F3 HE3 HB3
  have a0 : w4.cell? ⟨w2.heap.size, 0, Option.none⟩ = some (.int .i64 k) := by rw [blk_cell C4.out]; rfl
  have a1 : w4.cell? ⟨w2.heap.size, 1, Option.none⟩ = some (.int .i64 s) := by rw [blk_cell C4.out]; rfl
  have a2 : w4.cell? ⟨w2.heap.size, 2, Option.none⟩ = some (.slice none 0 0) := by rw [blk_cell C4.out]; rfl
  have b0 : w4.cell? ⟨w3.heap.size, 0, Option.none⟩ = some (.int .i64 k') := by rw [blk_cell B4.out]; rfl
  have b1 : w4.cell? ⟨w3.heap.size, 1, Option.none⟩ = some (.int .i64 s') := by rw [blk_cell B4.out]; rfl
  have b2 : w4.cell? ⟨w3.heap.size, 2, Option.none⟩ = some (.string (bstr xs)) := by rw [blk_cell B4.out]; rfl
  rcases er with _ | ⟨p, e⟩
  · have hr := H5.out rfl
    have hle := H1.out rfl
    rw [HR.out] at hr
    obtain rfl : ev = .nilIface := HE4.out
    have hadd : wrap64 ((hh : Int) + (n : Int)) = (hh : Int) + (n : Int) := wrap64_in _ (by have := (H7.out rfl).2; have := HL.out; omega)
    clear H3 H4 H7
    by_cases hs : b.length - hh < n
    · rw [if_pos hs] at hr
      injection hr with q0 hr; injection hr with q1 hr; injection hr with q2 hr; injection hr with q3 q4
      subst q0 q1 q2 q3 q4
      obtain ⟨x, hx, hkx⟩ := H2.out rfl
      have hl0 := (List.getElem?_eq_some_iff.1 hx).1
      obtain ⟨ad, rfl, hc⟩ := HC.out hl0
      have hx0 : ∀ y, Fr No w4 y → y.cell? ad = some (vu8 x) := fun y hy => by
        have := (F4.out.none hy).cell (hc 0 (vu8 x) (by rw [u8_cells, List.getElem?_map, hx]; rfl)) id
        simpa [Addr.add] using this
      clear hc hx
      rw [show oc (some (b.length, 30)) = 30 from rfl, show op (some (b.length, 30)) = b.length from rfl]
      go_wp2
      have hadI : IntKind.i64.wrap ((hh : Int) + (n : Int)) = (hh : Int) + (n : Int) := by rw [i64_left]; exact hadd
      have hcv : IntKind.i64.wrap (x.toNat : Int) = (x.toNat : Int) := by have := x.toNat_lt; rw [i64_left, wrap64_in _ (by omega)]
      have hq8 : IntKind.i64.wrap ((x.toNat : Int) / 8) = (x.toNat : Int) / 8 := by have := x.toNat_lt; rw [i64_left, wrap64_in _ (by omega)]
      have htd : IntKind.i64.wrap ((x.toNat : Int).tdiv 8) = (x.toNat : Int) / 8 := by have := x.toNat_lt; rw [i64_left, Int.tdiv_eq_ediv_of_nonneg (by omega), wrap64_in _ (by omega)]
      have hgt : decide ((b.length : Int) < (hh : Int) + (n : Int)) = true := decide_eq_true (by omega)
      have hleD : decide (hh ≤ b.length) = true := decide_eq_true hle
      subst hkx
      have FD : Aside0 (Fr No w4 w4.drew) := ⟨(Fr.refl _ _).drew⟩
      refine Rg.start (fun _ x => Fr No w4 x) (by kernel_rfl) (by kernel_rfl) [] [] (by kernel_rfl) (.q 0 0 (.q 1 0 (.q 2 0 (.q 3 0 (.q 4 0 (.q 5 0 (.q 6 0 (.q 7 0 (.q 8 0 (.q 9 0 (.q 10 0 (.q 11 0 (.q 12 0 (.q 13 0 (.q 14 0 (.q 15 0 (.q 16 0 (.q 17 0 (.q 18 0 (.q 19 0 (.q 20 0 (.q 21 0 (.q 22 0 (.q 23 0 (.q 24 0 (.q 25 0 (.q 26 0 (.q 27 0 (.q 28 0 (.q 29 0 (.q 30 0 (.q 31 0 (.q 32 0 (.done)))))))))))))))))))))))))))))))))) (by kernel_rfl) ?_ ?_
      · exact fun _ => FD.out
      repeat (first
        | (refine Rg.q (o := ?_) (v := ?_) ?_ ?_ ?_ ?_ ?_
           rotate_left 2
           · (simp only [List.getElem?_toArray, List.getElem?_cons_succ, List.getElem?_cons_zero]; rfl)
           · exact fun _ _ _ h => h
           · first | rfl | (go_simp; done)
           · (intro x_ hx; (try dsimp only at hx); (have q1 := hx.cell a0 id; have q2 := hx0 _ hx); go_simp; (try rw [if_neg (by omega)]); (try rw [if_pos (by omega)]); (try go_simp); try with_reducible rfl)
           try simp only [Act.put, List.setIfInBounds_toArray, List.set_cons_zero, List.set_cons_succ])
        | (refine Rg.skip (o := ?_) ?_ ?_ ?_ ?_
           rotate_left 1
           · (simp only [List.getElem?_toArray, List.getElem?_cons_succ, List.getElem?_cons_zero]; rfl)
           · exact fun _ _ _ h => h
           · first | rfl | (go_simp; done)
           try simp only [Act.put, List.setIfInBounds_toArray, List.set_cons_zero, List.set_cons_succ]))
      refine Rg.done ?_
      go_simp
      go_wp2
      go_ret
      exact ⟨rfl, F4.out.none FD.out⟩
    · rw [if_neg hs] at hr
      injection hr with q0 hr; injection hr with q1 hr; injection hr with q2 hr; injection hr with q3 q4
      subst q0 q1 q3 q4
      have hxl : xs.length = n := by rw [q2, List.length_take, List.length_drop]; omega
      subst hxl
      rw [show oc none = 0 from rfl, show op none = 0 from rfl]
      clear q2
      go_wp2
      go_ret
      exact ⟨rfl, F4.out⟩
  · have hr := H3.out rfl
    have hz := H4.out rfl
    rw [HR.out] at hr
    injection hr with q0 hr; injection hr with q1 hr; injection hr with q2 hr; injection hr with q3 q4
    injection hz with z0 hz; injection hz with z1 hz; injection hz with z2 hz; injection hz with z3 z4
    subst q0 q1 q2 q3 q4 z0 z1 z2 z3
    clear z4
    have he0 : 0 < e := H6.out _ (by rw [HR.out])
    have heA : ((e : Int) == 0) = false := by rw [beq_eq_false_iff_ne]; omega
    have heB : ((e : Int) != 0) = true := by rw [bne_iff_ne]; omega
    obtain ⟨fb, rfl, hfb⟩ := id HE4.out
    clear he0 hfb H1 H2 H3 H4 H5 H7
    rw [show oc (some (p, e)) = e from rfl, show op (some (p, e)) = p from rfl]
    go_wp2_with fail
    refine (number_calls (HG.out.no F4.out) HE4.out).mono ?_
    rw [noE_oc, show oc (some (p, e)) = e from rfl]
    rintro en x2 ⟨rfl, hf⟩
    have G2 : Aside0 (Fr No w4 x2) := ⟨hf⟩
    clear hf
    go_wp2_with fail
    refine (place_calls ((HG.out.no F4.out).no G2.out) (HE4.out.no G2.out)).mono ?_
    rw [show plE (some (p, e)) = (p : Int) from rfl]
    rintro en x3 ⟨rfl, hf⟩
    have G3 : Aside0 (Fr No w x3) := ⟨F4.out.none (G2.out.none hf)⟩
    clear hf
    go_wp2
    go_ret
    exact ⟨rfl, G3.out⟩
theorem walk (vb : Value) (b : List UInt8) (w : World) (hg : Gl w) (hb : RdB w vb b ∧ b.length ≤ reach) : Calls Tryd.prog 9 #[vb] w fun e w' => e = .returned (.bool true) ∧ Fr No w w' := walk0 vb b w hg hb.1 hb.2
end Go.Proofs.YtdicjcpcohclaaaDoor.LFrameHeads
