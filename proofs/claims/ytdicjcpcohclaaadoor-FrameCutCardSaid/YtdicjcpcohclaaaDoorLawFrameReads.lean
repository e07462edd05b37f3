/- The walk of the law FrameReads. -/
import Derived.Test.YtdicjcpcohclaaaDoorErrW
import Derived.Test.YtdicjcpcohclaaaDoorRef4
import Derived.Test.YtdicjcpcohclaaaDoorFrameL
import Derived.Test.YtdicjcpcohclaaaDoorSpecRd
set_option linter.unusedVariables false
set_option linter.unusedSimpArgs false
namespace Go.Proofs.YtdicjcpcohclaaaDoor.LFrameReads
open Go.RowKit Go.Proofs.YtdicjcpcohclaaaDoorW.PrintWords Go.Proofs.YtdicjcpcohclaaaDoor.B Go.Proofs.YtdicjcpcohclaaaDoor.PB Go.Proofs.YtdicjcpcohclaaaDoor.Err Go.Proofs.YtdicjcpcohclaaaDoor.SCode Go.Proofs.YtdicjcpcohclaaaDoor.Rdr Go.Proofs.YtdicjcpcohclaaaDoor.Frm Go.Proofs.YtdicjcpcohclaaaDoor.Ref4

theorem noE_oc (e : Option (Nat × Nat)) : noE e = oc e := rfl
/-- What went wrong has a number. -/
theorem readS_pos (b : List UInt8) (q : Nat × Nat) (h : (readS b).2.2.2.2 = some q) : 0 < q.2 := by
  unfold readS at h
  cases hh : (headS b).2.2.2.2 with
  | some p =>
    simp only [hh] at h
    injection h with h
    subst h
    unfold headS at hh
    cases he : (rByte b ⟨0, none⟩).1.err with
    | some e =>
      simp only [he] at hh
      injection hh with hh
      subst hh
      unfold rByte at he
      simp only [] at he
      split at he
      · cases he
      · injection he with he; subst he; exact Nat.succ_pos _
    | none =>
      simp only [he] at hh
      split at hh
      · injection hh with hh; subst hh; exact Nat.succ_pos _
      · rename_i h8
        cases he2 : (rNum b (rByte b ⟨0, none⟩).1).1.err with
        | some e =>
          simp only [he2] at hh
          injection hh with hh
          subst hh
          exact pos_num (r := (rByte b ⟨0, none⟩).1) (fun q h => by rw [he] at h; cases h) b _ he2
        | none =>
          simp only [he2] at hh
          split at hh
          · injection hh with hh; subst hh; exact Nat.succ_pos _
          · cases hh
  | none =>
    simp only [hh] at h
    split at h
    · injection h with h; subst h; exact Nat.succ_pos _
    · cases h

set_option maxHeartbeats 4000000 in
set_option maxRecDepth 100000 in
theorem walk0 (vb : Value) (b : List UInt8) (w : World) (hg : Gl w) (hb : RdB w vb b) (hl : b.length ≤ reach) : Calls Tryd.prog 8 #[vb] w fun e w' => e = .returned (.bool true) ∧ Fr No w w' := by
  obtain ⟨A, c, rfl, _⟩ := id hb
  have hl2 : b.length ≤ 140737488351232 := hl
  have HB := Aside0.mk hb; have HG := Aside0.mk hg; have HL := Aside0.mk hl2; clear hb hg hl hl2
  go_enter Tryd.func8, Tryd.ntmps8
  go_wp2_with fail
  refine (readsF_calls _).mono ?_
  rintro e w1 ⟨rfl, hf⟩
  have F1 := Aside0.mk hf; clear hf
  go_wp2_with fail
  refine (readF_calls _ b _ (HB.out.no F1.out) HL.out).mono ?_
  have hpos := readS_pos b
  obtain ⟨⟨k, s, xs, n, er⟩, hrd⟩ : ∃ q, readS b = q := ⟨_, rfl⟩
  rw [hrd] at hpos ⊢
  dsimp only at hpos ⊢
  rintro e w2 ⟨d, ev, rfl, he, hf2, hd, hdn⟩
  have HRD := Aside0.mk hrd; have HP := Aside0.mk hpos; have HE := Aside0.mk he; have F2 := Aside0.mk (F1.out.none hf2); have HD := Aside0.mk hd
  obtain ⟨D, cD, rfl⟩ := hd.form
  clear hrd hpos he hf2 hd hdn
  have hstr := fun o => str_of_rd ((HB.out.no F2.out).no ((Fr.refl No w2).alloc o))
  go_wp2_with fail
  have h9 := Ref4.read_calls b (by have := HL.out; omega) (w2.alloc (.cells #[.int .i64 (k : Int), .int .i64 (s : Int), .slice D xs.length cD] 59))
  rw [HRD.out] at h9
  refine h9.mono ?_
  clear h9 hstr
  dsimp only
  rintro e w3 ⟨rfl, hf3⟩
  have hb3 := hf3.heap (heap_alloc_new w2 (.cells #[.int .i64 (k : Int), .int .i64 (s : Int), .slice D xs.length cD] 59)) id
  have E3 : Fr No w2 w3 := ((Fr.refl No w2).alloc _).none hf3
  have F3 := Aside0.mk (F2.out.none E3)
  have RD3 := Aside0.mk (HD.out.rd.no E3)
  have HE3 := Aside0.mk (HE.out.no E3)
  have HB3 := Aside0.mk hb3
  clear hf3 hb3 E3
  go_upto_region 5 with (refine PB.stRow (.tmp 6) (.tmp 22) 63 w3.heap.size 63 _ (fc k s xs) rfl rfl rfl rfl (heap_alloc_new w3 _) (by kernel_rfl) rfl (by simp [Value.oneCell']) ?_; rw [World.setRow_alloc_new])
  generalize hw4 : w3.alloc (.cells (fc k s xs) 63) = w4
  have B4 : Aside0 (w4.heap[w3.heap.size]? = some (.cells (fc k s xs) 63 (0, 0))) := ⟨by rw [← hw4]; exact heap_alloc_new w3 _⟩
  have C4 : Aside0 (w4.heap[w2.heap.size]? = some (.cells #[.int .i64 (k : Int), .int .i64 (s : Int), .slice D xs.length cD] 59 (0, 0))) := ⟨by rw [← hw4]; exact blk_alloc HB3.out _⟩
  have E4 : Fr No w3 w4 := by rw [← hw4]; exact (Fr.refl _ _).alloc _
  have F4 := Aside0.mk (F3.out.none E4)
  have RD4 := Aside0.mk (RD3.out.no E4)
  have HE4 := Aside0.mk (HE3.out.no E4)
  have FD : Aside0 (Fr No w4 w4.drew) := ⟨(Fr.refl _ _).drew⟩
  clear hw4 E4 F3 RD3 HE3 HB3
  have LA := ld_all (P := Tryd.prog) (ty := 59) C4.out Tryd.underlying59 rfl (by kernel_rfl)
  have LB := ld_all (P := Tryd.prog) (ty := 63) B4.out Tryd.underlying63 rfl (by kernel_rfl)
  refine Rg.start (fun _ x => Fr No w4 x) (by kernel_rfl) (by kernel_rfl) [1, 11] [[0, 1], [6, 5, 7, 2, 0, 1, 3, 4, 8, 9, 10, 11]] (by kernel_rfl) (.q 0 0 (.q 2 1 (.e 1 1 (.q 3 1 (.q 4 1 (.q 5 1 (.q 6 1 (.q 7 1 (.q 8 1 (.q 9 1 (.q 10 1 (.q 12 2 (.e 11 2 (.q 13 2 (.q 14 2 (.done)))))))))))))))) (by kernel_rfl) ?_ ?_
  · exact fun _ => FD.out
  repeat (first
    | (refine Rg.q (o := ?_) (v := ?_) ?_ ?_ ?_ ?_ ?_
       rotate_left 2
       · (simp only [List.getElem?_toArray, List.getElem?_cons_succ, List.getElem?_cons_zero]; rfl)
       · exact fun _ _ _ h => h
       · first | rfl | (go_simp; done)
       · (intro x_ hx; (try dsimp only at hx); first | (refine (ex_ld rfl rfl (LA _ hx)).trans ?_; with_reducible rfl) | (refine (ex_ld rfl rfl (LB _ hx)).trans ?_; with_reducible rfl) | (refine (ex_ld rfl rfl (fail _ hx)).trans ?_; with_reducible rfl) | (refine (ex_ld rfl rfl (fail _ hx)).trans ?_; with_reducible rfl) | (skip; (try clear hx); go_simp; (try rw [if_neg (by omega)]); (try rw [if_pos (by omega)]); (try go_simp); try with_reducible rfl))
       try simp only [Act.put, List.setIfInBounds_toArray, List.set_cons_zero, List.set_cons_succ])
    | (refine Rg.skip (o := ?_) ?_ ?_ ?_ ?_
       rotate_left 1
       · (simp only [List.getElem?_toArray, List.getElem?_cons_succ, List.getElem?_cons_zero]; rfl)
       · exact fun _ _ _ h => h
       · first | rfl | (go_simp; done)
       try simp only [Act.put, List.setIfInBounds_toArray, List.set_cons_zero, List.set_cons_succ]))
  refine Rg.e (o := ?_) ?_ ?_
  rotate_left 1
  · (simp only [List.getElem?_toArray, List.getElem?_cons_succ, List.getElem?_cons_zero]; rfl)
  intro K hK
  go_simp
  refine (plain_calls k s _ xs w4.drew (RD4.out.no FD.out)).mono ?_
  rintro en x1 ⟨rfl, hf⟩
  have G1 : Aside0 (Fr No w4 x1) := ⟨FD.out.none hf⟩
  clear hf
  go_simp
  refine hK.out _ _ (fun _ x => Fr No w4 x) (fun k x hk h => h) ?_ ?_
  · exact fun _ _ => G1.out
  try simp only [Act.put, List.setIfInBounds_toArray, List.set_cons_zero, List.set_cons_succ]
  repeat (first
    | (refine Rg.q (o := ?_) (v := ?_) ?_ ?_ ?_ ?_ ?_
       rotate_left 2
       · (simp only [List.getElem?_toArray, List.getElem?_cons_succ, List.getElem?_cons_zero]; rfl)
       · exact fun _ _ _ h => h
       · first | rfl | (go_simp; done)
       · (intro x_ hx; (try dsimp only at hx); first | (refine (ex_ld rfl rfl (LA _ hx)).trans ?_; with_reducible rfl) | (refine (ex_ld rfl rfl (LB _ hx)).trans ?_; with_reducible rfl) | (refine (ex_ld rfl rfl (fail _ hx)).trans ?_; with_reducible rfl) | (refine (ex_ld rfl rfl (fail _ hx)).trans ?_; with_reducible rfl) | (skip; (try clear hx); go_simp; (try rw [if_neg (by omega)]); (try rw [if_pos (by omega)]); (try go_simp); try with_reducible rfl))
       try simp only [Act.put, List.setIfInBounds_toArray, List.set_cons_zero, List.set_cons_succ])
    | (refine Rg.skip (o := ?_) ?_ ?_ ?_ ?_
       rotate_left 1
       · (simp only [List.getElem?_toArray, List.getElem?_cons_succ, List.getElem?_cons_zero]; rfl)
       · exact fun _ _ _ h => h
       · first | rfl | (go_simp; done)
       try simp only [Act.put, List.setIfInBounds_toArray, List.set_cons_zero, List.set_cons_succ]))
  refine Rg.e (o := ?_) ?_ ?_
  rotate_left 1
  · (simp only [List.getElem?_toArray, List.getElem?_cons_succ, List.getElem?_cons_zero]; rfl)
  intro K hK
  go_simp
  refine (number_calls ((HG.out.no F4.out).no G1.out) (HE4.out.no G1.out)).mono ?_
  rw [noE_oc]
  rintro en x2 ⟨rfl, hf⟩
  have G2 : Aside0 (Fr No w4 x2) := ⟨G1.out.none hf⟩
  clear hf
  go_simp
  refine hK.out _ _ (fun _ x => Fr No w4 x) (fun k x hk h => h) ?_ ?_
  · exact fun _ _ => G2.out
  try simp only [Act.put, List.setIfInBounds_toArray, List.set_cons_zero, List.set_cons_succ]
  repeat (first
    | (refine Rg.q (o := ?_) (v := ?_) ?_ ?_ ?_ ?_ ?_
       rotate_left 2
       · (simp only [List.getElem?_toArray, List.getElem?_cons_succ, List.getElem?_cons_zero]; rfl)
       · exact fun _ _ _ h => h
       · first | rfl | (go_simp; done)
       · (intro x_ hx; (try dsimp only at hx); first | (refine (ex_ld rfl rfl (LA _ hx)).trans ?_; with_reducible rfl) | (refine (ex_ld rfl rfl (LB _ hx)).trans ?_; with_reducible rfl) | (refine (ex_ld rfl rfl (fail _ hx)).trans ?_; with_reducible rfl) | (refine (ex_ld rfl rfl (fail _ hx)).trans ?_; with_reducible rfl) | (skip; (try clear hx); go_simp; (try rw [if_neg (by omega)]); (try rw [if_pos (by omega)]); (try go_simp); try with_reducible rfl))
       try simp only [Act.put, List.setIfInBounds_toArray, List.set_cons_zero, List.set_cons_succ])
    | (refine Rg.skip (o := ?_) ?_ ?_ ?_ ?_
       rotate_left 1
       · (simp only [List.getElem?_toArray, List.getElem?_cons_succ, List.getElem?_cons_zero]; rfl)
       · exact fun _ _ _ h => h
       · first | rfl | (go_simp; done)
       try simp only [Act.put, List.setIfInBounds_toArray, List.set_cons_zero, List.set_cons_succ]))
  refine Rg.done ?_
  go_simp
  clear LA LB
  rcases er with _ | ⟨p, e⟩
  · rw [show oc none = 0 from rfl]
    go_wp2_with fail
    refine (place_calls ((HG.out.no F4.out).no G2.out) (HE4.out.no G2.out)).mono ?_
    rw [show plE none = -1 from rfl]
    rintro en x3 ⟨rfl, hf⟩
    have G3 : Aside0 (Fr No w x3) := ⟨F4.out.none (G2.out.none hf)⟩
    clear hf
    go_wp2
    go_ret
    exact ⟨rfl, G3.out⟩
  · have he0 : 0 < e := HP.out _ rfl
    have heA : ((e : Int) == 0) = false := by rw [beq_eq_false_iff_ne]; omega
    have heB : ((e : Int) != 0) = true := by rw [bne_iff_ne]; omega
    clear he0
    rw [show oc (some (p, e)) = e from rfl, show op (some (p, e)) = p from rfl]
    go_wp2_with fail
    refine (place_calls ((HG.out.no F4.out).no G2.out) (HE4.out.no G2.out)).mono ?_
    rw [show plE (some (p, e)) = (p : Int) from rfl]
    rintro en x3 ⟨rfl, hf⟩
    have G3 : Aside0 (Fr No w x3) := ⟨F4.out.none (G2.out.none hf)⟩
    clear hf
    go_wp2
    go_ret
    exact ⟨rfl, G3.out⟩
theorem walk (vb : Value) (b : List UInt8) (w : World) (hg : Gl w) (hb : RdB w vb b ∧ b.length ≤ reach) : Calls Tryd.prog 8 #[vb] w fun e w' => e = .returned (.bool true) ∧ Fr No w w' := walk0 vb b w hg hb.1 hb.2
end Go.Proofs.YtdicjcpcohclaaaDoor.LFrameReads
