/- The walk of the law CodeWrites. -/
import Derived.Test.YtdicjcpcohclaaaCodeR
import Derived.Test.YtdicjcpcohclaaaRegion
set_option linter.unusedVariables false
set_option linter.unusedSimpArgs false
namespace Go.Proofs.Ytdicjcpcohclaaa.LCodeWrites
open Go.RowKit Go.Proofs.YtdicjcpcohclaaaW.PrintWords Go.Proofs.Ytdicjcpcohclaaa.B Go.Proofs.Ytdicjcpcohclaaa.PB Go.Proofs.Ytdicjcpcohclaaa.SCode Go.Proofs.Ytdicjcpcohclaaa.Rdr
attribute [local go_sem] B.max2_int B.min2_int B.max_two B.min_two

theorem walk_out (vf : Value) (f : List UInt8) (n : Int) (vs : Value) (s : List UInt8) (w : World) (hf : RdB w vf f) (hs : RdB w vs s) (h : 1000 < f.length ∨ (f.length ≤ 1000 ∧ 5000 < s.length)) : Calls Try.prog 4 #[vf, .int .i64 n, vs] w fun e w' => e = .returned (.bool true) ∧ Fr No w w' := by
  obtain ⟨A, c, rfl, _⟩ := id hf
  obtain ⟨A', c', rfl, _⟩ := id hs
  clear hf hs
  rcases h with h | ⟨h, h1⟩
  all_goals
    go_enter Try.func4, Try.ntmps4
    go_wp2_with fail
    refine (CodeR.reads_calls w).mono ?_
    rintro e w1 ⟨rfl, hf⟩
    have F1 := Aside0.mk hf; clear hf
    go_wp2
    go_ret
    exact ⟨rfl, F1.out⟩

set_option maxHeartbeats 4000000 in
set_option maxRecDepth 100000 in
theorem walk_ok (vf : Value) (f : List UInt8) (n : Int) (vs : Value) (s : List UInt8) (w : World) (hf : RdB w vf f) (hs : RdB w vs s) (h1 : f.length ≤ 1000) (h2 : s.length ≤ 5000) : Calls Try.prog 4 #[vf, .int .i64 n, vs] w fun e w' => e = .returned (.bool true) ∧ Fr No w w' := by
  obtain ⟨A, c, rfl, _⟩ := id hf
  obtain ⟨A', c', rfl, _⟩ := id hs
  have HF := Aside0.mk hf; have HS := Aside0.mk hs; clear hf hs
  have h1I : ¬ (1000 : Int) < (f.length : Int) := by omega
  have h2I : ¬ (5000 : Int) < (s.length : Int) := by omega
  have hnl := numI_length n
  have htl : (textB s).length ≤ 5006 := by
    have h6 := numB_length_six (s.take 4096).length (by simp; omega)
    rw [textB, List.length_append, List.length_take]; rw [List.length_take] at h6; omega
  go_enter Try.func4, Try.ntmps4
  go_wp2_with fail
  refine (CodeR.reads_calls w).mono ?_
  rintro e w1 ⟨rfl, hf⟩
  have F1 := Aside0.mk hf; clear hf
  go_wp2_with (at_builtin; refine apBs (.slice (some ⟨w1.heap.size, 0, none⟩) 0 0) [] (.slice A f.length c) f rfl (.tmp 18) (.tmp 19) rfl rfl rfl (own_empty w1) ?c1 ?c2 ?_; (case c1 => exact (HF.out.no F1.out).no ((Fr.refl _ _).alloc _)); (case c2 => simp; omega); intro v2 w2 h1 h2 h3 h4; have G1 := Aside0.mk h1; have G2 := Aside0.mk h2; have G3 := Aside0.mk h3; clear h1 h2 h3 h4)
  have lt1 : ∀ (v : Value) (xs : List UInt8), RdB w v xs → 0 < xs.length → ∀ b, v.ownBlock = some b → b < w1.heap.size := fun v xs hv hn b hb => Nat.lt_of_lt_of_le (Rd.lt (by decide) hv hn b hb) F1.out.size
  have hdr : ∀ x, Fr No x x.drew := fun x => (Fr.refl _ _).drew
  have RD : ∀ (v : Value) (xs : List UInt8), RdB w v xs → RdB w2.drew v xs := fun v xs hv =>
    (((hv.no F1.out).no ((Fr.refl _ _).alloc _)).fr G2.out (fun hn b hb hk => blk_new_ne w1 b (lt1 v xs hv hn b hb) hk)).no (hdr _)
  have ne2 : ∀ (v : Value) (xs : List UInt8), RdB w v xs → 0 < xs.length → ∀ b, v.ownBlock = some b → ¬ blk v2 b := fun v xs hv hn b hb hk =>
    blk_new_ne w1 b (lt1 v xs hv hn b hb) (G3.out.back hk (Nat.lt_of_lt_of_le (lt1 v xs hv hn b hb) (by simp)))
  have Rf := RD _ _ HF.out; have Rs := RD _ _ HS.out
  have Nf := Aside0.mk (ne2 _ _ HF.out); have Ns := Aside0.mk (ne2 _ _ HS.out)
  have O2 : OwB w2.drew v2 f := by simpa using G1.out.no (hdr _)
  have E2 : Fr No w w2.drew := (((F1.out.alloc _).trans G2.out (fun k hk hb => blk_new_ne w1 k (Nat.lt_of_lt_of_le hk F1.out.size) hb))).drew
  have B2 : Aside0 (∀ k, k < w.heap.size → blk v2 k → False) := ⟨fun k hk hb => blk_new_ne w1 k (Nat.lt_of_lt_of_le hk F1.out.size) (G3.out.back hb (Nat.lt_of_lt_of_le (Nat.lt_of_lt_of_le hk F1.out.size) (by simp)))⟩
  have HRf := Aside0.mk Rf; have HRs := Aside0.mk Rs; have HO2 := Aside0.mk O2; have HE2 := Aside0.mk E2
  clear Rf Rs O2 E2 RD ne2
  refine Rg.start (fun _ x => RdB x (.slice A f.length c) f ∧ RdB x (.slice A' s.length c') s) (by kernel_rfl) (by kernel_rfl) [2, 7, 13, 19] [[1, 0, 2], [1, 0, 2, 6, 7], [12, 6, 7, 4, 5, 8, 1, 0, 2, 3, 9, 10, 11, 13], [12, 11, 13, 6, 7, 4, 5, 8, 1, 0, 2, 3, 9, 10, 17, 18, 19]] (by kernel_rfl) [(0, some 0), (1, some 0), (4, some 2), (5, some 2), (6, some 1), (2, none), (3, some 2), (7, none), (8, some 2), (9, some 2), (10, some 2), (11, some 2), (12, some 2), (15, some 4), (16, some 4), (17, some 3), (18, some 3), (13, none), (14, some 4), (19, none), (20, some 4), (21, some 4), (22, some 4), (23, some 4), (24, some 4), (25, some 4), (26, some 4), (27, some 4), (28, some 4), (29, some 4), (30, some 4)] (by kernel_rfl) (by kernel_rfl) ?_ ?_
  · exact fun _ => ⟨HRf.out, HRs.out⟩
  repeat (first
    | (refine Rg.q (o := ?_) (v := ?_) ?_ ?_ ?_ ?_ ?_
       rotate_left 2
       · (simp only [List.getElem?_toArray, List.getElem?_cons_succ, List.getElem?_cons_zero]; rfl)
       · exact fun _ _ _ h => h
       · first | rfl | (go_simp; done)
       · (intro x hx; have q1 := str_of_rd hx.1; have q2 := str_of_rd hx.2; (try dsimp only at hx); go_simp; (try rw [if_neg (by omega)]); try with_reducible rfl)
       try simp only [Act.put, List.setIfInBounds_toArray, List.set_cons_zero, List.set_cons_succ])
    | (refine Rg.skip (o := ?_) ?_ ?_ ?_ ?_
       rotate_left 1
       · (simp only [List.getElem?_toArray, List.getElem?_cons_succ, List.getElem?_cons_zero]; rfl)
       · exact fun _ _ _ h => h
       · first | rfl | (go_simp; done)
       try simp only [Act.put, List.setIfInBounds_toArray, List.set_cons_zero, List.set_cons_succ]))
  refine Rg.e (o := ?_) ?_ ?_
  rotate_left 1
  · (simp only [List.getElem?_toArray, List.getElem?_cons_succ, List.getElem?_cons_zero]; rfl)
  intro K hK
  go_simp
  refine (CodeW.num_calls v2 f n w2.drew HO2.out (by omega)).mono ?_
  rintro e w3 ⟨v3, rfl, g1, g2, g3, g4⟩
  have A1 := Aside0.mk g1; have A2 := Aside0.mk g2; have A4 := Aside0.mk g4; clear g1 g2 g3 g4
  go_simp
  have S3 : Aside0 (RdB w3 (.slice A f.length c) f ∧ RdB w3 (.slice A' s.length c') s) := ⟨HRf.out.fr A2.out Nf.out, HRs.out.fr A2.out Ns.out⟩
  have E3 : Aside0 (Fr No w w3) := ⟨HE2.out.trans A2.out (fun k hk hb => B2.out k hk hb)⟩
  refine hK.out _ _ (fun k x => (RdB x (.slice A f.length c) f ∧ RdB x (.slice A' s.length c') s) ∧ (k ≤ 2 → RdB x v3 (f ++ numI n))) (fun k x hk h => h.1) ?_ ?_
  · exact fun k _ => ⟨S3.out, fun _ => A1.out.rd⟩
  try simp only [Act.put, List.setIfInBounds_toArray, List.set_cons_zero, List.set_cons_succ]
  repeat (first
    | (refine Rg.q (o := ?_) (v := ?_) ?_ ?_ ?_ ?_ ?_
       rotate_left 2
       · (simp only [List.getElem?_toArray, List.getElem?_cons_succ, List.getElem?_cons_zero]; rfl)
       · exact fun _ _ _ h => h
       · first | rfl | (go_simp; done)
       · (intro x hx; have q1 := str_of_rd hx.1.1; have q2 := str_of_rd hx.1.2; (try have q3 := str_of_rd (hx.2 (by decide))); (try dsimp only at hx); go_simp; (try rw [if_neg (by omega)]); try with_reducible rfl)
       try simp only [Act.put, List.setIfInBounds_toArray, List.set_cons_zero, List.set_cons_succ])
    | (refine Rg.skip (o := ?_) ?_ ?_ ?_ ?_
       rotate_left 1
       · (simp only [List.getElem?_toArray, List.getElem?_cons_succ, List.getElem?_cons_zero]; rfl)
       · exact fun _ _ _ h => h
       · first | rfl | (go_simp; done)
       try simp only [Act.put, List.setIfInBounds_toArray, List.set_cons_zero, List.set_cons_succ]))
  refine Rg.e (o := ?_) ?_ ?_
  rotate_left 1
  · (simp only [List.getElem?_toArray, List.getElem?_cons_succ, List.getElem?_cons_zero]; rfl)
  intro K hK
  go_simp
  refine (CodeR.refNum_calls n w3).mono ?_
  rintro e w4 ⟨rfl, g1⟩
  have C1 := Aside0.mk g1; clear g1
  go_simp
  have S4 : Aside0 (RdB w4 (.slice A f.length c) f ∧ RdB w4 (.slice A' s.length c') s) := ⟨S3.out.1.no C1.out, S3.out.2.no C1.out⟩
  have E4 : Aside0 (Fr No w w4) := ⟨E3.out.none C1.out⟩
  have O4 : Aside0 (OwB w4 v2 f) := ⟨A4.out.no C1.out⟩
  refine hK.out _ _ (fun k x => (RdB x (.slice A f.length c) f ∧ RdB x (.slice A' s.length c') s) ∧ (k ≤ 2 → RdB x v3 (f ++ numI n))) (fun k x hk h => h) ?_ ?_
  · exact fun k _ => ⟨S4.out, fun _ => A1.out.rd.no C1.out⟩
  try simp only [Act.put, List.setIfInBounds_toArray, List.set_cons_zero, List.set_cons_succ]
  repeat (first
    | (refine Rg.q (o := ?_) (v := ?_) ?_ ?_ ?_ ?_ ?_
       rotate_left 2
       · (simp only [List.getElem?_toArray, List.getElem?_cons_succ, List.getElem?_cons_zero]; rfl)
       · exact fun _ _ _ h => h
       · first | rfl | (go_simp; done)
       · (intro x hx; have q1 := str_of_rd hx.1.1; have q2 := str_of_rd hx.1.2; (try have q3 := str_of_rd (hx.2 (by decide))); (try dsimp only at hx); go_simp; (try rw [if_neg (by omega)]); try with_reducible rfl)
       try simp only [Act.put, List.setIfInBounds_toArray, List.set_cons_zero, List.set_cons_succ])
    | (refine Rg.skip (o := ?_) ?_ ?_ ?_ ?_
       rotate_left 1
       · (simp only [List.getElem?_toArray, List.getElem?_cons_succ, List.getElem?_cons_zero]; rfl)
       · exact fun _ _ _ h => h
       · first | rfl | (go_simp; done)
       try simp only [Act.put, List.setIfInBounds_toArray, List.set_cons_zero, List.set_cons_succ]))
  refine Rg.e (o := ?_) ?_ ?_
  rotate_left 1
  · (simp only [List.getElem?_toArray, List.getElem?_cons_succ, List.getElem?_cons_zero]; rfl)
  intro K hK
  go_simp
  refine (CodeR.text_calls v2 f _ s w4 O4.out S4.out.2 (by omega) Ns.out).mono ?_
  rintro e w5 ⟨v5, rfl, g1, g2, g3, g4⟩
  have D1 := Aside0.mk g1; have D2 := Aside0.mk g2; have D4 := Aside0.mk g4; clear g1 g2 g3 g4
  go_simp
  have S5 : Aside0 (RdB w5 (.slice A f.length c) f ∧ RdB w5 (.slice A' s.length c') s) := ⟨S4.out.1.fr D2.out Nf.out, S4.out.2.fr D2.out Ns.out⟩
  have E5 : Aside0 (Fr No w w5) := ⟨E4.out.trans D2.out (fun k hk hb => B2.out k hk hb)⟩
  have O5 : Aside0 (OwB w5 v2 f) := ⟨D4.out⟩
  refine hK.out _ _ (fun k x => (RdB x (.slice A f.length c) f ∧ RdB x (.slice A' s.length c') s) ∧ RdB x v2 f ∧ RdB x v5 (f ++ textB s)) (fun k x hk h => ⟨h.1, fun h2 => absurd (Nat.le_trans hk h2) (by decide)⟩) ?_ ?_
  · exact fun k _ => ⟨S5.out, O5.out.rd, D1.out.rd⟩
  try simp only [Act.put, List.setIfInBounds_toArray, List.set_cons_zero, List.set_cons_succ]
  repeat (first
    | (refine Rg.q (o := ?_) (v := ?_) ?_ ?_ ?_ ?_ ?_
       rotate_left 2
       · (simp only [List.getElem?_toArray, List.getElem?_cons_succ, List.getElem?_cons_zero]; rfl)
       · exact fun _ _ _ h => h
       · first | rfl | (go_simp; done)
       · (intro x hx; have q1 := str_of_rd hx.1.1; have q2 := str_of_rd hx.1.2; have q3 := str_of_rd hx.2.1; have q4 := str_of_rd hx.2.2; (try dsimp only at hx); go_simp; (try rw [if_neg (by omega)]); try with_reducible rfl)
       try simp only [Act.put, List.setIfInBounds_toArray, List.set_cons_zero, List.set_cons_succ])
    | (refine Rg.skip (o := ?_) ?_ ?_ ?_ ?_
       rotate_left 1
       · (simp only [List.getElem?_toArray, List.getElem?_cons_succ, List.getElem?_cons_zero]; rfl)
       · exact fun _ _ _ h => h
       · first | rfl | (go_simp; done)
       try simp only [Act.put, List.setIfInBounds_toArray, List.set_cons_zero, List.set_cons_succ]))
  refine Rg.e (o := ?_) ?_ ?_
  rotate_left 1
  · (simp only [List.getElem?_toArray, List.getElem?_cons_succ, List.getElem?_cons_zero]; rfl)
  intro K hK
  go_simp
  refine (CodeR.refText_calls s w5 (by omega)).mono ?_
  rintro e w6 ⟨rfl, g1⟩
  have I1 := Aside0.mk g1; clear g1
  go_simp
  have E6 : Aside0 (Fr No w w6) := ⟨E5.out.none I1.out⟩
  refine hK.out _ _ (fun k x => (RdB x (.slice A f.length c) f ∧ RdB x (.slice A' s.length c') s) ∧ RdB x v2 f ∧ RdB x v5 (f ++ textB s)) (fun k x hk h => h) ?_ ?_
  · exact fun k _ => ⟨⟨S5.out.1.no I1.out, S5.out.2.no I1.out⟩, O5.out.rd.no I1.out, D1.out.rd.no I1.out⟩
  try simp only [Act.put, List.setIfInBounds_toArray, List.set_cons_zero, List.set_cons_succ]
  repeat (first
    | (refine Rg.q (o := ?_) (v := ?_) ?_ ?_ ?_ ?_ ?_
       rotate_left 2
       · (simp only [List.getElem?_toArray, List.getElem?_cons_succ, List.getElem?_cons_zero]; rfl)
       · exact fun _ _ _ h => h
       · first | rfl | (go_simp; done)
       · (intro x hx; have q1 := str_of_rd hx.1.1; have q2 := str_of_rd hx.1.2; have q3 := str_of_rd hx.2.1; have q4 := str_of_rd hx.2.2; (try dsimp only at hx); go_simp; (try rw [if_neg (by omega)]); try with_reducible rfl)
       try simp only [Act.put, List.setIfInBounds_toArray, List.set_cons_zero, List.set_cons_succ])
    | (refine Rg.skip (o := ?_) ?_ ?_ ?_ ?_
       rotate_left 1
       · (simp only [List.getElem?_toArray, List.getElem?_cons_succ, List.getElem?_cons_zero]; rfl)
       · exact fun _ _ _ h => h
       · first | rfl | (go_simp; done)
       try simp only [Act.put, List.setIfInBounds_toArray, List.set_cons_zero, List.set_cons_succ]))
  refine Rg.done ?_
  go_simp
  go_wp2
  go_ret
  exact ⟨rfl, E6.out⟩

theorem walk (vf : Value) (f : List UInt8) (n : Int) (vs : Value) (s : List UInt8) (w : World) (hf : RdB w vf f ∧ f.length ≤ reach) (_ : (Lit.int .i64 n).wf = true) (hs : RdB w vs s ∧ s.length ≤ reach) : Calls Try.prog 4 #[vf, .int .i64 n, vs] w fun e w' => e = .returned (.bool true) ∧ Fr No w w' := by
  by_cases h1 : f.length ≤ 1000
  · by_cases h2 : s.length ≤ 5000
    · exact walk_ok vf f n vs s w hf.1 hs.1 h1 h2
    · exact walk_out vf f n vs s w hf.1 hs.1 (.inr ⟨h1, by omega⟩)
  · exact walk_out vf f n vs s w hf.1 hs.1 (.inl (by omega))
end Go.Proofs.Ytdicjcpcohclaaa.LCodeWrites
