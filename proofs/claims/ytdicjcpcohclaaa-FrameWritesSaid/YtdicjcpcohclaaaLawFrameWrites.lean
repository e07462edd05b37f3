/- The walk of the law FrameWrites. -/
import Derived.Test.YtdicjcpcohclaaaFrameL
set_option linter.unusedVariables false
set_option linter.unusedSimpArgs false
namespace Go.Proofs.Ytdicjcpcohclaaa.LFrameWrites
open Go.RowKit Go.Proofs.YtdicjcpcohclaaaW.PrintWords Go.Proofs.Ytdicjcpcohclaaa.B Go.Proofs.Ytdicjcpcohclaaa.PB Go.Proofs.Ytdicjcpcohclaaa.SCode Go.Proofs.Ytdicjcpcohclaaa.Rdr Go.Proofs.Ytdicjcpcohclaaa.Frm
attribute [local go_sem] B.max2_int B.min2_int B.max_two B.min_two

theorem walk_out (k s : Int) (d vf : Value) (ds f : List UInt8) (w : World) (hd : RdB w d ds) (hf : RdB w vf f) (h : 100 < f.length) : Calls Try.prog 10 #[frV k s d, vf] w fun e w' => e = .returned (.bool true) ∧ Fr No w w' := by
  obtain ⟨A, c, rfl, _⟩ := id hf
  obtain ⟨Ad, cd, rfl, _⟩ := id hd
  have hI : (100 : Int) < (f.length : Int) := by omega
  clear hf hd
  go_enter Try.func10, Try.ntmps10
  go_wp2_with fail
  refine (readsF_calls _).mono ?_
  rintro e w1 ⟨rfl, hf⟩
  have F1 := Aside0.mk hf; clear hf
  go_wp2
  go_ret
  exact ⟨rfl, ((Fr.refl No w).alloc _).none F1.out⟩

set_option maxHeartbeats 4000000 in
set_option maxRecDepth 100000 in
theorem walk_ok (k s : Int) (d vf : Value) (ds f : List UInt8) (w : World) (hd : RdB w d ds) (hf : RdB w vf f) (h1 : f.length ≤ 100) : Calls Try.prog 10 #[frV k s d, vf] w fun e w' => e = .returned (.bool true) ∧ Fr No w w' := by
  obtain ⟨A, c, rfl, _⟩ := id hf
  obtain ⟨Ad, cd, rfl, _⟩ := id hd
  have HF := Aside0.mk hf; have HD := Aside0.mk hd; clear hf hd
  have h1I : ¬ (100 : Int) < (f.length : Int) := by omega
  go_enter Try.func10, Try.ntmps10
  go_wp2_with fail
  refine (readsF_calls _).mono ?_
  rintro e w1 ⟨rfl, hf⟩
  have hb1 : w1.heap[w.heap.size]? = some (.cells #[.int .i64 k, .int .i64 s, .slice Ad ds.length cd] 46 (0, 0)) := hf.heap (blk_new w _) id
  have HB := Aside0.mk hb1
  have F1 : Aside0 (Fr No w w1) := ⟨((Fr.refl No w).alloc _).none hf⟩
  have hsz : w.heap.size < w1.heap.size := blk_lt hb1
  clear hf hb1
  have lt1 : ∀ (v : Value) (xs : List UInt8), RdB w v xs → 0 < xs.length → ∀ b, v.ownBlock = some b → b < w1.heap.size := fun v xs hv hn b hb => Nat.lt_of_lt_of_le (Rd.lt (by decide) hv hn b hb) F1.out.size
  go_wp2
  refine Rg.start (fun k' x => k' ≤ 2 → x.heap[w.heap.size]? = some (.cells #[.int .i64 k, .int .i64 s, .slice Ad ds.length cd] 46 (0, 0))) (by kernel_rfl) (by kernel_rfl) [1, 3, 4] [[1], [2, 1, 3], [2, 1, 3, 0, 4]] (by kernel_rfl) (.q 0 2 (.q 2 1 (.e 1 1 (.e 3 2 (.e 4 3 (.q 5 3 (.q 6 3 (.q 7 3 (.q 8 3 (.q 9 3 (.done))))))))))) (by kernel_rfl) ?_ ?_
  · exact fun _ _ => HB.out
  repeat (first
    | (refine Rg.q (o := ?_) (v := ?_) ?_ ?_ ?_ ?_ ?_
       rotate_left 2
       · (simp only [List.getElem?_toArray, List.getElem?_cons_succ, List.getElem?_cons_zero]; rfl)
       · exact fun _ _ _ h => h
       · first | rfl | (go_simp; done)
       · (intro x_ hx; (try dsimp only at hx); (try have q0 := (fun i => blk_cell (hx (by decide)) i)); go_simp; (try rw [if_neg (by omega)]); try with_reducible rfl)
       try simp only [Act.put, List.setIfInBounds_toArray, List.set_cons_zero, List.set_cons_succ])
    | (refine Rg.skip (o := ?_) ?_ ?_ ?_ ?_
       rotate_left 1
       · (simp only [List.getElem?_toArray, List.getElem?_cons_succ, List.getElem?_cons_zero]; rfl)
       · exact fun _ _ _ h => h
       · first | rfl | (go_simp; done)
       try simp only [Act.put, List.setIfInBounds_toArray, List.set_cons_zero, List.set_cons_succ]))
  refine Rg.e (o := ?_) ?_ ?_
  rotate_left 1
  · (simp only [List.getElem?_toArray, List.getElem?_cons_succ, List.getElem?_cons_zero]; rfl)
  intro K hK
  go_simp
  refine hK.out _ _ (fun k' x => k' ≤ 2 → x.heap[w.heap.size]? = some (.cells #[.int .i64 k, .int .i64 s, .slice Ad ds.length cd] 46 (0, 0))) (fun k x hk h => h) ?_ ?_
  · exact fun _ _ _ => blk_alloc HB.out _
  try simp only [Act.put, List.setIfInBounds_toArray, List.set_cons_zero, List.set_cons_succ]
  repeat (first
    | (refine Rg.q (o := ?_) (v := ?_) ?_ ?_ ?_ ?_ ?_
       rotate_left 2
       · (simp only [List.getElem?_toArray, List.getElem?_cons_succ, List.getElem?_cons_zero]; rfl)
       · exact fun _ _ _ h => h
       · first | rfl | (go_simp; done)
       · (intro x_ hx; (try dsimp only at hx); (try have q0 := (fun i => blk_cell (hx (by decide)) i)); go_simp; (try rw [if_neg (by omega)]); try with_reducible rfl)
       try simp only [Act.put, List.setIfInBounds_toArray, List.set_cons_zero, List.set_cons_succ])
    | (refine Rg.skip (o := ?_) ?_ ?_ ?_ ?_
       rotate_left 1
       · (simp only [List.getElem?_toArray, List.getElem?_cons_succ, List.getElem?_cons_zero]; rfl)
       · exact fun _ _ _ h => h
       · first | rfl | (go_simp; done)
       try simp only [Act.put, List.setIfInBounds_toArray, List.set_cons_zero, List.set_cons_succ]))
  refine Rg.e (o := ?_) ?_ ?_
  rotate_left 1
  · (simp only [List.getElem?_toArray, List.getElem?_cons_succ, List.getElem?_cons_zero]; rfl)
  intro K hK
  rw [if_pos (by first | rfl | (go_simp; done))]
  have hdr : ∀ x, Fr No x x.drew := fun x => (Fr.refl _ _).drew
  have hA : Fr No w1 (w1.alloc (.cells #[] 5)).drew := ((Fr.refl _ _).alloc _).drew
  refine opBs (.slice (some ⟨w1.heap.size, 0, none⟩) 0 0) [] (.slice A f.length c) f (.tmp 16) (.tmp 17) rfl rfl rfl ((own_empty w1).no (hdr _)) ((HF.out.no F1.out).no hA) (by simp; omega) ?_
  intro v2 w2 h1 h2 h3 h4
  have nb : ∀ q, q < w1.heap.size → blk (.slice (some ⟨w1.heap.size, 0, none⟩) 0 0) q → False := fun q hq hb => by have h9 : w1.heap.size = q := Option.some.inj hb; omega
  have F2 : Aside0 (Fr No w1 w2) := ⟨hA.trans h2 (fun q hq hb => nb q hq hb)⟩
  have NV : Aside0 (∀ q, q < w1.heap.size → ¬ blk v2 q) := ⟨fun q hq hb => nb q hq (h3.back hb (Nat.lt_of_lt_of_le hq hA.size))⟩
  have O2 : Aside0 (OwB w2 v2 f) := ⟨by simpa using h1⟩
  clear h1 h2 h3 h4 nb hA
  refine hK.out _ _ (fun k' x => k' ≤ 2 → x.heap[w.heap.size]? = some (.cells #[.int .i64 k, .int .i64 s, .slice Ad ds.length cd] 46 (0, 0))) (fun k x hk h => h) ?_ ?_
  · exact fun _ _ _ => F2.out.heap HB.out id
  try simp only [Act.put, List.setIfInBounds_toArray, List.set_cons_zero, List.set_cons_succ]
  refine Rg.e (o := ?_) ?_ ?_
  rotate_left 1
  · (simp only [List.getElem?_toArray, List.getElem?_cons_succ, List.getElem?_cons_zero]; rfl)
  intro K hK
  go_simp
  have RD2 : Aside0 (RdB w2 (.slice Ad ds.length cd) ds) := ⟨(HD.out.no F1.out).no F2.out⟩
  have RF2 : Aside0 (RdB w2 (.slice A f.length c) f) := ⟨(HF.out.no F1.out).no F2.out⟩
  by_cases he : checkE k s ds.length = 0
  · refine (append_calls k s _ v2 ds f w2 he O2.out RD2.out (by omega) (fun hn b hb => NV.out b (lt1 _ _ HD.out hn b hb))).mono ?_
    rintro e w3 ⟨v3, rfl, g⟩
    have F3 : Aside0 (Fr No w1 w3) := ⟨F2.out.trans g.fr (fun q hq hb => NV.out q hq hb)⟩
    have R3 : Aside0 (RdB w3 v3 (f ++ frameB k s ds)) := ⟨g.own.rd⟩
    clear g
    go_simp
    refine hK.out _ _ (fun k' x => True) (fun k x hk h => fun h2 => absurd (Nat.le_trans hk h2) (by decide)) ?_ ?_
    · exact fun _ _ => trivial
    try simp only [Act.put, List.setIfInBounds_toArray, List.set_cons_zero, List.set_cons_succ]
    repeat (first
      | (refine Rg.q (o := ?_) (v := ?_) ?_ ?_ ?_ ?_ ?_
         rotate_left 2
         · (simp only [List.getElem?_toArray, List.getElem?_cons_succ, List.getElem?_cons_zero]; rfl)
         · exact fun _ _ _ h => h
         · first | rfl | (go_simp; done)
         · (intro x_ hx; (try dsimp only at hx); (skip); go_simp; (try rw [if_neg (by omega)]); try with_reducible rfl)
         try simp only [Act.put, List.setIfInBounds_toArray, List.set_cons_zero, List.set_cons_succ])
      | (refine Rg.skip (o := ?_) ?_ ?_ ?_ ?_
         rotate_left 1
         · (simp only [List.getElem?_toArray, List.getElem?_cons_succ, List.getElem?_cons_zero]; rfl)
         · exact fun _ _ _ h => h
         · first | rfl | (go_simp; done)
         try simp only [Act.put, List.setIfInBounds_toArray, List.set_cons_zero, List.set_cons_succ]))
    refine Rg.done ?_
    have hb3 : w3.heap[w.heap.size]? = some (.cells #[.int .i64 k, .int .i64 s, .slice Ad ds.length cd] 46 (0, 0)) := F3.out.heap HB.out id
    have c0 : w3.cell? ⟨w.heap.size, 0, none⟩ = some (.int .i64 k) := by rw [blk_cell hb3]; rfl
    have c1 : w3.cell? ⟨w.heap.size, 1, none⟩ = some (.int .i64 s) := by rw [blk_cell hb3]; rfl
    have c2 : w3.cell? ⟨w.heap.size, 2, none⟩ = some (.slice Ad ds.length cd) := by rw [blk_cell hb3]; rfl
    go_simp
    go_wp2_with fail
    refine (plain_calls k s _ ds w3 ((HD.out.no F1.out).no F3.out)).mono ?_
    rintro e w4 ⟨rfl, hf⟩
    have F4 : Aside0 (Fr No w1 w4) := ⟨F3.out.none hf⟩
    have R4 : Aside0 (RdB w4 v3 (f ++ frameB k s ds)) := ⟨R3.out.no hf⟩
    clear hf c0 c1 c2
    go_wp2_with fail
    refine (write_calls k s ds w4 he).mono ?_
    rintro e w5 ⟨rfl, hf⟩
    have F5 : Aside0 (Fr No w1 w5) := ⟨F4.out.none hf⟩
    have R5 : Aside0 (RdB w5 v3 (f ++ frameB k s ds)) := ⟨R4.out.no hf⟩
    clear hf
    have q1 := str_of_rd R5.out
    have q2 := str_of_rd ((HF.out.no F1.out).no F5.out)
    have hb5 : w5.heap[w.heap.size]? = some (.cells #[.int .i64 k, .int .i64 s, .slice Ad ds.length cd] 46 (0, 0)) := F5.out.heap HB.out id
    have c0 : w5.cell? ⟨w.heap.size, 0, none⟩ = some (.int .i64 k) := by rw [blk_cell hb5]; rfl
    have c1 : w5.cell? ⟨w.heap.size, 1, none⟩ = some (.int .i64 s) := by rw [blk_cell hb5]; rfl
    have c2 : w5.cell? ⟨w.heap.size, 2, none⟩ = some (.slice Ad ds.length cd) := by rw [blk_cell hb5]; rfl
    have hfl : (frameB k s ds).length ≤ 20000 := by
      have := numI_length (ds.length : Int)
      have := checkE_ok he
      simp [frameB]; omega
    go_wp2_with fail
    refine (check_calls k s _ _ _ w5).mono ?_
    rw [he]
    rintro e w6 ⟨rfl, hf⟩
    have F6 : Aside0 (Fr No w1 w6) := ⟨F5.out.none hf⟩
    clear hf
    go_wp2
    go_ret
    exact ⟨rfl, F1.out.none F6.out⟩
  · refine (append_bad_calls k s _ _ _ v2 w2 he).mono ?_
    rintro e w3 ⟨rfl, hf⟩
    have F3 : Aside0 (Fr No w1 w3) := ⟨F2.out.none hf⟩
    clear hf
    go_simp
    refine hK.out _ _ (fun k' x => True) (fun k x hk h => fun h2 => absurd (Nat.le_trans hk h2) (by decide)) ?_ ?_
    · exact fun _ _ => trivial
    try simp only [Act.put, List.setIfInBounds_toArray, List.set_cons_zero, List.set_cons_succ]
    repeat (first
      | (refine Rg.q (o := ?_) (v := ?_) ?_ ?_ ?_ ?_ ?_
         rotate_left 2
         · (simp only [List.getElem?_toArray, List.getElem?_cons_succ, List.getElem?_cons_zero]; rfl)
         · exact fun _ _ _ h => h
         · first | rfl | (go_simp; done)
         · (intro x_ hx; (try dsimp only at hx); (skip); go_simp; (try rw [if_neg (by omega)]); try with_reducible rfl)
         try simp only [Act.put, List.setIfInBounds_toArray, List.set_cons_zero, List.set_cons_succ])
      | (refine Rg.skip (o := ?_) ?_ ?_ ?_ ?_
         rotate_left 1
         · (simp only [List.getElem?_toArray, List.getElem?_cons_succ, List.getElem?_cons_zero]; rfl)
         · exact fun _ _ _ h => h
         · first | rfl | (go_simp; done)
         try simp only [Act.put, List.setIfInBounds_toArray, List.set_cons_zero, List.set_cons_succ]))
    refine Rg.done ?_
    have hb3 : w3.heap[w.heap.size]? = some (.cells #[.int .i64 k, .int .i64 s, .slice Ad ds.length cd] 46 (0, 0)) := F3.out.heap HB.out id
    have c0 : w3.cell? ⟨w.heap.size, 0, none⟩ = some (.int .i64 k) := by rw [blk_cell hb3]; rfl
    have c1 : w3.cell? ⟨w.heap.size, 1, none⟩ = some (.int .i64 s) := by rw [blk_cell hb3]; rfl
    have c2 : w3.cell? ⟨w.heap.size, 2, none⟩ = some (.slice Ad ds.length cd) := by rw [blk_cell hb3]; rfl
    go_simp
    go_wp2_with fail
    refine (plain_calls k s _ ds w3 ((HD.out.no F1.out).no F3.out)).mono ?_
    rintro e w4 ⟨rfl, hf⟩
    have F4 : Aside0 (Fr No w1 w4) := ⟨F3.out.none hf⟩
    clear hf c0 c1 c2
    go_wp2_with fail
    refine (write_bad_calls k s ds w4 he).mono ?_
    rintro e w5 ⟨rfl, hf⟩
    have F5 : Aside0 (Fr No w1 w5) := ⟨F4.out.none hf⟩
    clear hf
    have hb5 : w5.heap[w.heap.size]? = some (.cells #[.int .i64 k, .int .i64 s, .slice Ad ds.length cd] 46 (0, 0)) := F5.out.heap HB.out id
    have c0 : w5.cell? ⟨w.heap.size, 0, none⟩ = some (.int .i64 k) := by rw [blk_cell hb5]; rfl
    have c1 : w5.cell? ⟨w.heap.size, 1, none⟩ = some (.int .i64 s) := by rw [blk_cell hb5]; rfl
    have c2 : w5.cell? ⟨w.heap.size, 2, none⟩ = some (.slice Ad ds.length cd) := by rw [blk_cell hb5]; rfl
    go_wp2_with fail
    refine (check_calls k s _ _ _ w5).mono ?_
    rintro e w6 ⟨rfl, hf⟩
    have F6 : Aside0 (Fr No w1 w6) := ⟨F5.out.none hf⟩
    clear hf
    go_wp2
    go_ret
    exact ⟨rfl, F1.out.none F6.out⟩

theorem walk (k s : Int) (d : Value) (ds : List UInt8) (vf : Value) (f : List UInt8) (w : World) (hd : RdB w d ds ∧ ds.length ≤ reach) (hf : RdB w vf f ∧ f.length ≤ reach) : Calls Try.prog 10 #[.agg #[.int .i64 k, .int .i64 s, d], vf] w fun e w' => e = .returned (.bool true) ∧ Fr No w w' := by
  by_cases h1 : f.length ≤ 100
  · exact walk_ok k s d vf ds f w hd.1 hf.1 h1
  · exact walk_out k s d vf ds f w hd.1 hf.1 (by omega)
end Go.Proofs.Ytdicjcpcohclaaa.LFrameWrites
