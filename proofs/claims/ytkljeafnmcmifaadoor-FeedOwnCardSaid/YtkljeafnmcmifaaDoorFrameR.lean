/- frame.Head, frame.Read. -/
import Derived.Test.YtkljeafnmcmifaaDoorFrameW
set_option linter.unusedVariables false
set_option linter.unusedSimpArgs false
namespace Go.Proofs.YtkljeafnmcmifaaDoor.Frm
open Go.RowKit Go.Proofs.YtkljeafnmcmifaaDoorW.PrintWords Go.Proofs.YtkljeafnmcmifaaDoor.B Go.Proofs.YtkljeafnmcmifaaDoor.PB Go.Proofs.YtkljeafnmcmifaaDoor.SCode Go.Proofs.YtkljeafnmcmifaaDoor.Rdr
attribute [local go_sem] B.max2_int B.min2_int B.max_two B.min_two

/-- What a head tells: kind, stream, its own length, its data's, the error. -/
def headS (b : List UInt8) : Nat × Nat × Nat × Nat × Option (Nat × Nat) :=
  match (rByte b ⟨0, none⟩).1.err with
  | some e => (0, 0, 0, 0, some e)
  | none =>
    if (rByte b ⟨0, none⟩).2.toNat / 8 = 0 then (0, 0, 0, 0, some (0, 40))
    else match (rNum b (rByte b ⟨0, none⟩).1).1.err with
      | some e => (0, 0, 0, 0, some e)
      | none =>
        if 16384 < (rNum b (rByte b ⟨0, none⟩).1).2 then (0, 0, 0, 0, some (1, 2))
        else ((rByte b ⟨0, none⟩).2.toNat / 8, (rByte b ⟨0, none⟩).2.toNat % 8, (rNum b (rByte b ⟨0, none⟩).1).1.at_, (rNum b (rByte b ⟨0, none⟩).1).2, none)

/-- A world behind a store of a whole frame. -/
abbrev put3 (w : World) (g : Nat) (k s : Int) (d : Value) : World := ((w.setCell ⟨g, 0, none⟩ (.int .i64 k)).setCell ⟨g, 1, none⟩ (.int .i64 s)).setCell ⟨g, 2, none⟩ d
theorem put3_heap {w : World} {g : Nat} {a b c : Value} (h : w.heap[g]? = some (.cells #[a, b, c] 39 (0, 0))) (k s : Int) (d : Value) : (put3 w g k s d).heap[g]? = some (.cells #[.int .i64 k, .int .i64 s, d] 39 (0, 0)) := by
  simpa using blk_set (blk_set (blk_set h 0 (.int .i64 k)) 1 (.int .i64 s)) 2 d
theorem put3_fr {w0 w : World} (h : Fr No w0 w) {g : Nat} (hg : w0.heap.size ≤ g) (k s : Int) (d : Value) : Fr No w0 (put3 w g k s d) :=
  ((h.setCell (p := ⟨g, 0, none⟩) (.inr hg) _).setCell (p := ⟨g, 1, none⟩) (.inr hg) _).setCell (p := ⟨g, 2, none⟩) (.inr hg) _
theorem put3_size (w : World) (g : Nat) (k s : Int) (d : Value) : (put3 w g k s d).heap.size = w.heap.size := by simp [put3, World.setCell]

theorem put3_fr' (w : World) (g : Nat) (k s : Int) (d : Value) : Fr (one g) w (put3 w g k s d) :=
  (((Fr.refl (one g) w).setCell (p := ⟨g, 0, none⟩) (.inl rfl) _).setCell (p := ⟨g, 1, none⟩) (.inl rfl) _).setCell (p := ⟨g, 2, none⟩) (.inl rfl) _
theorem frame_ne {w : World} {g : Nat} {cs : Array Value} (h : w.heap[g]? = some (.cells cs 39 (0, 0))) : ∀ b cs', w.heap[b]? = some (.cells cs' 56 (0, 0)) → ¬ one g b := by
  rintro b cs' hb rfl
  rw [h] at hb
  injection hb with hb
  injection hb with _ ht
  exact absurd ht (by decide)

set_option maxHeartbeats 1000000 in
set_option maxRecDepth 100000 in
theorem head_calls (v : Value) (b : List UInt8) (w : World) (hv : RdB w v b) : Calls Tryd.prog 22 #[v] w fun e w' => ∃ ev, e = .returned (.tuple #[frV ((headS b).1 : Nat) ((headS b).2.1 : Nat) (.slice none 0 0), .int .i64 ((headS b).2.2.1 : Nat), .int .i64 ((headS b).2.2.2.1 : Nat), ev]) ∧ IsErr w' ev (headS b).2.2.2.2 ∧ Fr No w w' := by
  obtain ⟨q1, hq1⟩ : ∃ q, rByte b ⟨0, none⟩ = q := ⟨_, rfl⟩
  obtain ⟨⟨a1, e1⟩, x⟩ := q1
  obtain ⟨q2, hq2⟩ : ∃ q, rNum b ⟨a1, e1⟩ = q := ⟨_, rfl⟩
  obtain ⟨⟨a2, e2⟩, n⟩ := q2
  obtain ⟨res, hres⟩ : ∃ q, headS b = q := ⟨_, rfl⟩
  rw [hres]
  have HR := Aside0.mk hres
  unfold headS at hres
  simp only [hq1, hq2] at hres
  have hx8 : wrap64 (x.toNat : Int) / 8 = ((x.toNat / 8 : Nat) : Int) := by
    have : ∀ x : Nat, x < 256 → wrap64 (x : Int) / 8 = ((x / 8 : Nat) : Int) := by decide +kernel
    exact this _ x.toNat_lt
  have hx7 : bits BinOp.and .i64 (wrap64 (x.toNat : Int)) 7 = ((x.toNat % 8 : Nat) : Int) := by
    have : ∀ x : Nat, x < 256 → bits BinOp.and .i64 (wrap64 (x : Int)) 7 = ((x % 8 : Nat) : Int) := by decide +kernel
    exact this _ x.toNat_lt
  have HX8 := Aside0.mk hx8; have HX7 := Aside0.mk hx7; clear hx8 hx7
  obtain ⟨A, c, rfl, _⟩ := id hv
  have HV := Aside0.mk hv; have HQ1 := Aside0.mk hq1; have HQ2 := Aside0.mk hq2; clear hv hq1 hq2
  go_enter Tryd.func22, Tryd.ntmps22
  go_wp2_with fail
  refine (read_calls (HV.out.no ((Fr.refl _ _).alloc _))).mono ?_
  rintro e w1 ⟨rfl, hs, hf⟩
  have S1 : Aside0 (St w1 (w.heap.size + 1) (.slice A b.length c) b ⟨0, none⟩) := ⟨by simpa using hs⟩
  have F1 := Aside0.mk hf; clear hs hf
  go_wp2_with fail
  refine (byte_calls S1.out).mono ?_
  rw [HQ1.out]
  rintro e w2 ⟨rfl, hs, hf⟩
  have S2 := Aside0.mk hs; have F2 := Aside0.mk hf; clear hs hf
  go_wp2_with fail
  rw [HX8.out, HX7.out]
  refine (err_calls (S2.out.no ((Fr.refl _ _).alloc _))).mono ?_
  rintro e w3 ⟨ev, he, rfl, hw⟩
  have HW := Aside0.mk hw; clear hw
  have hb2 : w2.heap[w.heap.size]? = some (.cells #[.int .i64 0, .int .i64 0, .slice none 0 0] 39 (0, 0)) := F2.out.heap (F1.out.heap (blk_new w _) id) (fun h => by have : w.heap.size = w.heap.size + 1 := h; omega)
  have HB2 := Aside0.mk hb2
  have hl : w.heap.size < w2.heap.size := blk_lt hb2
  have hc0 : w2.cell? ⟨w.heap.size, 0, none⟩ = some (.int .i64 0) := by rw [blk_cell hb2]; rfl
  have hc1 : w2.cell? ⟨w.heap.size, 1, none⟩ = some (.int .i64 0) := by rw [blk_cell hb2]; rfl
  have hc2 : w2.cell? ⟨w.heap.size, 2, none⟩ = some (.slice none 0 0) := by rw [blk_cell hb2]; rfl
  have hf0 : w2.frozen? ⟨w.heap.size, 0, none⟩ = false := blk_frozen hb2 _
  have hf1 : w2.frozen? ⟨w.heap.size, 1, none⟩ = false := blk_frozen hb2 _
  have hf2 : w2.frozen? ⟨w.heap.size, 2, none⟩ = false := blk_frozen hb2 _
  have E2 : Aside0 (Fr No w w2) := ⟨(((Fr.refl No w).alloc _).none F1.out).trans F2.out (fun k hk h => by have : k = w.heap.size + 1 := h; omega)⟩
  clear hb2
  rcases e1 with _ | q
  · obtain rfl : ev = .nilIface := he
    by_cases h8 : x.toNat / 8 = 0
    · simp only [if_pos h8] at hres
      subst hres
      have h8I : ((x.toNat / 8 : Nat) : Int) = 0 := by omega
      rw [← HW.out]
      go_wp2
      have hz := put3_heap HB2.out 0 0 (.slice none 0 0)
      (try simp only [Exit.inBlock, Exit.then]); refine bodyPost_ret (results_list (rs := [.cell 2 39, .tmp 3, .tmp 4, .tmp 5]) rfl (by simp) (.cell w.heap.size 39 #[.int .i64 0, .int .i64 0, .slice none 0 0] (0, 0) _ rfl (blk_alloc (blk_alloc hz _) _) Tryd.underlying39 rfl (by kernel_rfl) (.tmp (.tmp (.tmp .nil))))) rfl ?_
      refine ⟨_, rfl, ⟨w2.heap.size + 1, rfl, ?_⟩, ((put3_fr E2.out (Nat.le_refl _) 0 0 _).alloc _).alloc _⟩
      have := blk_new ((put3 w2 w.heap.size 0 0 (.slice none 0 0)).alloc (.cells #[.int .i64 0, .int .i64 (x.toNat % 8), .slice none 0 0] 39)) (.cells #[.int .i64 (0 : Nat), .int .i64 (40 : Nat)] 56 (0, 0))
      simpa [World.setCell] using this
    · have h8I : ¬ ((x.toNat / 8 : Nat) : Int) = 0 := by omega
      simp only [if_neg h8] at hres
      rw [← HW.out]
      go_wp2_with fail
      refine (num_calls (S2.out.no ((Fr.refl _ _).alloc _))).mono ?_
      rw [HQ2.out]
      rintro e w4 ⟨rfl, hs, hf⟩
      have S4 := Aside0.mk hs; have F4 := Aside0.mk hf; clear hs hf
      have lr : w.heap.size + 1 < w2.heap.size := by obtain ⟨ev, h, _⟩ := S2.out.cells; exact blk_lt h
      have hb4 : w4.heap[w.heap.size]? = some (.cells #[.int .i64 0, .int .i64 0, .slice none 0 0] 39 (0, 0)) := F4.out.heap (blk_alloc HB2.out _) (fun h => by have : w.heap.size = w.heap.size + 1 := h; omega)
      have hbF : w4.heap[w2.heap.size]? = some (.cells #[.int .i64 (x.toNat / 8 : Nat), .int .i64 (x.toNat % 8 : Nat), .slice none 0 0] 39 (0, 0)) := F4.out.heap (blk_new w2 _) (fun h => by have : w2.heap.size = w.heap.size + 1 := h; omega)
      have E4 : Aside0 (Fr No w w4) := ⟨(E2.out.alloc _).trans F4.out (fun k hk h => by have : k = w.heap.size + 1 := h; omega)⟩
      have HB4 := Aside0.mk hb4; have HBF := Aside0.mk hbF
      clear hc0 hc1 hc2 hf0 hf1 hf2 hl
      have hl : w.heap.size < w4.heap.size := blk_lt hb4
      have hc0 : w4.cell? ⟨w.heap.size, 0, none⟩ = some (.int .i64 0) := by rw [blk_cell hb4]; rfl
      have hc1 : w4.cell? ⟨w.heap.size, 1, none⟩ = some (.int .i64 0) := by rw [blk_cell hb4]; rfl
      have hc2 : w4.cell? ⟨w.heap.size, 2, none⟩ = some (.slice none 0 0) := by rw [blk_cell hb4]; rfl
      have hf0 : w4.frozen? ⟨w.heap.size, 0, none⟩ = false := blk_frozen hb4 _
      have hf1 : w4.frozen? ⟨w.heap.size, 1, none⟩ = false := blk_frozen hb4 _
      have hf2 : w4.frozen? ⟨w.heap.size, 2, none⟩ = false := blk_frozen hb4 _
      clear hb4 hbF
      go_wp2_with fail
      refine (err_calls S4.out).mono ?_
      rintro e w5 ⟨ev, he, rfl, hw⟩
      have HW5 := Aside0.mk hw; clear hw
      rcases e2 with _ | q
      · obtain rfl : ev = .nilIface := he
        by_cases hn : 16384 < n
        · simp only [if_pos hn] at hres
          subst hres
          have hnI : (16384 : Int) < (n : Int) := by omega
          rw [← HW5.out]
          go_wp2
          have hz := put3_heap HB4.out 0 0 (.slice none 0 0)
          (try simp only [Exit.inBlock, Exit.then]); refine bodyPost_ret (results_list (rs := [.cell 2 39, .tmp 3, .tmp 4, .tmp 5]) rfl (by simp) (.cell w.heap.size 39 #[.int .i64 0, .int .i64 0, .slice none 0 0] (0, 0) _ rfl (blk_alloc hz _) Tryd.underlying39 rfl (by kernel_rfl) (.tmp (.tmp (.tmp .nil))))) rfl ?_
          refine ⟨_, rfl, ⟨w4.heap.size, rfl, ?_⟩, (put3_fr E4.out (Nat.le_refl _) 0 0 _).alloc _⟩
          have := blk_new (put3 w4 w.heap.size 0 0 (.slice none 0 0)) (.cells #[.int .i64 (1 : Nat), .int .i64 (2 : Nat)] 56 (0, 0))
          simpa [World.setCell] using this
        · simp only [if_neg hn] at hres
          subst hres
          have hnI : ¬ (16384 : Int) < (n : Int) := by omega
          rw [← HW5.out]
          clear hc0 hc1 hc2 hf0 hf1 hf2 hl
          go_wp2
          refine Rg.start (fun k' y => k' ≤ 1 → y.heap[w2.heap.size]? = some (.cells #[.int .i64 (x.toNat / 8 : Nat), .int .i64 (x.toNat % 8 : Nat), .slice none 0 0] 39 (0, 0))) (by kernel_rfl) (by kernel_rfl) [2, 4] [[1, 2], [1, 2, 0, 4]] (by kernel_rfl) (.q 0 1 (.q 1 0 (.q 3 2 (.e 2 1 (.e 4 2 (.q 5 2 (.q 6 2 (.q 7 2 (.done))))))))) (by kernel_rfl) ?_ ?_
          · exact fun _ _ => HBF.out
          repeat (first
            | (refine Rg.q (o := ?_) (v := ?_) ?_ ?_ ?_ ?_ ?_
               rotate_left 2
               · (simp only [List.getElem?_toArray, List.getElem?_cons_succ, List.getElem?_cons_zero]; rfl)
               · exact fun _ _ _ h => h
               · first | rfl | (go_simp; done)
               · (intro x_ hx; (try dsimp only at hx); (try have q0 := (fun i => blk_cell (hx (by decide)) i)); go_simp; (try rw [if_neg (by omega)]); (try rw [if_pos (by omega)]); (try go_simp); try with_reducible rfl)
               try simp only [Act.put, List.setIfInBounds_toArray, List.set_cons_zero, List.set_cons_succ])
            | (refine Rg.skip (o := ?_) ?_ ?_ ?_ ?_
               rotate_left 1
               · (simp only [List.getElem?_toArray, List.getElem?_cons_succ, List.getElem?_cons_zero]; rfl)
               · exact fun _ _ _ h => h
               · first | rfl | (go_simp; done)
               try simp only [Act.put, List.setIfInBounds_toArray, List.set_cons_zero, List.set_cons_succ]))
          refine Rg.e (o := ?_) ?_ ?_
          rotate_left 1
          · (simp only [List.getElem?_toArray, List.getElem?_cons_succ, List.getElem?_cons_zero]; rfl)
          intro K hK
          go_simp
          refine (at_calls (S4.out.no (Fr.refl _ _).drew)).mono ?_
          rintro e w6 ⟨rfl, hw6⟩
          subst hw6
          go_simp
          refine hK.out _ _ (fun k' y => k' ≤ 1 → y.heap[w2.heap.size]? = some (.cells #[.int .i64 (x.toNat / 8 : Nat), .int .i64 (x.toNat % 8 : Nat), .slice none 0 0] 39 (0, 0))) (fun k x hk h => h) ?_ ?_
          · exact fun _ _ _ => HBF.out
          try simp only [Act.put, List.setIfInBounds_toArray, List.set_cons_zero, List.set_cons_succ]
          repeat (first
            | (refine Rg.q (o := ?_) (v := ?_) ?_ ?_ ?_ ?_ ?_
               rotate_left 2
               · (simp only [List.getElem?_toArray, List.getElem?_cons_succ, List.getElem?_cons_zero]; rfl)
               · exact fun _ _ _ h => h
               · first | rfl | (go_simp; done)
               · (intro x_ hx; (try dsimp only at hx); (skip); go_simp; (try rw [if_neg (by omega)]); (try rw [if_pos (by omega)]); (try go_simp); try with_reducible rfl)
               try simp only [Act.put, List.setIfInBounds_toArray, List.set_cons_zero, List.set_cons_succ])
            | (refine Rg.skip (o := ?_) ?_ ?_ ?_ ?_
               rotate_left 1
               · (simp only [List.getElem?_toArray, List.getElem?_cons_succ, List.getElem?_cons_zero]; rfl)
               · exact fun _ _ _ h => h
               · first | rfl | (go_simp; done)
               try simp only [Act.put, List.setIfInBounds_toArray, List.set_cons_zero, List.set_cons_succ]))
          have hl : w.heap.size < w4.heap.size := blk_lt HB4.out
          have hc0 : w4.cell? ⟨w.heap.size, 0, none⟩ = some (.int .i64 0) := by rw [blk_cell HB4.out]; rfl
          have hc1 : w4.cell? ⟨w.heap.size, 1, none⟩ = some (.int .i64 0) := by rw [blk_cell HB4.out]; rfl
          have hc2 : w4.cell? ⟨w.heap.size, 2, none⟩ = some (.slice none 0 0) := by rw [blk_cell HB4.out]; rfl
          have hf0 : w4.frozen? ⟨w.heap.size, 0, none⟩ = false := blk_frozen HB4.out _
          have hf1 : w4.frozen? ⟨w.heap.size, 1, none⟩ = false := blk_frozen HB4.out _
          have hf2 : w4.frozen? ⟨w.heap.size, 2, none⟩ = false := blk_frozen HB4.out _
          refine Rg.e (o := ?_) ?_ ?_
          rotate_left 1
          · (simp only [List.getElem?_toArray, List.getElem?_cons_succ, List.getElem?_cons_zero]; rfl)
          intro K hK
          go_simp
          clear hc0 hc1 hc2 hf0 hf1 hf2
          refine hK.out _ _ (fun _ _ => True) (fun k x hk h h2 => absurd (Nat.le_trans hk h2) (by decide)) ?_ ?_
          · exact fun _ _ => trivial
          try simp only [Act.put, List.setIfInBounds_toArray, List.set_cons_zero, List.set_cons_succ]
          repeat (first
            | (refine Rg.q (o := ?_) (v := ?_) ?_ ?_ ?_ ?_ ?_
               rotate_left 2
               · (simp only [List.getElem?_toArray, List.getElem?_cons_succ, List.getElem?_cons_zero]; rfl)
               · exact fun _ _ _ h => h
               · first | rfl | (go_simp; done)
               · (intro x_ hx; (try dsimp only at hx); (skip); go_simp; (try rw [if_neg (by omega)]); (try rw [if_pos (by omega)]); (try go_simp); try with_reducible rfl)
               try simp only [Act.put, List.setIfInBounds_toArray, List.set_cons_zero, List.set_cons_succ])
            | (refine Rg.skip (o := ?_) ?_ ?_ ?_ ?_
               rotate_left 1
               · (simp only [List.getElem?_toArray, List.getElem?_cons_succ, List.getElem?_cons_zero]; rfl)
               · exact fun _ _ _ h => h
               · first | rfl | (go_simp; done)
               try simp only [Act.put, List.setIfInBounds_toArray, List.set_cons_zero, List.set_cons_succ]))
          refine Rg.done ?_
          go_simp
          go_wp2
          have hz := put3_heap HB4.out (x.toNat / 8 : Nat) (x.toNat % 8 : Nat) (.slice none 0 0)
          (try simp only [Exit.inBlock, Exit.then]); refine bodyPost_ret (results_list (rs := [.cell 2 39, .tmp 3, .tmp 4, .tmp 5]) rfl (by simp) (.cell w.heap.size 39 #[.int .i64 (x.toNat / 8 : Nat), .int .i64 (x.toNat % 8 : Nat), .slice none 0 0] (0, 0) _ rfl hz Tryd.underlying39 rfl (by kernel_rfl) (.tmp (.tmp (.tmp .nil))))) rfl ?_
          exact ⟨_, rfl, rfl, (put3_fr E4.out (Nat.le_refl _) _ _ _).drew⟩
      · have hq := he
        obtain ⟨fb, rfl, hfb⟩ := he
        simp only [] at hres
        subst hres
        rw [← HW5.out]
        have HQ := Aside0.mk hq; clear hq hfb
        go_wp2
        have hz := put3_heap HB4.out 0 0 (.slice none 0 0)
        (try simp only [Exit.inBlock, Exit.then]); refine bodyPost_ret (results_list (rs := [.cell 2 39, .tmp 3, .tmp 4, .tmp 5]) rfl (by simp) (.cell w.heap.size 39 #[.int .i64 0, .int .i64 0, .slice none 0 0] (0, 0) _ rfl hz Tryd.underlying39 rfl (by kernel_rfl) (.tmp (.tmp (.tmp .nil))))) rfl ?_
        refine ⟨_, rfl, ?_, put3_fr E4.out (Nat.le_refl _) 0 0 _⟩
        exact HQ.out.fr (put3_fr' w4 w.heap.size 0 0 _) (frame_ne HB4.out)
  · simp only [] at hres
    subst hres
    have hq := he
    obtain ⟨fb, rfl, hfb⟩ := he
    have HQ2' := HQ2.out
    rw [show rNum b ⟨a1, some q⟩ = (⟨a1, some q⟩, 0) from rfl] at HQ2'
    injection HQ2' with h1 h2
    injection h1 with h1 h3
    subst h1 h2 h3
    clear hq hfb
    rw [← HW.out]
    go_wp2_with fail
    refine (num_calls (S2.out.no ((Fr.refl _ _).alloc _))).mono ?_
    rw [HQ2.out]
    rintro e w4 ⟨rfl, hs, hf⟩
    have S4 := Aside0.mk hs; have F4 := Aside0.mk hf; clear hs hf
    have lr : w.heap.size + 1 < w2.heap.size := by obtain ⟨ev, h, _⟩ := S2.out.cells; exact blk_lt h
    have hb4 : w4.heap[w.heap.size]? = some (.cells #[.int .i64 0, .int .i64 0, .slice none 0 0] 39 (0, 0)) := F4.out.heap (blk_alloc HB2.out _) (fun h => by have : w.heap.size = w.heap.size + 1 := h; omega)
    have E4 : Aside0 (Fr No w w4) := ⟨(E2.out.alloc _).trans F4.out (fun k hk h => by have : k = w.heap.size + 1 := h; omega)⟩
    have HB4 := Aside0.mk hb4
    clear hc0 hc1 hc2 hf0 hf1 hf2 hl
    have hl : w.heap.size < w4.heap.size := blk_lt hb4
    have hc0 : w4.cell? ⟨w.heap.size, 0, none⟩ = some (.int .i64 0) := by rw [blk_cell hb4]; rfl
    have hc1 : w4.cell? ⟨w.heap.size, 1, none⟩ = some (.int .i64 0) := by rw [blk_cell hb4]; rfl
    have hc2 : w4.cell? ⟨w.heap.size, 2, none⟩ = some (.slice none 0 0) := by rw [blk_cell hb4]; rfl
    have hf0 : w4.frozen? ⟨w.heap.size, 0, none⟩ = false := blk_frozen hb4 _
    have hf1 : w4.frozen? ⟨w.heap.size, 1, none⟩ = false := blk_frozen hb4 _
    have hf2 : w4.frozen? ⟨w.heap.size, 2, none⟩ = false := blk_frozen hb4 _
    clear hb4
    go_wp2_with fail
    refine (err_calls S4.out).mono ?_
    rintro e w5 ⟨ev, he, rfl, hw⟩
    have HW5 := Aside0.mk hw; clear hw
    have hq := he
    obtain ⟨fb', rfl, hfb⟩ := he
    rw [← HW5.out]
    have HQ := Aside0.mk hq; clear hq hfb
    go_wp2
    have hz := put3_heap HB4.out 0 0 (.slice none 0 0)
    (try simp only [Exit.inBlock, Exit.then]); refine bodyPost_ret (results_list (rs := [.cell 2 39, .tmp 3, .tmp 4, .tmp 5]) rfl (by simp) (.cell w.heap.size 39 #[.int .i64 0, .int .i64 0, .slice none 0 0] (0, 0) _ rfl hz Tryd.underlying39 rfl (by kernel_rfl) (.tmp (.tmp (.tmp .nil))))) rfl ?_
    refine ⟨_, rfl, ?_, put3_fr E4.out (Nat.le_refl _) 0 0 _⟩
    exact HQ.out.fr (put3_fr' w4 w.heap.size 0 0 _) (frame_ne HB4.out)
end Go.Proofs.YtkljeafnmcmifaaDoor.Frm
