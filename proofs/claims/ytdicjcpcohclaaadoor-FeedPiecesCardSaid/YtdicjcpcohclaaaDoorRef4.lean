/- The document's Read of a frame (chapter 04). -/
import Derived.Test.YtdicjcpcohclaaaDoorRef3
import Derived.Test.YtdicjcpcohclaaaDoorFrameD
set_option linter.unusedVariables false
set_option linter.unusedSimpArgs false
namespace Go.Proofs.YtdicjcpcohclaaaDoor.Ref4
open Go.RowKit Go.Proofs.YtdicjcpcohclaaaDoorW.PrintWords Go.Proofs.YtdicjcpcohclaaaDoor.B Go.Proofs.YtdicjcpcohclaaaDoor.PB Go.Proofs.YtdicjcpcohclaaaDoor.SCode Go.Proofs.YtdicjcpcohclaaaDoor.Frm Go.Proofs.YtdicjcpcohclaaaDoor.Ref3

/-- A frame of the document's, as cells. -/
abbrev fc (k s : Int) (d : List UInt8) : Array Value := #[.int .i64 k, .int .i64 s, .string (bstr d)]
def oc (e : Option (Nat × Nat)) : Nat := (e.map (·.2)).getD 0
def op (e : Option (Nat × Nat)) : Nat := (e.map (·.1)).getD 0
theorem ok_num1 {b : List UInt8} {r : R} (h : ok b r) (hr : r.err = none) : ok b (rNum b r).1 := by
  obtain ⟨h1, h2, h3⟩ := h
  refine ⟨?_, h2, fun q hq => ?_⟩
  · unfold rNum; rw [hr]; exact rNumL_le _ _ _ _ _ _ h1
  · have : ∀ (fuel k n : Nat) (r : R), (∀ q, r.err = some q → 0 < q.2) → ∀ q, (rNumL b r.at_ fuel k n r).1.err = some q → 0 < q.2 := by
      intro fuel k n r _ q
      revert q
      generalize r.at_ = f
      have hb : ∀ r : R, (∀ q, r.err = some q → 0 < q.2) → ∀ q, (rByte b r).1.err = some q → 0 < q.2 := by
        intro r hr q hq
        unfold rByte at hq
        split at hq
        · exact hr q hq
        · split at hq
          · rename_i h1 _; rw [h1] at hq; cases hq
          · injection hq with hq; subst hq; exact Nat.succ_pos _
      have hf : ∀ (r : R) (a e : Nat), 0 < e → (∀ q, r.err = some q → 0 < q.2) → ∀ q, (r.fail a e).err = some q → 0 < q.2 := by
        intro r a e he hr q hq
        unfold R.fail at hq
        split at hq
        · injection hq with hq; subst hq; exact he
        · exact hr q hq
      rename_i hp
      revert hp
      revert r n k
      induction fuel with
      | zero => intro k n r hp q hq; exact hp q hq
      | succ fuel ih =>
        intro k n r hp q hq
        have h1 := hb r hp
        unfold rNumL at hq
        simp only [] at hq
        split at hq
        · exact h1 q hq
        · split at hq
          · exact hf _ _ _ (by decide) h1 q hq
          · split at hq
            · split at hq
              · exact hf _ _ _ (by decide) h1 q hq
              · exact h1 q hq
            · exact ih _ _ _ h1 q hq
    unfold rNum at hq
    rw [hr] at hq
    exact this _ _ _ _ h3 q hq

set_option maxHeartbeats 4000000 in
set_option maxRecDepth 100000 in
theorem read_calls (b : List UInt8) (hb : b.length ≤ 4611686018427387904) (w : World) : Calls Tryd.prog 38 #[.string (bstr b)] w fun e w' => e = .returned (.tuple #[.agg (fc ((readS b).1 : Nat) ((readS b).2.1 : Nat) (readS b).2.2.1), .int .i64 ((readS b).2.2.2.1 : Nat), .int .i64 (oc (readS b).2.2.2.2 : Nat), .int .i64 (op (readS b).2.2.2.2 : Nat)]) ∧ Fr No w w' := by
  cases b with
  | nil =>
    rw [show readS [] = (0, 0, [], 0, some (0, 30)) by decide]
    go_enter Tryd.func38, Tryd.ntmps38
    go_wp2_with (refine PB.stRow (.tmp 2) (.tmp 11) 63 w.heap.size 63 _ (fc 0 0 []) rfl rfl rfl rfl (heap_alloc_new w _) (by kernel_rfl) rfl (by simp [Value.oneCell']) ?_; rw [World.setRow_alloc_new])
    (try simp only [Exit.inBlock, Exit.then]); refine bodyPost_ret (results_list (rs := [.cell 2 63, .tmp 3, .tmp 4, .tmp 5]) rfl (by simp) (.cell w.heap.size 63 (fc 0 0 []) (0, 0) _ rfl (heap_alloc_new w _) Tryd.underlying63 rfl (by kernel_rfl) (.tmp (.tmp (.tmp .nil))))) rfl ?_
    exact ⟨rfl, (Fr.refl _ _).alloc _⟩
  | cons x b' =>
    obtain ⟨b, hbb⟩ : ∃ b, x :: b' = b := ⟨_, rfl⟩
    have hx0 : b[0]? = some x := by rw [← hbb]; rfl
    have hne : b.isEmpty = false := by rw [← hbb]; rfl
    have hl0 : 0 < b.length := by rw [← hbb]; simp
    rw [hbb] at hb ⊢
    clear hbb
    have hq1 : rByte b ⟨0, none⟩ = (⟨1, none⟩, x) := by
      have := (List.getElem?_eq_some_iff.1 hx0).2
      simp [rByte, hl0, this]
    obtain ⟨⟨⟨a2, e2⟩, n⟩, hq2⟩ : ∃ q, rNum b ⟨1, none⟩ = q := ⟨_, rfl⟩
    have hok : ok b ⟨a2, e2⟩ := by have := ok_num1 (b := b) (r := ⟨1, none⟩) ⟨hl0, hb, fun q h => by cases h⟩ rfl; rw [hq2] at this; exact this
    obtain ⟨res, hres⟩ : ∃ q, readS b = q := ⟨_, rfl⟩
    rw [hres]
    unfold readS headS at hres
    simp only [hq1, hq2] at hres
    have hsz : (bstr b).size = b.length := bstr_size b
    have hxv : ∀ (h : 0 < (bstr b).size), (bstr b)[0] = x := fun h => bstr_get b 0 x hx0 h
    have HX := Aside0.mk hxv; have HOK := Aside0.mk hok; have HQ2 := Aside0.mk hq2
    have hw8 : wrap64 (x.toNat : Int) = (x.toNat : Int) := wrap_u8 x
    clear hx0 hxv hok hq2 hq1 hsz
    by_cases h8 : x.toNat / 8 = 0
    · simp only [if_pos h8] at hres
      subst hres
      have h8I : (x.toNat : Int) < 8 := by omega
      go_enter Tryd.func38, Tryd.ntmps38
      go_upto_region 4 with fail
      simp only [HX.out, hw8]
      go_wp2_with (refine PB.stRow (.tmp 2) (.tmp 17) 63 w.heap.size 63 _ (fc 0 0 []) rfl rfl rfl rfl (heap_alloc_new w _) (by kernel_rfl) rfl (by simp [Value.oneCell']) ?_; rw [World.setRow_alloc_new])
      (try simp only [Exit.inBlock, Exit.then]); refine bodyPost_ret (results_list (rs := [.cell 2 63, .tmp 3, .tmp 4, .tmp 5]) rfl (by simp) (.cell w.heap.size 63 (fc 0 0 []) (0, 0) _ rfl (heap_alloc_new w _) Tryd.underlying63 rfl (by kernel_rfl) (.tmp (.tmp (.tmp .nil))))) rfl ?_
      exact ⟨rfl, (Fr.refl _ _).alloc _⟩
    · simp only [if_neg h8] at hres
      have h8I : ¬ (x.toNat : Int) < 8 := by omega
      go_enter Tryd.func38, Tryd.ntmps38
      go_upto_region 4 with fail
      simp only [HX.out, hw8]
      go_wp2_with fail
      refine (Ref3.number_calls b ⟨1, none⟩ ⟨hl0, hb, fun q h => by cases h⟩ _).mono ?_
      rw [HQ2.out]
      rintro e w1 ⟨rfl, hf⟩
      have hz := hf.heap (heap_alloc_new w _) id
      have F1 : Fr No w w1 := ((Fr.refl _ _).alloc _).none hf
      obtain ⟨c1, hc1⟩ : ∃ c : Int, ((cd ⟨a2, e2⟩ : Nat) : Int) = c := ⟨_, rfl⟩
      obtain ⟨d1, hd1⟩ : ∃ d : Int, ((bd ⟨a2, e2⟩ : Nat) : Int) = d := ⟨_, rfl⟩
      unfold rv
      rw [hc1, hd1]
      dsimp only
      have HSZ := Aside0.mk (blk_lt hz)
      have hr := heap_alloc_new w1 (.cells (rc b a2 c1 d1) 44)
      have hz2 := blk_alloc hz (.cells (rc b a2 c1 d1) 44)
      have F2 : Fr No w (w1.alloc (.cells (rc b a2 c1 d1) 44)) := F1.alloc _
      have HR := Aside0.mk hr; have HZ := Aside0.mk hz2; have HF := Aside0.mk F2
      clear hf hz hr hz2 F1 F2
      go_upto_region 7 with (refine PB.stRow (.tmp 7) (.tmp 22) 44 w1.heap.size 44 _ (rc b a2 c1 d1) rfl rfl rfl rfl HR.out (by kernel_rfl) rfl (by simp [Value.oneCell']) ?_; rw [World.setRow_alloc_new])
      generalize w1.alloc (.cells (rc b a2 c1 d1) 44) = w2 at HR HZ HF ⊢
      have k1 : w2.cell? ⟨w1.heap.size, 1, none⟩ = some (.int .i64 a2) := by rw [blk_cell HR.out]; rfl
      have k2 : w2.cell? ⟨w1.heap.size, 2, none⟩ = some (.int .i64 c1) := by rw [blk_cell HR.out]; rfl
      have k3 : w2.cell? ⟨w1.heap.size, 3, none⟩ = some (.int .i64 d1) := by rw [blk_cell HR.out]; rfl
      rcases e2 with _ | ⟨p, e⟩
      · obtain rfl : c1 = 0 := hc1.symm
        obtain rfl : d1 = 0 := hd1.symm
        clear hc1 hd1
        dsimp only at hres
        by_cases hn : 16384 < n
        · simp only [if_pos hn] at hres
          subst hres
          have hnI : (16384 : Int) < (n : Int) := by omega
          go_wp2_with (refine PB.stRow (.tmp 2) (.tmp 34) 63 w.heap.size 63 _ (fc 0 0 []) rfl rfl rfl rfl HZ.out (by kernel_rfl) rfl (by simp [Value.oneCell']) ?_)
          (try simp only [Exit.inBlock, Exit.then]); refine bodyPost_ret (results_list (rs := [.cell 2 63, .tmp 3, .tmp 4, .tmp 5]) rfl (by simp) (.cell w.heap.size 63 (fc 0 0 []) (0, 0) _ rfl (setRow_heap _ _ _ _ _ _ HZ.out) Tryd.underlying63 rfl (by kernel_rfl) (.tmp (.tmp (.tmp .nil))))) rfl ?_
          exact ⟨rfl, fr_setRow HF.out (.inr (Nat.le_refl _)) _⟩
        · simp only [if_neg hn] at hres
          have hnI : ¬ (16384 : Int) < (n : Int) := by omega
          have ha2 := HOK.out.1
          dsimp only at ha2
          by_cases hs : b.length - a2 < n
          · simp only [if_pos hs] at hres
            subst hres
            have hsI : (b.length : Int) - (a2 : Int) < (n : Int) := by omega
            go_wp2_with (refine PB.stRow (.tmp 2) (.tmp 42) 63 w.heap.size 63 _ (fc 0 0 []) rfl rfl rfl rfl HZ.out (by kernel_rfl) rfl (by simp [Value.oneCell']) ?_)
            (try simp only [Exit.inBlock, Exit.then]); refine bodyPost_ret (results_list (rs := [.cell 2 63, .tmp 3, .tmp 4, .tmp 5]) rfl (by simp) (.cell w.heap.size 63 (fc 0 0 []) (0, 0) _ rfl (setRow_heap _ _ _ _ _ _ HZ.out) Tryd.underlying63 rfl (by kernel_rfl) (.tmp (.tmp (.tmp .nil))))) rfl ?_
            exact ⟨rfl, fr_setRow HF.out (.inr (Nat.le_refl _)) _⟩
          · simp only [if_neg hs] at hres
            have hsI : ¬ (b.length : Int) - (a2 : Int) < (n : Int) := by omega
            go_wp2
            have FD : Aside0 (Fr (one w.heap.size) w2 w2.drew) := ⟨(Fr.refl _ _).drew⟩
            have hne1 : ¬ one w.heap.size w1.heap.size := fun e => by
              have e' : w1.heap.size = w.heap.size := e
              have := HSZ.out
              omega
            have hq8 : IntKind.i64.wrap ((x.toNat : Int) / 8) = ((x.toNat / 8 : Nat) : Int) := by rw [IntKind.wrap_i64]; have := x.toNat_lt; omega
            have hr8 : IntKind.i64.wrap ((x.toNat : Int) % 8) = ((x.toNat % 8 : Nat) : Int) := by rw [IntKind.wrap_i64]; have := x.toNat_lt; omega
            have had : IntKind.i64.wrap ((a2 : Int) + (n : Int)) = (a2 : Int) + (n : Int) := by rw [IntKind.wrap_i64]; omega
            have hcut : ∀ W : World, (Instr.slice 9 (.string (bstr b)) (some (.int .i64 (a2 : Int))) (some (.int .i64 ((a2 : Int) + (n : Int)))) none).run Tryd.prog W = .ok (.string (bstr ((b.drop a2).take n))) W := fun W => by
              rw [run_slice_string W 9 (bstr b) .i64 .i64 _ _ Tryd.underlying9 (by omega) (by omega) (by rw [bstr_size]; omega), bstr_extract, show ((a2 : Int) + (n : Int)).toNat = a2 + n by omega, Int.toNat_natCast, List.drop_take, Nat.add_sub_cancel_left]
            refine Rg.start (fun _ x => Fr (one w.heap.size) w2 x) (by kernel_rfl) (by kernel_rfl) [17] [[9, 7, 8, 10, 5, 6, 4, 11, 2, 3, 0, 1, 12, 17]] (by kernel_rfl) (.q 0 0 (.q 1 0 (.q 2 0 (.q 3 0 (.q 4 0 (.q 5 0 (.q 6 0 (.q 7 0 (.q 8 0 (.q 9 0 (.q 10 0 (.q 11 0 (.q 12 0 (.q 13 1 (.q 14 1 (.q 15 1 (.q 16 1 (.e 17 1 (.q 18 1 (.q 19 1 (.q 20 1 (.done)))))))))))))))))))))) (by kernel_rfl) ?_ ?_
            · exact fun _ => FD.out
            repeat (first
              | (refine Rg.q (o := ?_) (v := ?_) ?_ ?_ ?_ ?_ ?_
                 rotate_left 2
                 · (simp only [List.getElem?_toArray, List.getElem?_cons_succ, List.getElem?_cons_zero]; rfl)
                 · exact fun _ _ _ h => h
                 · first | rfl | (go_simp; done)
                 · (intro x_ hx; (try dsimp only at hx); (have q1 := hx.cell k1 hne1); go_simp; (try rw [if_neg (by omega)]); (try rw [if_pos (by omega)]); (try go_simp); try with_reducible rfl)
                 try simp only [Act.put, List.setIfInBounds_toArray, List.set_cons_zero, List.set_cons_succ])
              | (refine Rg.skip (o := ?_) ?_ ?_ ?_ ?_
                 rotate_left 1
                 · (simp only [List.getElem?_toArray, List.getElem?_cons_succ, List.getElem?_cons_zero]; rfl)
                 · exact fun _ _ _ h => h
                 · first | rfl | (go_simp; done)
                 try simp only [Act.put, List.setIfInBounds_toArray, List.set_cons_zero, List.set_cons_succ]))
            refine Rg.e (o := ?_) ?_ ?_
            rotate_left 1
            · (simp only [List.getElem?_toArray, List.getElem?_cons_succ, List.getElem?_cons_zero]; rfl)
            intro K hK
            rw [if_pos (by first | rfl | (go_simp; done))]
            refine PB.opStRow (.tmp 2) (.tmp 57) 63 w.heap.size 63 _ (fc ((x.toNat / 8 : Nat) : Int) ((x.toNat % 8 : Nat) : Int) ((b.drop a2).take n)) rfl rfl rfl HZ.out (by kernel_rfl) rfl (by simp [Value.oneCell']) ?_
            have F3 : Aside0 (Fr (one w.heap.size) w2 (w2.drew.setRow w.heap.size (fc ((x.toNat / 8 : Nat) : Int) ((x.toNat % 8 : Nat) : Int) ((b.drop a2).take n)))) := ⟨fr_setRow FD.out (.inl rfl) _⟩
            refine hK.out _ _ (fun _ x => Fr (one w.heap.size) w2 x) (fun k x hk h => h) ?_ ?_
            · exact fun _ _ => F3.out
            try simp only [Act.put, List.setIfInBounds_toArray, List.set_cons_zero, List.set_cons_succ]
            repeat (first
              | (refine Rg.q (o := ?_) (v := ?_) ?_ ?_ ?_ ?_ ?_
                 rotate_left 2
                 · (simp only [List.getElem?_toArray, List.getElem?_cons_succ, List.getElem?_cons_zero]; rfl)
                 · exact fun _ _ _ h => h
                 · first | rfl | (go_simp; done)
                 · (intro x_ hx; (try dsimp only at hx); (have q1 := hx.cell k1 hne1; have q2 := hx.cell k2 hne1; have q3 := hx.cell k3 hne1); go_simp; (try rw [if_neg (by omega)]); (try rw [if_pos (by omega)]); (try go_simp); try with_reducible rfl)
                 try simp only [Act.put, List.setIfInBounds_toArray, List.set_cons_zero, List.set_cons_succ])
              | (refine Rg.skip (o := ?_) ?_ ?_ ?_ ?_
                 rotate_left 1
                 · (simp only [List.getElem?_toArray, List.getElem?_cons_succ, List.getElem?_cons_zero]; rfl)
                 · exact fun _ _ _ h => h
                 · first | rfl | (go_simp; done)
                 try simp only [Act.put, List.setIfInBounds_toArray, List.set_cons_zero, List.set_cons_succ]))
            refine Rg.done ?_
            go_simp
            go_wp2
            (try simp only [Exit.inBlock, Exit.then]); refine bodyPost_ret (results_list (rs := [.cell 2 63, .tmp 3, .tmp 4, .tmp 5]) rfl (by simp) (.cell w.heap.size 63 (fc ((x.toNat / 8 : Nat) : Int) ((x.toNat % 8 : Nat) : Int) ((b.drop a2).take n)) (0, 0) _ rfl (setRow_heap _ _ _ _ _ _ HZ.out) Tryd.underlying63 rfl (by kernel_rfl) (.tmp (.tmp (.tmp .nil))))) rfl ?_
            subst hres
            exact ⟨rfl, fr_setRow (HF.out.drew) (.inr (Nat.le_refl _)) _⟩
      · have HC1 := Aside0.mk hc1; have HD1 := Aside0.mk hd1
        have he0 : 0 < e := HOK.out.2.2 _ rfl
        have hce : (c1 != 0) = true := by rw [bne_iff_ne, ← hc1]; dsimp only [cd]; omega
        dsimp only at hres
        subst hres
        clear hc1 hd1 he0
        go_wp2
        have FD : Aside0 (Fr (one w.heap.size) w2 w2.drew) := ⟨(Fr.refl _ _).drew⟩
        have hne1 : ¬ one w.heap.size w1.heap.size := fun e => by
          have e' : w1.heap.size = w.heap.size := e
          have := HSZ.out
          omega
        refine Rg.start (fun _ x => Fr (one w.heap.size) w2 x) (by kernel_rfl) (by kernel_rfl) [5] [[0, 5]] (by kernel_rfl) (.q 0 0 (.q 1 1 (.q 2 1 (.q 3 1 (.q 4 1 (.e 5 1 (.q 6 1 (.q 7 1 (.q 8 1 (.done)))))))))) (by kernel_rfl) ?_ ?_
        · exact fun _ => FD.out
        repeat (first
          | (refine Rg.q (o := ?_) (v := ?_) ?_ ?_ ?_ ?_ ?_
             rotate_left 2
             · (simp only [List.getElem?_toArray, List.getElem?_cons_succ, List.getElem?_cons_zero]; rfl)
             · exact fun _ _ _ h => h
             · first | rfl | (go_simp; done)
             · (intro x_ hx; (try dsimp only at hx); (have q1 := hx.cell k1 hne1; have q2 := hx.cell k2 hne1; have q3 := hx.cell k3 hne1); go_simp; (try rw [if_neg (by omega)]); (try rw [if_pos (by omega)]); (try go_simp); try with_reducible rfl)
             try simp only [Act.put, List.setIfInBounds_toArray, List.set_cons_zero, List.set_cons_succ])
          | (refine Rg.skip (o := ?_) ?_ ?_ ?_ ?_
             rotate_left 1
             · (simp only [List.getElem?_toArray, List.getElem?_cons_succ, List.getElem?_cons_zero]; rfl)
             · exact fun _ _ _ h => h
             · first | rfl | (go_simp; done)
             try simp only [Act.put, List.setIfInBounds_toArray, List.set_cons_zero, List.set_cons_succ]))
        refine Rg.e (o := ?_) ?_ ?_
        rotate_left 1
        · (simp only [List.getElem?_toArray, List.getElem?_cons_succ, List.getElem?_cons_zero]; rfl)
        intro K hK
        rw [if_pos (by first | rfl | (go_simp; done))]
        refine PB.opStRow (.tmp 2) (.tmp 27) 63 w.heap.size 63 _ (fc 0 0 []) rfl rfl rfl HZ.out (by kernel_rfl) rfl (by simp [Value.oneCell']) ?_
        have F3 : Aside0 (Fr (one w.heap.size) w2 (w2.drew.setRow w.heap.size (fc 0 0 []))) := ⟨fr_setRow FD.out (.inl rfl) _⟩
        refine hK.out _ _ (fun _ x => Fr (one w.heap.size) w2 x) (fun k x hk h => h) ?_ ?_
        · exact fun _ _ => F3.out
        try simp only [Act.put, List.setIfInBounds_toArray, List.set_cons_zero, List.set_cons_succ]
        repeat (first
          | (refine Rg.q (o := ?_) (v := ?_) ?_ ?_ ?_ ?_ ?_
             rotate_left 2
             · (simp only [List.getElem?_toArray, List.getElem?_cons_succ, List.getElem?_cons_zero]; rfl)
             · exact fun _ _ _ h => h
             · first | rfl | (go_simp; done)
             · (intro x_ hx; (try dsimp only at hx); (have q1 := hx.cell k1 hne1; have q2 := hx.cell k2 hne1; have q3 := hx.cell k3 hne1); go_simp; (try rw [if_neg (by omega)]); (try rw [if_pos (by omega)]); (try go_simp); try with_reducible rfl)
             try simp only [Act.put, List.setIfInBounds_toArray, List.set_cons_zero, List.set_cons_succ])
          | (refine Rg.skip (o := ?_) ?_ ?_ ?_ ?_
             rotate_left 1
             · (simp only [List.getElem?_toArray, List.getElem?_cons_succ, List.getElem?_cons_zero]; rfl)
             · exact fun _ _ _ h => h
             · first | rfl | (go_simp; done)
             try simp only [Act.put, List.setIfInBounds_toArray, List.set_cons_zero, List.set_cons_succ]))
        refine Rg.done ?_
        go_simp
        go_wp2
        (try simp only [Exit.inBlock, Exit.then]); refine bodyPost_ret (results_list (rs := [.cell 2 63, .tmp 3, .tmp 4, .tmp 5]) rfl (by simp) (.cell w.heap.size 63 (fc 0 0 []) (0, 0) _ rfl (setRow_heap _ _ _ _ _ _ HZ.out) Tryd.underlying63 rfl (by kernel_rfl) (.tmp (.tmp (.tmp .nil))))) rfl ?_
        refine ⟨?_, fr_setRow (HF.out.drew) (.inr (Nat.le_refl _)) _⟩
        rw [← HC1.out, ← HD1.out]
        rfl
end Go.Proofs.YtdicjcpcohclaaaDoor.Ref4
