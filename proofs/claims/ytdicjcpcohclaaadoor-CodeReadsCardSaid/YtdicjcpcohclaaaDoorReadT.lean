/- The Reader's Text. -/
import Derived.Test.YtdicjcpcohclaaaDoorReader
import Derived.Test.YtdicjcpcohclaaaDoorRegion
import Derived.Test.YtdicjcpcohclaaaDoorCutR
set_option linter.unusedVariables false
set_option linter.unusedSimpArgs false
namespace Go.Proofs.YtdicjcpcohclaaaDoor.Rdr
open Go.RowKit Go.Proofs.YtdicjcpcohclaaaDoorW.PrintWords Go.Proofs.YtdicjcpcohclaaaDoor.B Go.Proofs.YtdicjcpcohclaaaDoor.PB Go.Proofs.YtdicjcpcohclaaaDoor.SCode

set_option maxHeartbeats 4000000 in
set_option maxRecDepth 100000 in
theorem text_calls {w : World} {g : Nat} {v : Value} {b : List UInt8} {r : R} (h : St w g v b r) (hbl : b.length ≤ 140737488351232) :
    Calls Tryd.prog 21 #[.pointer (some ⟨g, 0, none⟩)] w fun en w' => ∃ d, en = .returned d ∧ OwB w' d (rText b r).2 ∧ St w' g v b (rText b r).1 ∧ Fr (one g) w w' ∧ (∀ k, d.ownBlock = some k → w.heap.size ≤ k) := by
  obtain ⟨A, c, rfl⟩ := h.slice
  obtain ⟨ev, he, hb, h0, h1, h2, hf1, hf2, hl⟩ := h.open_
  have H := Aside0.mk h
  have hat := h.at_le
  obtain ⟨⟨r1, n⟩, hq⟩ : ∃ q, rNum b r = q := ⟨_, rfl⟩
  obtain ⟨res, hres⟩ : ∃ res, rText b r = res := ⟨_, rfl⟩
  rw [hres]
  have HRES := Aside0.mk hres
  have hrt := hres
  unfold rText at hrt
  simp only [hq] at hrt
  have HQ := Aside0.mk hq; have HRT := Aside0.mk hrt
  clear hq hrt hres he hb h0 h2 hf1 hf2 h
  go_enter Tryd.func21, Tryd.ntmps21
  go_wp2_with fail
  refine (num_calls H.out).mono ?_
  rw [HQ.out]
  rintro e w1 ⟨rfl, hs1, hf1⟩
  obtain ⟨ev1, he1, hb1, k0, k1, k2, kf1, kf2, kl⟩ := hs1.open_
  have HS1 := Aside0.mk hs1; have F1 := Aside0.mk hf1; have HB1 := Aside0.mk hb1
  have hat1 := hs1.at_le
  clear hs1 hf1 hb1
  obtain ⟨ra, re⟩ := r1
  cases re with
  | some q1 =>
    obtain ⟨fb, rfl, hfb⟩ := he1
    have hr := HRT.out
    simp only [] at hr
    clear hfb
    go_wp2
    go_ret
    subst hr
    exact ⟨_, rfl, Ow.nil _ _ _, HS1.out, F1.out, fun k hk => by cases hk⟩
  | none =>
    obtain rfl : ev1 = .nilIface := he1
    have hr := HRT.out
    simp only [] at hr k1 hat1
    by_cases hn : n > 4096
    · rw [if_pos hn] at hr
      have HR := Aside0.mk hr
      have hnI : (4096 : Int) < (n : Int) := by omega
      clear hr
      go_wp2_with fail
      refine (fail_calls HS1.out r.at_ 2).mono ?_
      rintro e w2 ⟨rfl, hs2, hf2⟩
      have HS2 := Aside0.mk hs2; have F2 := Aside0.mk hf2
      clear hs2 hf2
      go_wp2
      go_ret
      have := HR.out
      subst this
      exact ⟨_, rfl, Ow.nil _ _ _, HS2.out, F1.out.trans F2.out (fun _ _ h => h), fun k hk => by cases hk⟩
    · rw [if_neg hn] at hr
      have hnI : ¬ (4096 : Int) < (n : Int) := by omega
      by_cases hs : n > b.length - ra
      · rw [if_pos hs] at hr
        have HR := Aside0.mk hr
        have hsI : (b.length : Int) - (ra : Int) < (n : Int) := by omega
        have hsw : wrap64 ((b.length : Int) - (ra : Int)) = (b.length : Int) - (ra : Int) := by unfold wrap64; omega
        clear hr
        go_wp2
        go_quiet (fail)
        go_wp2_with fail
        refine (fail_calls (v := .slice A b.length c) (b := b) (r := ⟨ra, none⟩) (HS1.out.no ((Fr.refl _ _).drewN _)) b.length 30).mono ?_
        rintro e w2 ⟨rfl, hs2, hf2⟩
        have HS2 := Aside0.mk hs2
        have F2 : Aside0 (Fr (one g) w1 w2) := ⟨((Fr.refl _ _).drewN _).trans hf2 (fun _ _ h => h)⟩
        clear hs2 hf2
        go_wp2
        go_ret
        have := HR.out
        subst this
        exact ⟨_, rfl, Ow.nil _ _ _, HS2.out, F1.out.trans F2.out (fun _ _ h => h), fun k hk => by cases hk⟩
      · rw [if_neg hs] at hr
        have HR := Aside0.mk hr
        have hsI : ¬ (b.length : Int) - (ra : Int) < (n : Int) := by omega
        clear hr
        go_wp2
        go_quiet (fail)
        go_wp2
        have F2 : Aside0 (Fr (one g) w1 ((w1.drewN nq).setCell ⟨g, 1, Option.none⟩ (.int .i64 ((ra : Int) + (n : Int))))) := ⟨((Fr.refl (one g) w1).drewN _).setCell (p := ⟨g, 1, Option.none⟩) (.inl rfl) _⟩
        have hb2 : ((w1.drewN nq).setCell ⟨g, 1, Option.none⟩ (.int .i64 ((ra : Int) + (n : Int)))).heap[g]? = some (.cells #[.slice A b.length c, .int .i64 ((ra + n : Nat) : Int), .nilIface] 90 (0, 0)) := by
          have h := blk_set (blk_drewN HB1.out nq) 1 (.int .i64 ((ra : Int) + (n : Int)))
          simpa using h
        have HS2 : Aside0 (St ((w1.drewN nq).setCell ⟨g, 1, Option.none⟩ (.int .i64 ((ra : Int) + (n : Int)))) g (.slice A b.length c) b ⟨ra + n, none⟩) := ⟨HS1.out.put F2.out hb2 rfl (by simp only []; omega)⟩
        have m0 : ((w1.drewN nq).setCell ⟨g, 1, Option.none⟩ (.int .i64 ((ra : Int) + (n : Int)))).cell? ⟨g, 0, Option.none⟩ = some (.slice A b.length c) := by rw [blk_cell hb2]; rfl
        have m1 : ((w1.drewN nq).setCell ⟨g, 1, Option.none⟩ (.int .i64 ((ra : Int) + (n : Int)))).cell? ⟨g, 1, Option.none⟩ = some (.int .i64 ((ra : Int) + (n : Int))) := by rw [blk_cell hb2]; simp
        have hw1 : wrap64 ((ra : Int) + (n : Int) - (n : Int)) = (ra : Int) := by unfold wrap64; omega
        have hw2 : IntKind.i64.wrap (ra : Int) = (ra : Int) := by rw [IntKind.wrap_i64]; omega
        obtain ⟨A2, hcut, hrd⟩ := cut_bytes A b.length c ra n (by omega) (by obtain ⟨A', c', he, h, _⟩ := HS1.out.bytes; injection he with _ _ e3; omega)
        have HRD := Aside0.mk hrd
        have hkl : g < ((w1.drewN nq).setCell ⟨g, 1, Option.none⟩ (.int .i64 ((ra : Int) + (n : Int)))).heap.size := HS2.out.open_.choose_spec.2.2.2.2.2.2.2
        clear k0 k1 k2 kf1 kf2 hb2 hrd
        generalize ((w1.drewN nq).setCell ⟨g, 1, Option.none⟩ (.int .i64 ((ra : Int) + (n : Int)))) = w2 at F2 HS2 m0 m1 hkl ⊢
        refine Rg.start (fun _ x => Fr No w2 x) (by kernel_rfl) (by kernel_rfl) [0, 16] [[0], [11, 12, 13, 14, 9, 5, 6, 7, 8, 10, 1, 2, 3, 4, 15, 0, 16]] (by kernel_rfl) (.q 1 1 (.q 2 1 (.q 3 1 (.q 4 1 (.q 5 1 (.q 6 1 (.q 7 1 (.q 8 1 (.q 9 1 (.q 10 1 (.q 11 1 (.q 12 1 (.q 13 1 (.q 14 1 (.q 15 1 (.e 0 1 (.e 16 2 (.q 17 2 (.done))))))))))))))))))) (by kernel_rfl) ?_ ?_
        · exact fun _ => (Fr.refl _ _).drew
        repeat (first
          | (refine Rg.q (o := ?_) (v := ?_) ?_ ?_ ?_ ?_ ?_
             rotate_left 2
             · (simp only [List.getElem?_toArray, List.getElem?_cons_succ, List.getElem?_cons_zero]; rfl)
             · exact fun _ _ _ h => h
             · first | rfl | (go_simp; done)
             · (intro x_ hx; (try dsimp only at hx); first | (exact (ex_slice Tryd.underlying22 rfl (hcut _)).trans rfl) | (fail) | (have q0 := hx.cell m0 id; have q1 := hx.cell m1 id; (try clear hx); go_simp; (try rw [if_neg (by omega)]); (try rw [if_pos (by omega)]); (try go_simp); try with_reducible rfl))
             try simp only [Act.put, List.setIfInBounds_toArray, List.set_cons_zero, List.set_cons_succ])
          | (refine Rg.skip (o := ?_) ?_ ?_ ?_ ?_
             rotate_left 1
             · (simp only [List.getElem?_toArray, List.getElem?_cons_succ, List.getElem?_cons_zero]; rfl)
             · exact fun _ _ _ h => h
             · first | rfl | (go_simp; done)
             try simp only [Act.put, List.setIfInBounds_toArray, List.set_cons_zero, List.set_cons_succ]))
        refine Rg.e (o := ?_) ?_ ?_
        rotate_left 1
        · (simp only [List.getElem?_toArray, List.getElem?_cons_succ, List.getElem?_cons_zero]; rfl)
        intro K hK
        go_simp
        have hA : Fr No w2 (w2.drew.alloc (.cells #[] 5)) := ((Fr.refl _ _).drew).alloc _
        refine hK.out _ _ (fun _ x => Fr No w2 x) (fun k x hk h => h) ?_ ?_
        · exact fun _ _ => hA
        try simp only [Act.put, List.setIfInBounds_toArray, List.set_cons_zero, List.set_cons_succ]
        refine Rg.e (o := ?_) ?_ ?_
        rotate_left 1
        · (simp only [List.getElem?_toArray, List.getElem?_cons_succ, List.getElem?_cons_zero]; rfl)
        intro K hK
        rw [if_pos (by first | rfl | (go_simp; done))]
        refine opBs (.slice (some ⟨w2.heap.size, 0, none⟩) 0 0) [] (.slice A2 n (c - ra)) ((b.drop ra).take n) (.tmp 51) (.tmp 66) rfl rfl rfl (own_empty w2.drew) (HRD.out _ _ (HS2.out.bytes.no hA)) (by simp; omega) ?_
        intro v3 w3 h1 h2 h3 h4
        have FN : Fr No w2 w3 := hA.trans h2 (fun k hk hb => by
          injection hb with hb
          subst hb
          exact (Nat.lt_irrefl _ hk).elim)
        have FX : Fr (one g) w2 w3 := FN.mono (fun _ _ h => h.elim)
        have hge : ∀ k, v3.ownBlock = some k → w.heap.size ≤ k := fun k hk => by
          have hz : w.heap.size ≤ w2.heap.size := Nat.le_trans F1.out.size F2.out.size
          rcases h3 with h | ⟨q, hq, hl⟩
          · rw [h] at hk
            injection hk with hk
            subst hk
            exact hz
          · rw [hq] at hk
            injection hk with hk
            subst hk
            exact Nat.le_trans hz (Nat.le_trans hA.size hl)
        refine hK.out _ _ (fun _ x => Fr No w2 x) (fun k x hk h => h) ?_ ?_
        · exact fun _ _ => FN
        try simp only [Act.put, List.setIfInBounds_toArray, List.set_cons_zero, List.set_cons_succ]
        repeat (first
          | (refine Rg.q (o := ?_) (v := ?_) ?_ ?_ ?_ ?_ ?_
             rotate_left 2
             · (simp only [List.getElem?_toArray, List.getElem?_cons_succ, List.getElem?_cons_zero]; rfl)
             · exact fun _ _ _ h => h
             · first | rfl | (go_simp; done)
             · (intro x_ hx; (try dsimp only at hx); first | (refine (ex_ld rfl rfl (fail _ hx)).trans ?_; with_reducible rfl) | (refine (ex_ld rfl rfl (fail _ hx)).trans ?_; with_reducible rfl) | (refine (ex_ld rfl rfl (fail _ hx)).trans ?_; with_reducible rfl) | (refine (ex_ld rfl rfl (fail _ hx)).trans ?_; with_reducible rfl) | (skip; (try clear hx); go_simp; (try rw [if_neg (by omega)]); (try rw [if_pos (by omega)]); (try go_simp); try with_reducible rfl))
             try simp only [Act.put, List.setIfInBounds_toArray, List.set_cons_zero, List.set_cons_succ])
          | (refine Rg.skip (o := ?_) ?_ ?_ ?_ ?_
             rotate_left 1
             · (simp only [List.getElem?_toArray, List.getElem?_cons_succ, List.getElem?_cons_zero]; rfl)
             · exact fun _ _ _ h => h
             · first | rfl | (go_simp; done)
             try simp only [Act.put, List.setIfInBounds_toArray, List.set_cons_zero, List.set_cons_succ]))
        refine Rg.done ?_
        go_simp
        go_wp2
        go_ret
        have := HR.out
        subst this
        exact ⟨_, rfl, by simpa using h1, HS2.out.no FN, (F1.out.trans F2.out (fun _ _ h => h)).trans FX (fun _ _ h => h), hge⟩
end Go.Proofs.YtdicjcpcohclaaaDoor.Rdr
