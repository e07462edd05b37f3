/- The Reader's Sum. -/
import Derived.Test.YtdicjcpcohclaaaDoorReader
import Derived.Test.YtdicjcpcohclaaaDoorRegion
import Derived.Test.YtdicjcpcohclaaaDoorCopy
import Derived.Test.YtdicjcpcohclaaaDoorCutR
import Derived.Test.YtdicjcpcohclaaaDoorRowS
set_option linter.unusedVariables false
set_option linter.unusedSimpArgs false
namespace Go.Proofs.YtdicjcpcohclaaaDoor.Rdr
open Go.RowKit Go.Proofs.YtdicjcpcohclaaaDoorW.PrintWords Go.Proofs.YtdicjcpcohclaaaDoor.B Go.Proofs.YtdicjcpcohclaaaDoor.PB Go.Proofs.YtdicjcpcohclaaaDoor.SCode

set_option maxHeartbeats 4000000 in
set_option maxRecDepth 100000 in
theorem sum_calls {w : World} {g : Nat} {v : Value} {b : List UInt8} {r : R} (h : St w g v b r) (hbl : b.length ≤ 140737488351232) :
    Calls Tryd.prog 29 #[.pointer (some ⟨g, 0, none⟩)] w fun en w' => en = .returned (.agg ((rSum b r).2.map vu8).toArray) ∧ St w' g v b (rSum b r).1 ∧ Fr (one g) w w' := by
  obtain ⟨A, c, rfl⟩ := h.slice
  obtain ⟨res, hres⟩ : ∃ res, rSum b r = res := ⟨_, rfl⟩
  have HRES := Aside0.mk hres
  rw [hres]
  have H := Aside0.mk h
  clear h hres
  go_enter Tryd.func29, Tryd.ntmps29
  go_upto_region 2 with (fail)
  have hF : Fr No w ((w.alloc (.cells ((List.replicate 32 (0 : UInt8)).map vu8).toArray 41)).alloc (.cells ((List.replicate 32 (0 : UInt8)).map vu8).toArray 41)) := ((Fr.refl _ _).alloc _).alloc _
  have hB2 : Bd ((w.alloc (.cells ((List.replicate 32 (0 : UInt8)).map vu8).toArray 41)).alloc (.cells ((List.replicate 32 (0 : UInt8)).map vu8).toArray 41)) w.heap.size 41 (List.replicate 32 0) := (bd_new w _ _ rfl (List.replicate 32 0)).alloc _
  have hB3 : Bd ((w.alloc (.cells ((List.replicate 32 (0 : UInt8)).map vu8).toArray 41)).alloc (.cells ((List.replicate 32 (0 : UInt8)).map vu8).toArray 41)) (w.heap.size + 1) 41 (List.replicate 32 0) := bd_new (w.alloc _) _ _ (by simp) (List.replicate 32 0)
  have hgl : g < w.heap.size := H.out.open_.choose_spec.2.2.2.2.2.2.2
  change Code.wp _ _ _ _ ((w.alloc (.cells ((List.replicate 32 (0 : UInt8)).map vu8).toArray 41)).alloc (.cells ((List.replicate 32 (0 : UInt8)).map vu8).toArray 41))
  generalize ((w.alloc (.cells ((List.replicate 32 (0 : UInt8)).map vu8).toArray 41)).alloc (.cells ((List.replicate 32 (0 : UInt8)).map vu8).toArray 41)) = wz at hF hB2 hB3 ⊢
  have hsz : ∃ s, w.heap.size = s := ⟨_, rfl⟩
  obtain ⟨s, hsz⟩ := hsz
  rw [hsz] at hB2 hB3 hgl ⊢
  have hs := H.out.no hF
  have B2 := Aside0.mk hB2; have B3 := Aside0.mk hB3; have FZ := Aside0.mk hF; have HSZ := Aside0.mk hsz
  obtain ⟨ev, he, hb, h0, h1, h2, hf1, hf2, hl⟩ := hs.open_
  have HS := Aside0.mk hs; have HB := Aside0.mk hb
  have hat := hs.at_le
  clear hF hB2 hB3 hsz hs hb
  obtain ⟨ra, re⟩ := r
  cases re with
  | some q =>
    obtain ⟨fb, rfl, hfb⟩ := he
    clear hfb
    go_wp2
    go_quiet (fail)
    go_wp2_with (refine PB.stRow (.tmp 2) (.tmp 34) 41 s 41 _ ((List.replicate 32 (0 : UInt8)).map vu8).toArray rfl rfl rfl rfl (B2.out.no ((Fr.refl _ _).drewN _)) (by kernel_rfl) (by kernel_rfl) (by kernel_rfl) ?_)
    refine bodyPost_ret (results_cell_row (P := Tryd.prog) (fn := Tryd.f29) (p := 2) (ty := 41) rfl _ _ s 41 ((List.replicate 32 (0 : UInt8)).map vu8).toArray (0, 0) _ rfl (setRow_heap _ _ _ _ _ _ (B2.out.no ((Fr.refl _ _).drewN _))) Tryd.underlying41 rfl (by kernel_rfl)) rfl ?_
    have hr := HRES.out
    simp only [rSum] at hr
    subst hr
    have FF : ∀ n, Fr No w ((wz.drewN n).setRow s ((List.replicate 32 (0 : UInt8)).map vu8).toArray) := fun n => fr_setRow (FZ.out.drewN n) (.inr (by rw [HSZ.out]; exact Nat.le_refl _)) _
    exact ⟨rfl, H.out.no (FF _), (FF _).mono (fun _ _ h => h.elim)⟩
  | none =>
    obtain rfl : ev = .nilIface := he
    have hr := HRES.out
    simp only [rSum] at hr
    by_cases hsh : b.length - ra < 32
    · rw [if_pos hsh] at hr
      have HR := Aside0.mk hr
      simp only [] at h1 hat
      have hsI : (b.length : Int) - (ra : Int) < 32 := by omega
      clear hr hsh
      go_wp2
      go_quiet (fail)
      go_wp2_with fail
      refine (fail_calls (v := .slice A b.length c) (b := b) (r := ⟨ra, none⟩) (HS.out.no ((Fr.refl _ _).drewN _)) b.length 30).mono ?_
      rintro e w2 ⟨rfl, hs2, hf2⟩
      obtain ⟨ev', he', hb', h0', h1', h2', hf1', hf2', hl'⟩ := hs2.open_
      have HS2 := Aside0.mk hs2
      have F2 : Aside0 (Fr (one g) wz w2) := ⟨((Fr.refl _ _).drewN _).trans hf2 (fun _ _ h => h)⟩
      have D2 : Aside0 (Bd w2 s 41 (List.replicate 32 0)) := ⟨B2.out.fr F2.out (fun e => by have e' : s = g := e; omega)⟩
      obtain ⟨fb, rfl, hfb⟩ := he'
      try clear hfb
      clear hs2 hf2 h0' h1' hf1' hf2'
      go_wp2_with (refine PB.stRow (.tmp 2) (.tmp 34) 41 s 41 _ ((List.replicate 32 (0 : UInt8)).map vu8).toArray rfl rfl rfl rfl D2.out (by kernel_rfl) (by kernel_rfl) (by kernel_rfl) ?_)
      refine bodyPost_ret (results_cell_row (P := Tryd.prog) (fn := Tryd.f29) (p := 2) (ty := 41) rfl _ _ s 41 ((List.replicate 32 (0 : UInt8)).map vu8).toArray (0, 0) _ rfl (setRow_heap _ _ _ _ _ _ (D2.out)) Tryd.underlying41 rfl (by kernel_rfl)) rfl ?_
      have hr := HR.out
      subst hr
      have FF : Fr (one g) w (w2.setRow s ((List.replicate 32 (0 : UInt8)).map vu8).toArray) := fr_setRow ((FZ.out.mono (fun _ _ h => h.elim)).trans F2.out (fun _ _ h => h)) (.inr (by rw [HSZ.out]; exact Nat.le_refl _)) _
      have hk : w2.setRow s ((List.replicate 32 (0 : UInt8)).map vu8).toArray = w2 := setRow_self _ _ _ _ _ D2.out
      rw [hk] at FF ⊢
      exact ⟨rfl, HS2.out, FF⟩
    · rw [if_neg hsh] at hr
      have HR := Aside0.mk hr
      simp only [] at h1 hat
      have hsI : ¬ (b.length : Int) - (ra : Int) < 32 := by omega
      clear hr
      go_wp2
      go_quiet (fail)
      go_wp2
      obtain ⟨A2, hcut, hrd⟩ := cut_tail A b.length c ra hat (by obtain ⟨A', c', he, h, _⟩ := HS.out.bytes; injection he with _ _ e3; omega)
      have HRD := Aside0.mk hrd; clear hrd hsI
      have m0 := World.cell?_drewN
      generalize hw2 : wz.drewN nq = w2
      have F2 : Aside0 (Fr No wz w2) := ⟨hw2 ▸ (Fr.refl _ _).drewN _⟩
      have HS2 := Aside0.mk (HS.out.no F2.out)
      have D2 := Aside0.mk (B2.out.no F2.out); have D3 := Aside0.mk (B3.out.no F2.out)
      obtain ⟨ev', he', hb', h0', h1', h2', hf1', hf2', hl'⟩ := HS2.out.open_
      have HB2 := Aside0.mk hb'
      obtain rfl : ev' = .nilIface := he'
      clear h0 h1 h2 hf1 hf2 hw2 m0 hb' HB hl
      have HD : Aside0 (s + 1 ≠ g) := ⟨by omega⟩
      refine Rg.start (fun k x => k ≤ 1 → Fr (one (s + 1)) w2 x) (by kernel_rfl) (by kernel_rfl) [14, 18] [[9, 10, 11, 12, 5, 6, 7, 8, 13, 4, 14], [15, 14, 13, 12, 11, 10, 9, 8, 7, 6, 5, 4, 3, 2, 1, 0, 16, 17, 18]] (by kernel_rfl) (.q 0 1 (.q 1 1 (.q 2 1 (.q 3 1 (.q 4 0 (.q 5 0 (.q 6 0 (.q 7 0 (.q 8 0 (.q 9 0 (.q 10 0 (.q 11 0 (.q 12 0 (.q 13 0 (.e 14 1 (.q 15 1 (.q 16 1 (.q 17 1 (.e 18 2 (.done)))))))))))))))))))) (by kernel_rfl) ?_ ?_
      · exact fun _ _ => (Fr.refl _ _).drew
      repeat (first
        | (refine Rg.q (o := ?_) (v := ?_) ?_ ?_ ?_ ?_ ?_
           rotate_left 2
           · (simp only [List.getElem?_toArray, List.getElem?_cons_succ, List.getElem?_cons_zero]; rfl)
           · exact fun _ _ _ h => h
           · first | rfl | (go_simp; done)
           · (intro x_ hx; (try dsimp only at hx); first | (exact (ex_slice_lo Tryd.underlying22 rfl (hcut _)).trans rfl) | (fail) | (have q0 := (hx (by decide)).cell h0' (fun e => HD.out (Eq.symm e)); have q1 := (hx (by decide)).cell h1' (fun e => HD.out (Eq.symm e)); (try clear hx); go_simp; (try rw [if_neg (by omega)]); (try rw [if_pos (by omega)]); (try go_simp); try with_reducible rfl))
           try simp only [Act.put, List.setIfInBounds_toArray, List.set_cons_zero, List.set_cons_succ])
        | (refine Rg.skip (o := ?_) ?_ ?_ ?_ ?_
           rotate_left 1
           · (simp only [List.getElem?_toArray, List.getElem?_cons_succ, List.getElem?_cons_zero]; rfl)
           · exact fun _ _ _ h => h
           · first | rfl | (go_simp; done)
           try simp only [Act.put, List.setIfInBounds_toArray, List.set_cons_zero, List.set_cons_succ]))
      refine Rg.e (o := ?_) ?_ ?_
      rotate_left 1
      · (simp only [List.getElem?_toArray, List.getElem?_cons_succ, List.getElem?_cons_zero]; rfl)
      intro K hK
      rw [if_pos (by first | rfl | (go_simp; done))]
      obtain ⟨w3, hcr, hB3, hF3⟩ := copy_bd w2.drew (s + 1) 41 (List.replicate 32 0) (D3.out.no ((Fr.refl _ _).drew)) 0 32 32 _ (b.drop ra) (HRD.out _ _ (HS2.out.bytes.no ((Fr.refl _ _).drew))) 32 (by simp; omega) (by simp) 3
      refine opCopyB (.tmp 39) (.tmp 48) _ _ _ w3 rfl rfl rfl hcr ?_
      have hcut2 : List.take 0 (List.replicate 32 (0 : UInt8)) ++ List.take 32 (b.drop ra) ++ List.drop (0 + 32) (List.replicate 32 0) = List.take 32 (b.drop ra) := by simp
      rw [hcut2] at hB3
      have G3 : Fr (one (s + 1)) w2 w3 := (Fr.refl (one (s + 1)) w2).drew.trans hF3 (fun _ _ h => h)
      refine hK.out _ _ (fun k x => k ≤ 1 → Fr (one (s + 1)) w2 x) (fun k x hk h => h) ?_ ?_
      · exact fun _ _ _ => G3
      try simp only [Act.put, List.setIfInBounds_toArray, List.set_cons_zero, List.set_cons_succ]
      repeat (first
        | (refine Rg.q (o := ?_) (v := ?_) ?_ ?_ ?_ ?_ ?_
           rotate_left 2
           · (simp only [List.getElem?_toArray, List.getElem?_cons_succ, List.getElem?_cons_zero]; rfl)
           · exact fun _ _ _ h => h
           · first | rfl | (go_simp; done)
           · (intro x_ hx; (try dsimp only at hx); first | (exact (ex_slice_lo Tryd.underlying22 rfl (hcut _)).trans rfl) | (fail) | (have q0 := (hx (by decide)).cell h0' (fun e => HD.out (Eq.symm e)); have q1 := (hx (by decide)).cell h1' (fun e => HD.out (Eq.symm e)); (try clear hx); go_simp; (try rw [if_neg (by omega)]); (try rw [if_pos (by omega)]); (try go_simp); try with_reducible rfl))
           try simp only [Act.put, List.setIfInBounds_toArray, List.set_cons_zero, List.set_cons_succ])
        | (refine Rg.skip (o := ?_) ?_ ?_ ?_ ?_
           rotate_left 1
           · (simp only [List.getElem?_toArray, List.getElem?_cons_succ, List.getElem?_cons_zero]; rfl)
           · exact fun _ _ _ h => h
           · first | rfl | (go_simp; done)
           try simp only [Act.put, List.setIfInBounds_toArray, List.set_cons_zero, List.set_cons_succ]))
      have hB4 : w3.heap[g]? = some (.cells #[.slice A b.length c, .int .i64 (ra : Int), .nilIface] 90 (0, 0)) := G3.heap HB2.out (fun e => HD.out (Eq.symm e))
      have k1 : w3.cell? ⟨g, 1, Option.none⟩ = some (.int .i64 (ra : Int)) := by rw [blk_cell hB4]; rfl
      have kf1 : w3.frozen? ⟨g, 1, Option.none⟩ = false := blk_frozen hB4 _
      have hw : IntKind.i64.wrap ((ra : Int) + 32) = (ra : Int) + 32 := by rw [IntKind.wrap_i64]; omega
      have HB4 := Aside0.mk hB4; have HB3 := Aside0.mk hB3; have FG := Aside0.mk G3
      clear hB4 hB3 G3 hF3 hcut2 hcr
      refine Rg.e (o := ?_) ?_ ?_
      rotate_left 1
      · (simp only [List.getElem?_toArray, List.getElem?_cons_succ, List.getElem?_cons_zero]; rfl)
      intro K hK
      go_simp
      refine hK.out _ _ (fun _ _ => True) (fun k x hk h => fun e => absurd hk (by omega)) ?_ ?_
      · exact fun _ _ => trivial
      try simp only [Act.put, List.setIfInBounds_toArray, List.set_cons_zero, List.set_cons_succ]
      refine Rg.done ?_
      go_simp
      have hxl : (List.take 32 (b.drop ra)).length = 32 := by simp; omega
      have hr := HR.out
      subst hr
      have FW : Fr No w w3 := (FZ.out.trans F2.out (fun _ _ h => h)).trans FG.out (fun q hq e => by have e' : q = s + 1 := e; have := HSZ.out; omega)
      have FS : Fr (one g) w (w3.setCell ⟨g, 1, Option.none⟩ (.int .i64 ((ra : Int) + 32))) := (FW.mono (T := one g) (fun _ _ h => h.elim)).setCell (p := ⟨g, 1, Option.none⟩) (.inl rfl) _
      have D4 : Bd (w3.setCell ⟨g, 1, Option.none⟩ (.int .i64 ((ra : Int) + 32))) (s + 1) 41 (List.take 32 (b.drop ra)) := HB3.out.fr ((Fr.refl (one g) w3).setCell (p := ⟨g, 1, Option.none⟩) (.inl rfl) _) (fun e => HD.out e)
      have D5 : Bd (w3.setCell ⟨g, 1, Option.none⟩ (.int .i64 ((ra : Int) + 32))) s 41 (List.replicate 32 0) := (D2.out.fr FG.out (fun e => by have e' : s = s + 1 := e; omega)).fr ((Fr.refl (one g) w3).setCell (p := ⟨g, 1, Option.none⟩) (.inl rfl) _) (fun e => by have e' : s = g := e; omega)
      have hb5 : (w3.setCell ⟨g, 1, Option.none⟩ (.int .i64 ((ra : Int) + 32))).heap[g]? = some (.cells #[.slice A b.length c, .int .i64 ((ra + 32 : Nat) : Int), .nilIface] 90 (0, 0)) := by
        have h := blk_set HB4.out 1 (.int .i64 ((ra : Int) + 32))
        simpa using h
      generalize hw4 : (w3.setCell ⟨g, 1, Option.none⟩ (.int .i64 ((ra : Int) + 32))) = w4 at FS D4 D5 hb5 ⊢
      have HS4 : Aside0 (St w4 g (.slice A b.length c) b ⟨ra + 32, none⟩) := ⟨H.out.put FS hb5 rfl (by simp only []; omega)⟩
      obtain ⟨X, hX⟩ : ∃ X, List.take 32 (b.drop ra) = X := ⟨_, rfl⟩
      rw [hX] at D4 hxl
      have HX := Aside0.mk hX
      have C4 := Aside0.mk D4; have C5 := Aside0.mk D5; have HXL := Aside0.mk hxl; have FS4 := Aside0.mk FS
      clear D4 D5 hxl FS FW hb5 hw4 hX
      go_wp2_with (first
        | (refine PB.ldRow (.tmp 3) 41 (s + 1) 41 (X.map vu8).toArray (0, 0) _ rfl rfl rfl C4.out Tryd.underlying41 ⟨_, _, rfl⟩ (by rw [show (X.map vu8).toArray.size = 32 by simp [HXL.out]]; kernel_rfl) ?_)
        | (refine PB.stRow (.tmp 2) (.tmp 53) 41 s 41 _ (X.map vu8).toArray rfl rfl rfl rfl C5.out (by rw [show (X.map vu8).toArray.size = 32 by simp [HXL.out]]; kernel_rfl) (by simp [HXL.out]) (by rw [Array.all_eq_true]; intro i hi; simp [Value.oneCell']) ?_))
      refine bodyPost_ret (results_cell_row (P := Tryd.prog) (fn := Tryd.f29) (p := 2) (ty := 41) rfl _ _ s 41 ((X).map vu8).toArray (0, 0) _ rfl (setRow_heap _ _ _ _ _ _ (C5.out)) Tryd.underlying41 rfl (by rw [show (X.map vu8).toArray.size = 32 by simp [HXL.out]]; kernel_rfl)) rfl ?_
      have FT : Fr (one s) w4 (w4.setRow s (X.map vu8).toArray) := fr_setRow (S := one s) (Fr.refl _ _) (.inl rfl) _
      have FA : Fr (one g) w (w4.setRow s (X.map vu8).toArray) := fr_setRow FS4.out (.inr (by rw [HSZ.out]; exact Nat.le_refl _)) _
      refine ⟨by rw [← HX.out, List.map_take, List.map_drop], ?_, FA⟩
      have hb6 : (w4.setRow s (X.map vu8).toArray).heap[g]? = some (.cells #[.slice A b.length c, .int .i64 ((ra + 32 : Nat) : Int), .nilIface] 90 (0, 0)) := by
        obtain ⟨ev9, he9, hb9, _⟩ := HS4.out.open_
        obtain rfl : ev9 = .nilIface := he9
        exact FT.heap hb9 (fun e => by have e' : g = s := e; omega)
      exact H.out.put FA hb6 rfl (by simp only []; omega)
end Go.Proofs.YtdicjcpcohclaaaDoor.Rdr
