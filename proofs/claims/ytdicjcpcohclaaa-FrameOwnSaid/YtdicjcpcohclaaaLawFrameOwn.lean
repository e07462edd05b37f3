/- The walk of the law FrameOwn. -/
import Derived.Test.YtdicjcpcohclaaaFrameL
import Derived.Test.YtdicjcpcohclaaaSpecRead
set_option linter.unusedVariables false
set_option linter.unusedSimpArgs false
namespace Go.Proofs.Ytdicjcpcohclaaa.LFrameOwn
open Go.RowKit Go.Proofs.YtdicjcpcohclaaaW.PrintWords Go.Proofs.Ytdicjcpcohclaaa.B Go.Proofs.Ytdicjcpcohclaaa.PB Go.Proofs.Ytdicjcpcohclaaa.SCode Go.Proofs.Ytdicjcpcohclaaa.Rdr Go.Proofs.Ytdicjcpcohclaaa.Frm
attribute [local go_sem] B.max2_int B.min2_int B.max_two B.min_two

/-- A byte of a row of one's own is set. -/
theorem own_set {w : World} {g n c : Nat} {ys : List UInt8} (h : OwB w (.slice (some ⟨g, 0, none⟩) n c) ys) (j : Nat) (x : UInt8) : OwB (w.setCell ⟨g, j, none⟩ (vu8 x)) (.slice (some ⟨g, 0, none⟩) n c) (ys.set j x) := by
  obtain ⟨hl, h2⟩ := h
  refine ⟨by rw [u8.cells_length], ?_⟩
  rcases h2 with ⟨he, _⟩ | ⟨g', cap, cur, he, hg, hh, hnc, hm, hcs, ht⟩
  · cases he
  injection he with e1 e2 e3
  injection e1 with e1
  injection e1 with e1
  subst e1
  subst e3
  refine .inr ⟨g, c, cur.setIfInBounds j (vu8 x), by rw [List.length_set, e2], hg, blk_set hh j (vu8 x), by simpa using hnc, hm, by simpa using hcs, ?_⟩
  have h3 : cur.toList.take (ys.length * 1) = ys.map vu8 := by rw [← u8_cells]; exact ht
  show (cur.setIfInBounds j (vu8 x)).toList.take ((ys.set j x).length * 1) = u8.cells (ys.set j x)
  rw [u8_cells, List.length_set, Array.toList_setIfInBounds, List.map_set, ← h3, List.take_set]
theorem own_cell {w : World} {g n c : Nat} {ys : List UInt8} (h : OwB w (.slice (some ⟨g, 0, none⟩) n c) ys) (j : Nat) (hj : j < ys.length) : w.cell? ⟨g, j, none⟩ = some (vu8 ys[j]) ∧ w.frozen? ⟨g, j, none⟩ = false ∧ g < w.heap.size := by
  have h1 := World.ownsRow.cells h (g := g) rfl j (vu8 ys[j]) (by rw [u8_cells]; simp [hj])
  rw [add_plain] at h1
  obtain ⟨cs, hb⟩ := h.typed g rfl
  exact ⟨h1, blk_frozen hb _, blk_lt hb⟩

theorem walk_out (vf vd : Value) (f ds : List UInt8) (w : World) (hf : RdB w vf f) (hd : RdB w vd ds) (h : 500 < f.length ∨ (f.length ≤ 500 ∧ 500 < ds.length)) : Calls Try.prog 12 #[vf, vd] w fun e w' => e = .returned (.bool true) ∧ Fr No w w' := by
  obtain ⟨A, c, rfl, _⟩ := id hf
  obtain ⟨Ad, cd, rfl, _⟩ := id hd
  clear hf hd
  rcases h with h | ⟨h, h2⟩
  all_goals
    (try have h1I : (500 : Int) < (f.length : Int) := by omega)
    (try have h1I : ¬ (500 : Int) < (f.length : Int) := by omega)
    (try have h2I : (500 : Int) < (ds.length : Int) := by omega)
    go_enter Try.func12, Try.ntmps12
    go_wp2_with fail
    refine (readsF_calls _).mono ?_
    rintro e w1 ⟨rfl, hf⟩
    have F1 := Aside0.mk hf; clear hf
    go_wp2
    go_ret
    exact ⟨rfl, F1.out⟩

set_option maxHeartbeats 4000000 in
set_option maxRecDepth 100000 in
theorem walk_ok (vf vd : Value) (f ds : List UInt8) (w : World) (hf : RdB w vf f) (hd : RdB w vd ds) (h1 : f.length ≤ 500) (h2 : ds.length ≤ 500) : Calls Try.prog 12 #[vf, vd] w fun e w' => e = .returned (.bool true) ∧ Fr No w w' := by
  obtain ⟨A, c, rfl, _⟩ := id hf
  obtain ⟨Ad, cd, rfl, _⟩ := id hd
  have HF := Aside0.mk hf; have HD := Aside0.mk hd; clear hf hd
  have h1I : ¬ (500 : Int) < (f.length : Int) := by omega
  have h2I : ¬ (500 : Int) < (ds.length : Int) := by omega
  have he : checkE 1 0 ds.length = 0 := by unfold checkE; rw [if_neg (by decide), if_neg (by decide), if_neg (by omega)]
  go_enter Try.func12, Try.ntmps12
  go_wp2_with fail
  refine (readsF_calls _).mono ?_
  rintro e w1 ⟨rfl, hf⟩
  have F1 := Aside0.mk hf
  clear hf
  have lt1 : ∀ (v : Value) (xs : List UInt8), RdB w v xs → 0 < xs.length → ∀ b, v.ownBlock = some b → b < w1.heap.size := fun v xs hv hn b hb => Nat.lt_of_lt_of_le (Rd.lt (by decide) hv hn b hb) F1.out.size
  go_wp2_with (at_builtin; refine apBs (.slice (some ⟨w1.heap.size, 0, none⟩) 0 0) [] (.slice A f.length c) f rfl (.tmp 25) (.tmp 26) rfl rfl rfl (own_empty w1) ?c1 ?c2 ?_; (case c1 => exact (HF.out.no F1.out).no ((Fr.refl _ _).alloc _)); (case c2 => simp; omega); intro v2 w2 h1 h2 h3 h4; have G1 := Aside0.mk h1; have G2 := Aside0.mk h2; have G3 := Aside0.mk h3; clear h1 h2 h3 h4)
  have nb : ∀ q, q < w1.heap.size → blk (.slice (some ⟨w1.heap.size, 0, none⟩) 0 0) q → False := fun q hq hb => by have h9 : w1.heap.size = q := Option.some.inj hb; omega
  have F2 : Aside0 (Fr No w1 w2) := ⟨((Fr.refl No w1).alloc _).trans G2.out (fun q hq hb => nb q hq hb)⟩
  have NV : Aside0 (∀ q, q < w1.heap.size → ¬ blk v2 q) := ⟨fun q hq hb => nb q hq (G3.out.back hb (Nat.lt_of_lt_of_le hq ((Fr.refl No w1).alloc _).size))⟩
  have O2 : Aside0 (OwB w2 v2 f) := ⟨by simpa using G1.out⟩
  clear nb
  refine (append_calls 1 0 _ v2 ds f w2 he O2.out ((HD.out.no F1.out).no F2.out) (by omega) (fun hn b hb => NV.out b (lt1 _ _ HD.out hn b hb))).mono ?_
  rintro e w3 ⟨v3, rfl, g⟩
  have F3 : Aside0 (Fr No w1 w3) := ⟨F2.out.trans g.fr (fun q hq hb => NV.out q hq hb)⟩
  have R3 : Aside0 (RdB w3 v3 (f ++ frameB 1 0 ds)) := ⟨g.own.rd⟩
  clear g
  obtain ⟨FB, hFB⟩ : ∃ FB, frameB 1 0 ds = FB := ⟨_, rfl⟩
  have HFB := Aside0.mk hFB
  rw [hFB] at R3
  have hfl : FB.length ≤ 600 := by
    have := numI_length (ds.length : Int)
    rw [← hFB]
    simp [frameB]; omega
  clear hFB
  obtain ⟨B, cb, rfl, hcb, _⟩ := id R3.out
  have hcb1 : f.length ≤ cb := by simp at hcb; omega
  have hcb2 : f.length + FB.length ≤ cb := by simpa using hcb
  clear hcb
  go_wp2
  have HL3 : Aside0 (RdB w3 (.slice B (f.length + FB.length) cb) (f ++ FB)) := ⟨by simpa using R3.out⟩
  have T3 : Aside0 (∀ x, RdB x (.slice B (f.length + FB.length) cb) (f ++ FB) → RdB x (.slice B f.length cb) f) := ⟨fun x hx => by
    have := Rd.take (xs := f ++ FB) (by simpa using hx) f.length (by simp)
    simpa using this⟩
  refine Rg.start (fun k' x => RdB x (.slice B (f.length + FB.length) cb) (f ++ FB) ∧ RdB x (.slice A f.length c) f) (by kernel_rfl) (by kernel_rfl) [] [] (by kernel_rfl) (.q 0 0 (.q 1 0 (.q 2 0 (.q 3 0 (.q 4 0 (.q 5 0 (.q 6 0 (.q 7 0 (.q 8 0 (.q 9 0 (.q 10 0 (.q 11 0 (.done))))))))))))) (by kernel_rfl) ?_ ?_
  · exact fun _ => ⟨HL3.out, (HF.out.no F1.out).no F3.out.drew⟩
  repeat (first
    | (refine Rg.q (o := ?_) (v := ?_) ?_ ?_ ?_ ?_ ?_
       rotate_left 2
       · (simp only [List.getElem?_toArray, List.getElem?_cons_succ, List.getElem?_cons_zero]; rfl)
       · exact fun _ _ _ h => h
       · first | rfl | (go_simp; done)
       · (intro x_ hx; (try dsimp only at hx); (have q1 := str_of_rd (T3.out _ hx.1); have q2 := str_of_rd hx.2); go_simp; (try rw [if_neg (by omega)]); try with_reducible rfl)
       try simp only [Act.put, List.setIfInBounds_toArray, List.set_cons_zero, List.set_cons_succ])
    | (refine Rg.skip (o := ?_) ?_ ?_ ?_ ?_
       rotate_left 1
       · (simp only [List.getElem?_toArray, List.getElem?_cons_succ, List.getElem?_cons_zero]; rfl)
       · exact fun _ _ _ h => h
       · first | rfl | (go_simp; done)
       try simp only [Act.put, List.setIfInBounds_toArray, List.set_cons_zero, List.set_cons_succ]))
  refine Rg.done ?_
  obtain ⟨A2, hA2⟩ : ∃ A2, (if cb = f.length then B else B.map (fun x => x.add f.length)) = A2 := ⟨_, rfl⟩
  have hdr : ∀ x, Fr No x x.drew := fun x => (Fr.refl _ _).drew
  have hA : Fr No w3 (w3.alloc (.cells #[] 5)).drew := ((Fr.refl _ _).alloc _).drew
  have RY : Aside0 (RdB (w3.alloc (.cells #[] 5)).drew (.slice A2 FB.length (cb - f.length)) FB) := ⟨by
    have := Rd_cut (xs := f ++ FB) (by simpa using HL3.out.no hA) f.length FB.length (by simp)
    rw [hA2] at this
    simpa using this⟩
  have O0 : Aside0 (OwB (w3.alloc (.cells #[] 5)).drew (.slice (some ⟨w3.heap.size, 0, none⟩) 0 0) []) := ⟨(own_empty w3).no (hdr _)⟩
  have HA := Aside0.mk hA
  clear hA hdr
  go_simp
  go_wp2_with (at_builtin; go_loud (refine apBs (.slice (some ⟨w3.heap.size, 0, none⟩) 0 0) [] (.slice A2 FB.length (cb - f.length)) FB rfl (.tmp 43) (.tmp 47) rfl rfl rfl O0.out RY.out ?c2 ?_; (case c2 => simp; omega); intro v4 w4 h1 h2 h3 h4; have G1 := Aside0.mk h1; have G2 := Aside0.mk h2; have G3 := Aside0.mk h3; clear h1 h2 h3 h4))
  have N4 : Aside0 (∀ q, v4.ownBlock = some q → w3.heap.size ≤ q) := ⟨fun q hq => by
    rcases G3.out with h | ⟨q', h, hl⟩
    · rw [hq] at h
      have : q = w3.heap.size := Option.some.inj h
      omega
    · rw [hq] at h
      have : q = q' := Option.some.inj h
      have h9 := HA.out.size
      omega⟩
  have O4 : Aside0 (OwB w4 v4 FB) := ⟨by simpa using G1.out⟩
  have F4 : Aside0 (Fr No w1 w4) := ⟨((F3.out.none HA.out).trans G2.out (fun q hq hb => by have h9 : w3.heap.size = q := Option.some.inj hb; have := F3.out.size; omega))⟩
  have hpos : 0 < FB.length := by rw [← HFB.out]; simp [frameB]
  obtain ⟨g, cg, rfl, hg4⟩ := O4.out.at_ hpos
  refine (readF_calls _ FB w4 O4.out.rd (by omega)).mono ?_
  obtain ⟨a, c', ha, hc', hrd⟩ := readS_frameB 1 0 ds [] he
  rw [List.append_nil, HFB.out] at hrd
  rw [hrd]
  obtain rfl : a = 1 := by omega
  obtain rfl : c' = 0 := by omega
  rintro e w5 ⟨d, ev, rfl, rfl, hf5, hd5, hn5⟩
  obtain ⟨D, cD, rfl⟩ := hd5.form
  have F5 := Aside0.mk hf5; have D5 := Aside0.mk hd5; have N5 := Aside0.mk hn5
  clear hf5 hd5 hn5 hrd
  go_wp2
  generalize hw6 : w5.alloc (.cells #[.int .i64 1, .int .i64 0, .slice D ds.length cD] 46) = w6
  have HW6 := Aside0.mk hw6; clear hw6
  have E6 : Aside0 (Fr No w5 w6) := ⟨by rw [← HW6.out]; exact (Fr.refl _ _).alloc _⟩
  have O6 : Aside0 (OwB w6 (.slice (some ⟨g, 0, none⟩) FB.length cg) FB) := ⟨(O4.out.no F5.out).no E6.out⟩
  have B6 : Aside0 (w6.heap[w5.heap.size]? = some (.cells #[.int .i64 1, .int .i64 0, .slice D ds.length cD] 46 (0, 0))) := ⟨by rw [← HW6.out]; exact blk_new w5 _⟩
  clear lt1
  go_loopw [57] (fun v57 wr => ∃ (j : Nat) (ys : List UInt8), v57 = .int .i64 j ∧ ys.length = FB.length ∧ Aside0 (OwB wr (.slice (some ⟨g, 0, none⟩) FB.length cg) ys) ∧ Aside0 (Fr (one g) w6 wr)) (fun i _ => FB.length - (intOf i).toNat)
  case atStart => exact ⟨0, FB, rfl, rfl, O6, ⟨Fr.refl _ _⟩⟩
  case round =>
    obtain ⟨j, ys, rfl, hys, HO, HF6⟩ := hrel
    by_cases hj : j < FB.length
    · have hjI : (j : Int) < (FB.length : Int) := by omega
      obtain ⟨k1, k2, k3⟩ := own_cell HO.out j (by omega)
      obtain ⟨y, hy⟩ : ∃ y, ys[j]'(by omega) = y := ⟨_, rfl⟩
      rw [hy] at k1
      go_wp2
      go_roundw
      case rel =>
        refine ⟨j + 1, ys.set j (y + 1), by go_num, by simpa using hys, ⟨?_⟩, ⟨?_⟩⟩
        · have := own_set HO.out j (y + 1)
          have e : vu8 (y + 1) = .int .u8 (((y.toNat : Int) + 1) % 256) := by
            rw [vu8, UInt8.toNat_add]
            simp
          rw [e] at this
          simpa using this
        · exact HF6.out.setCell (p := ⟨g, j, none⟩) (.inl rfl) _
      case measure => simp [intOf]; omega
    · have hjI : ¬ (j : Int) < (FB.length : Int) := by omega
      have b1 : wr.heap[w5.heap.size]? = some (.cells #[.int .i64 1, .int .i64 0, .slice D ds.length cD] 46 (0, 0)) := HF6.out.heap B6.out (fun h => by have h9 : w5.heap.size = g := h; have := F5.out.size; omega)
      have c2 : wr.cell? ⟨w5.heap.size, 2, none⟩ = some (.slice D ds.length cD) := by rw [blk_cell b1]; rfl
      clear b1
      have hg3 : w3.heap.size ≤ g := N4.out g rfl
      have q1 := str_of_rd ((D5.out.rd.no E6.out).fr HF6.out (fun hn b hb hk => by have h9 : b = g := hk; have := N5.out b hb; omega))
      have E16 : Fr No w1 w6 := (F4.out.none F5.out).none E6.out
      have q2 := str_of_rd (((HD.out.no F1.out).no E16).fr HF6.out (fun hn b hb hk => by have h9 : b = g := hk; have := Rd.lt (by decide) HD.out hn b hb; have := F1.out.size; have := F3.out.size; omega))
      have EZ : Aside0 (Fr No w wr) := ⟨(F1.out.none E16).trans HF6.out (fun q hq hk => by have h9 : q = g := hk; have := F1.out.size; have := F3.out.size; omega)⟩
      clear E16
      go_wp2
      go_ret
      exact ⟨rfl, EZ.out⟩

theorem walk (vf : Value) (f : List UInt8) (vd : Value) (ds : List UInt8) (w : World) (hf : RdB w vf f ∧ f.length ≤ reach) (hd : RdB w vd ds ∧ ds.length ≤ reach) : Calls Try.prog 12 #[vf, vd] w fun e w' => e = .returned (.bool true) ∧ Fr No w w' := by
  by_cases h1 : f.length ≤ 500
  · by_cases h2 : ds.length ≤ 500
    · exact walk_ok vf vd f ds w hf.1 hd.1 h1 h2
    · exact walk_out vf vd f ds w hf.1 hd.1 (.inr ⟨h1, by omega⟩)
  · exact walk_out vf vd f ds w hf.1 hd.1 (.inl (by omega))
end Go.Proofs.Ytdicjcpcohclaaa.LFrameOwn
