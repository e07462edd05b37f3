/- The walk of the law CodeBack. -/
import Derived.Test.YtdicjcpcohclaaaDoorErrW
import Derived.Test.YtdicjcpcohclaaaDoorCodeP
import Derived.Test.YtdicjcpcohclaaaDoorReader
import Derived.Test.YtdicjcpcohclaaaDoorReadT
import Derived.Test.YtdicjcpcohclaaaDoorInts
import Derived.Test.YtdicjcpcohclaaaDoorCutR
import Derived.Test.YtdicjcpcohclaaaDoorSpecBack
import Derived.OpenShut
set_option linter.unusedVariables false
set_option linter.unusedSimpArgs false
namespace Go.Proofs.YtdicjcpcohclaaaDoor.LCodeBack
open Go.ChangeShapes Go.RowKit Go.Proofs.YtdicjcpcohclaaaDoorW.PrintWords Go.Proofs.YtdicjcpcohclaaaDoor.B Go.Proofs.YtdicjcpcohclaaaDoor.PB Go.Proofs.YtdicjcpcohclaaaDoor.Err Go.Proofs.YtdicjcpcohclaaaDoor.Rdr Go.Proofs.YtdicjcpcohclaaaDoor.SCode

set_option maxHeartbeats 8000000 in
set_option maxRecDepth 100000 in
theorem walk_out (vl : Value) (l : List Int) (vs : Value) (s : List UInt8) (k : Int) (w : World) (hv : RdI w vl l) (hs : RdB w vs s) (h : 30 < l.length ∨ 4096 < s.length) : Calls Tryd.prog 4 #[vl, vs, .int .i64 k] w fun e w' => e = .returned (.bool true) ∧ Fr No w w' := by
  obtain ⟨A, c, rfl, _⟩ := id hv
  obtain ⟨A', c', rfl, _⟩ := id hs
  clear hv hs
  have hc : (30 : Int) < (l.length : Int) ∨ (¬ (30 : Int) < (l.length : Int) ∧ (4096 : Int) < (s.length : Int)) := by omega
  clear h
  rcases hc with h1 | ⟨h1, h2⟩
  all_goals
    go_enter Tryd.func4, Tryd.ntmps4
    go_wp2_with fail
    refine (CodeR.reads_calls w).mono ?_
    rintro e w1 ⟨rfl, hf⟩
    have F1 := Aside0.mk hf; clear hf
    go_wp2
    go_ret
    exact ⟨rfl, F1.out⟩

set_option maxHeartbeats 16000000 in
set_option maxRecDepth 100000 in
theorem walk_ok (vl : Value) (l : List Int) (vs : Value) (s : List UInt8) (k : Int) (w : World) (hg : Gl w) (hv : RdI w vl l) (hs : RdB w vs s) (hl : l.length ≤ 30) (hsl : s.length ≤ 4096) : Calls Tryd.prog 4 #[vl, vs, .int .i64 k] w fun e w' => e = .returned (.bool true) ∧ Fr No w w' := by
  obtain ⟨A, c, rfl, _, _, hcell⟩ := id hv
  obtain ⟨A', c', rfl, _⟩ := id hs
  have HS := Aside0.mk hs
  have HG := Aside0.mk hg; clear hg
  have HC : Aside0 (∀ j n, l[j]? = some n → ∃ ad, A = some ad ∧ ∀ x, Fr No w x → x.cell? (ad.add j) = some (.int .i64 n)) := ⟨fun j n hj => by
    have hjl := (List.getElem?_eq_some_iff.1 hj).1
    obtain ⟨ad, h1, h2⟩ := hcell (by omega)
    exact ⟨ad, h1, fun x hx => hx.cell (h2 j (.int .i64 n) (by rw [fI_cells, List.getElem?_map, hj]; rfl)) id⟩⟩
  clear hv hs hcell
  have g1 : ¬ (30 : Int) < (l.length : Int) := by omega
  have g2 : ¬ (4096 : Int) < (s.length : Int) := by omega
  have htl : (textB s).length ≤ 5006 := by
    have h6 := numB_length_six s.length (by omega)
    rw [textB_eq s (by omega), List.length_append]; omega
  have HTL := Aside0.mk htl; clear htl
  go_enter Tryd.func4, Tryd.ntmps4
  go_wp2_with fail
  refine (CodeR.reads_calls w).mono ?_
  rintro e w1 ⟨rfl, hf⟩
  have F1 := Aside0.mk hf; clear hf
  go_wp2
  go_loopw [7, 25] (fun v7 v25 wr => ∃ j : Nat, v25 = .int .i64 (j : Int) ∧ j ≤ l.length ∧ Aside0 (OwB wr v7 (nums (l.take j))) ∧ Aside0 (∀ k, k < w.heap.size → ¬ blk v7 k) ∧ Aside0 (Fr No w wr)) (fun _ v25 _ => l.length - (intOf v25).toNat)
  case atStart => exact ⟨0, rfl, by omega, ⟨Ow.nil _ _ _⟩, ⟨fun k _ hk => by cases hk⟩, F1⟩
  case round =>
    obtain ⟨j, rfl, hj, HO, HN, HF⟩ := hrel
    by_cases hjl : j < l.length
    · have hjI : (j : Int) < (l.length : Int) := by omega
      obtain ⟨n, hn⟩ : ∃ n, l[j]? = some n := ⟨_, List.getElem?_eq_getElem hjl⟩
      obtain ⟨ad, hA, hcj⟩ := HC.out j n hn
      have hcl := hcj _ HF.out
      have HNJ := Aside0.mk hn; have HA := Aside0.mk hA
      clear hcj hn hA
      go_wp2_with (refine ixI (.tmp 23) (.tmp 25) ad A l.length c j rfl rfl rfl HA.out rfl hjl ?_)
      refine (CodeW.num_calls _ _ n _ HO.out (by have := nums_length (l.take j); simp at this; omega)).mono ?_
      rintro e w2 ⟨v2, rfl, ho, hf, ha, -⟩
      have O2 : Aside0 (OwB w2 v2 (nums (l.take (j + 1)))) := ⟨by rw [nums_take l j n HNJ.out]; exact ho⟩
      have F2 : Aside0 (Fr No w w2) := ⟨HF.out.trans hf (fun k hk hb => HN.out k hk hb)⟩
      have N2 : Aside0 (∀ k, k < w.heap.size → ¬ blk v2 k) := ⟨fun k hk hb => HN.out k hk (ha.back hb (Nat.lt_of_lt_of_le hk HF.out.size))⟩
      clear ho hf ha hcl
      go_wp2
      go_roundw
      case rel =>
        exact ⟨j + 1, by go_num, by omega, O2, N2, F2⟩
      case measure => simp [intOf]; omega
    · have hjI : ¬ (j : Int) < (l.length : Int) := by omega
      obtain rfl : j = l.length := by omega
      have hO := HO.out
      rw [List.take_length] at hO
      have HO2 := Aside0.mk hO
      clear hO HO
      have hsb : ∀ b, (Value.slice A' s.length c').ownBlock = some b → 0 < s.length → b < w.heap.size := fun b hb hn => Rd.lt (by decide) HS.out hn b hb
      have HSB := Aside0.mk hsb; clear hsb
      go_wp2_with fail
      refine (CodeR.text_calls _ _ _ s _ HO2.out (HS.out.no HF.out) (by have := nums_length l; omega) (fun hn b hb hk => HN.out b (HSB.out b hb hn) hk)).mono ?_
      rintro e w2 ⟨v2, rfl, ho, hf, ha, -⟩
      obtain ⟨B, hB⟩ : ∃ B, SCode.nums l ++ textB s = B := ⟨_, rfl⟩
      rw [hB] at ho
      have HBE := Aside0.mk hB
      have hbl : B.length ≤ 6000 := by rw [← hB, List.length_append]; have := nums_length l; have := HTL.out; omega
      obtain ⟨A2, c2, rfl⟩ := ho.form
      have O2 := Aside0.mk ho
      have F2 : Aside0 (Fr No w w2) := ⟨HF.out.trans hf (fun k hk hb => HN.out k hk hb)⟩
      clear ho hf ha hB
      go_wp2_with fail
      refine (read_calls O2.out.rd).mono ?_
      rintro e w3 ⟨rfl, hs, hf⟩
      obtain ⟨g, hgg⟩ : ∃ g, w2.heap.size = g := ⟨_, rfl⟩
      have HGS : Aside0 (w.heap.size ≤ g) := ⟨by rw [← hgg]; exact F2.out.size⟩
      rw [hgg] at hs ⊢
      have HS3 := Aside0.mk hs
      have F3 : Aside0 (Fr No w w3) := ⟨F2.out.none hf⟩
      have F23 := Aside0.mk hf
      have HG2 : Aside0 (∀ q, (Value.slice A2 B.length c2).ownBlock = some q → q ≠ g) := ⟨fun q hq e => by have := Ow.lt O2.out q hq; omega⟩
      clear hs hf hgg
      go_wp2
      go_loopw [40] (fun v40 wr => ∃ j : Nat, v40 = .int .i64 (j : Int) ∧ j ≤ l.length ∧ Aside0 (St wr g (.slice A2 B.length c2) B ⟨(SCode.nums (l.take j)).length, none⟩) ∧ Aside0 (Fr (one g) w3 wr) ∧ Aside0 (Fr No w wr)) (fun v40 _ => l.length - (intOf v40).toNat)
      case atStart => exact ⟨0, rfl, by omega, HS3, ⟨Fr.refl _ _⟩, F3⟩
      case round =>
        obtain ⟨j, rfl, hj, HJ, FJ, FW⟩ := hrel
        by_cases hjl : j < l.length
        · have hjI : (j : Int) < (l.length : Int) := by omega
          obtain ⟨n, hn⟩ : ∃ n, l[j]? = some n := ⟨_, List.getElem?_eq_getElem hjl⟩
          obtain ⟨ad, hA, hcj⟩ := HC.out j n hn
          have hcl := hcj _ FW.out
          have hbn := back_num l s j n hn
          rw [HBE.out] at hbn
          have HBN := Aside0.mk hbn; have HA := Aside0.mk hA
          clear hcj hn hbn hA
          go_wp2_with (refine ixI (.tmp 38) (.tmp 40) ad A l.length c j rfl rfl rfl HA.out rfl hjl ?_)
          refine (num_calls HJ.out).mono ?_
          rw [HBN.out]
          rintro e w4 ⟨rfl, hs, hf⟩
          have K4 := Aside0.mk hs
          have F4 : Aside0 (Fr (one g) w3 w4) := ⟨FJ.out.trans hf (fun _ _ h => h)⟩
          have G4 : Aside0 (Fr No w w4) := ⟨FW.out.trans hf (fun k hk e => by have e' : k = g := e; have := HGS.out; omega)⟩
          have hci : (if 0 < (if n < 1099511627776 then n else 1099511627776) then (if n < 1099511627776 then n else 1099511627776) else 0) = (clampN n : Int) := by
            have := clamp_int n; omega
          clear hs hf hcl
          go_wp2
          go_roundw
          case rel => exact ⟨j + 1, by go_num, by omega, K4, F4, G4⟩
          case measure => simp [intOf]; omega
        · have hjI : ¬ (j : Int) < (l.length : Int) := by omega
          obtain rfl : j = l.length := by omega
          have hJ := HJ.out
          rw [List.take_length] at hJ
          have KJ := Aside0.mk hJ
          clear hJ HJ
          have hbt := back_text l s hsl
          rw [HBE.out] at hbt
          have HBT := Aside0.mk hbt
          clear hbt
          have SR : Aside0 (∀ x, Fr (one g) wr x → RdB x (.slice A' s.length c') s) := ⟨fun x hx => (HS.out.no FW.out).fr hx (fun hn b hb e => by have e' : b = g := e; have := HSB.out b hb hn; have := HGS.out; omega)⟩
          go_wp2
          refine Rg.start (fun _ x => RdB x (.slice A' s.length c') s) (by kernel_rfl) (by kernel_rfl) [1, 8, 13] [[0, 1], [3, 4, 0, 1, 2, 5, 6, 7, 8], [7, 8, 9, 3, 4, 0, 1, 2, 5, 6, 10, 11, 12, 13]] (by kernel_rfl) (.q 0 0 (.q 3 1 (.q 4 1 (.e 1 1 (.q 2 1 (.q 5 1 (.q 6 1 (.q 7 1 (.e 8 2 (.q 9 2 (.q 10 2 (.q 11 2 (.q 12 2 (.q 14 3 (.q 15 3 (.e 13 3 (.q 16 3 (.q 17 3 (.done))))))))))))))))))) (by kernel_rfl) ?_ ?_
          · exact fun _ => SR.out _ ((Fr.refl _ _).drew)
          repeat (first
            | (refine Rg.q (o := ?_) (v := ?_) ?_ ?_ ?_ ?_ ?_
               rotate_left 2
               · (simp only [List.getElem?_toArray, List.getElem?_cons_succ, List.getElem?_cons_zero]; rfl)
               · exact fun _ _ _ h => h
               · first | rfl | (go_simp; done)
               · (intro x_ hx; (try dsimp only at hx); (have q1 := str_of_rd hx); go_simp; (try rw [if_neg (by omega)]); (try rw [if_pos (by omega)]); (try go_simp); try with_reducible rfl)
               try simp only [Act.put, List.setIfInBounds_toArray, List.set_cons_zero, List.set_cons_succ])
            | (refine Rg.skip (o := ?_) ?_ ?_ ?_ ?_
               rotate_left 1
               · (simp only [List.getElem?_toArray, List.getElem?_cons_succ, List.getElem?_cons_zero]; rfl)
               · exact fun _ _ _ h => h
               · first | rfl | (go_simp; done)
               try simp only [Act.put, List.setIfInBounds_toArray, List.set_cons_zero, List.set_cons_succ]))
          refine Rg.e (o := ?_) ?_ ?_
          rotate_left 1
          · (simp only [List.getElem?_toArray, List.getElem?_cons_succ, List.getElem?_cons_zero]; rfl)
          intro K hK
          go_simp
          refine (text_calls (KJ.out.no ((Fr.refl _ _).drew)) (by omega)).mono ?_
          rw [HBT.out]
          rintro e w6 ⟨d, rfl, ho, hs, hf, -⟩
          have K6 := Aside0.mk hs
          have O6 := Aside0.mk ho
          have F6 : Aside0 (Fr (one g) wr w6) := ⟨((Fr.refl (one g) wr).drew).trans hf (fun _ _ h => h)⟩
          clear hs hf ho
          go_simp
          refine hK.out _ _ (fun k x => RdB x (.slice A' s.length c') s ∧ (k ≤ 1 → RdB x d s)) (fun k x hk h => h.1) ?_ ?_
          · exact fun _ _ => ⟨SR.out _ F6.out, fun _ => O6.out.rd⟩
          try simp only [Act.put, List.setIfInBounds_toArray, List.set_cons_zero, List.set_cons_succ]
          repeat (first
            | (refine Rg.q (o := ?_) (v := ?_) ?_ ?_ ?_ ?_ ?_
               rotate_left 2
               · (simp only [List.getElem?_toArray, List.getElem?_cons_succ, List.getElem?_cons_zero]; rfl)
               · exact fun _ _ _ h => h
               · first | rfl | (go_simp; done)
               · (intro x_ hx; (try dsimp only at hx); (have q1 := str_of_rd hx.1; (try have q2 := str_of_rd (hx.2 (by decide)))); go_simp; (try rw [if_neg (by omega)]); (try rw [if_pos (by omega)]); (try go_simp); try with_reducible rfl)
               try simp only [Act.put, List.setIfInBounds_toArray, List.set_cons_zero, List.set_cons_succ])
            | (refine Rg.skip (o := ?_) ?_ ?_ ?_ ?_
               rotate_left 1
               · (simp only [List.getElem?_toArray, List.getElem?_cons_succ, List.getElem?_cons_zero]; rfl)
               · exact fun _ _ _ h => h
               · first | rfl | (go_simp; done)
               try simp only [Act.put, List.setIfInBounds_toArray, List.set_cons_zero, List.set_cons_succ]))
          have hE : rEnd B ⟨B.length, none⟩ = ⟨B.length, none⟩ := by unfold rEnd; simp
          have HE := Aside0.mk hE
          clear hE
          refine Rg.e (o := ?_) ?_ ?_
          rotate_left 1
          · (simp only [List.getElem?_toArray, List.getElem?_cons_succ, List.getElem?_cons_zero]; rfl)
          intro K hK
          rw [if_pos (by go_simp)]; go_simp
          refine (end_calls K6.out).mono ?_
          rw [HE.out]
          rintro e w7 ⟨⟨ev, he, rfl⟩, hs, hf⟩
          obtain rfl : ev = .nilIface := he
          have K7 := Aside0.mk hs
          have F7 : Aside0 (Fr (one g) wr w7) := ⟨F6.out.trans hf (fun _ _ h => h)⟩
          clear hs hf
          go_simp
          refine hK.out _ _ (fun _ x => RdB x (.slice A' s.length c') s) (fun k x hk h => ⟨h, fun h2 => absurd (Nat.le_trans hk h2) (by decide)⟩) ?_ ?_
          · exact fun _ _ => SR.out _ F7.out
          try simp only [Act.put, List.setIfInBounds_toArray, List.set_cons_zero, List.set_cons_succ]
          repeat (first
            | (refine Rg.q (o := ?_) (v := ?_) ?_ ?_ ?_ ?_ ?_
               rotate_left 2
               · (simp only [List.getElem?_toArray, List.getElem?_cons_succ, List.getElem?_cons_zero]; rfl)
               · exact fun _ _ _ h => h
               · first | rfl | (go_simp; done)
               · (intro x_ hx; (try dsimp only at hx); (have q1 := str_of_rd hx); go_simp; (try rw [if_neg (by omega)]); (try rw [if_pos (by omega)]); (try go_simp); try with_reducible rfl)
               try simp only [Act.put, List.setIfInBounds_toArray, List.set_cons_zero, List.set_cons_succ])
            | (refine Rg.skip (o := ?_) ?_ ?_ ?_ ?_
               rotate_left 1
               · (simp only [List.getElem?_toArray, List.getElem?_cons_succ, List.getElem?_cons_zero]; rfl)
               · exact fun _ _ _ h => h
               · first | rfl | (go_simp; done)
               try simp only [Act.put, List.setIfInBounds_toArray, List.set_cons_zero, List.set_cons_succ]))
          refine Rg.e (o := ?_) ?_ ?_
          rotate_left 1
          · (simp only [List.getElem?_toArray, List.getElem?_cons_succ, List.getElem?_cons_zero]; rfl)
          intro K hK
          rw [if_pos (by go_simp)]; go_simp
          refine (at_calls K7.out).mono ?_
          rintro e w8 ⟨rfl, rfl⟩
          go_simp
          refine hK.out _ _ (fun _ x => RdB x (.slice A' s.length c') s) (fun k x hk h => h) ?_ ?_
          · exact fun _ _ => SR.out _ F7.out
          try simp only [Act.put, List.setIfInBounds_toArray, List.set_cons_zero, List.set_cons_succ]
          repeat (first
            | (refine Rg.q (o := ?_) (v := ?_) ?_ ?_ ?_ ?_ ?_
               rotate_left 2
               · (simp only [List.getElem?_toArray, List.getElem?_cons_succ, List.getElem?_cons_zero]; rfl)
               · exact fun _ _ _ h => h
               · first | rfl | (go_simp; done)
               · (intro x_ hx; (try dsimp only at hx); (have q1 := str_of_rd hx); go_simp; (try rw [if_neg (by omega)]); (try rw [if_pos (by omega)]); (try go_simp); try with_reducible rfl)
               try simp only [Act.put, List.setIfInBounds_toArray, List.set_cons_zero, List.set_cons_succ])
            | (refine Rg.skip (o := ?_) ?_ ?_ ?_ ?_
               rotate_left 1
               · (simp only [List.getElem?_toArray, List.getElem?_cons_succ, List.getElem?_cons_zero]; rfl)
               · exact fun _ _ _ h => h
               · first | rfl | (go_simp; done)
               try simp only [Act.put, List.setIfInBounds_toArray, List.set_cons_zero, List.set_cons_succ]))
          refine Rg.done ?_
          go_simp
          have G7 : Aside0 (Fr No w w7) := ⟨FW.out.trans F7.out (fun k hk e => by have e' : k = g := e; have := HGS.out; omega)⟩
          by_cases hk0 : k < 0
          · go_wp2
            go_ret
            exact ⟨rfl, G7.out⟩
          · by_cases hk1 : (B.length : Int) ≤ k
            · go_wp2
              go_ret
              exact ⟨rfl, G7.out⟩
            · obtain ⟨c0, rfl⟩ : ∃ c0 : Nat, k = (c0 : Int) := ⟨k.toNat, by omega⟩
              have hbc : B.length ≤ c2 := by obtain ⟨_, _, he, h, _⟩ := O2.out.rd; injection he with _ _ e3; omega
              have hc0 : c0 ≤ c2 := by omega
              have hc1 : c0 < B.length := by omega
              go_wp2_with fail
              obtain ⟨C, hC⟩ : ∃ C, B.take c0 = C := ⟨_, rfl⟩
              have hcl : C.length = c0 := by rw [← hC]; simp; omega
              have RC : RdB w7 (.slice A2 c0 c2) C := by
                rw [← hC]
                exact rd_take ((O2.out.rd.no F23.out).fr (FJ.out.trans F7.out (fun _ _ h => h)) (fun hn b hb e => HG2.out b hb e)) c0 (by omega)
              have HCE : Aside0 (∀ j n, l[j]? = some n → (rNum C (cutR l c0 j)).1 = cutR l c0 (j + 1)) := ⟨fun j n hj => by rw [← hC, ← HBE.out]; exact cut_num l s c0 j n (by rw [HBE.out]; omega) hj⟩
              have HCT : Aside0 ((rText C (cutR l c0 l.length)).1.err = some (c0, 30)) := ⟨by rw [← hC, ← HBE.out]; exact cut_text l s c0 hsl (by rw [HBE.out]; exact hc1)⟩
              refine (read_calls RC).mono ?_
              rintro e w8 ⟨rfl, hs, hf⟩
              obtain ⟨g', hgg⟩ : ∃ g', w7.heap.size = g' := ⟨_, rfl⟩
              have HGS' : Aside0 (w.heap.size ≤ g') := ⟨by rw [← hgg]; exact G7.out.size⟩
              rw [hgg] at hs ⊢
              have G8 : Aside0 (Fr No w w8) := ⟨G7.out.none hf⟩
              have HS8 : Aside0 (St w8 g' (.slice A2 c0 c2) C (cutR l c0 0)) := ⟨by
                have : cutR l c0 0 = ⟨0, none⟩ := by unfold cutR; simp [SCode.nums]
                rw [this]; exact hs⟩
              have HCL := Aside0.mk hcl
              clear hs hf hgg RC hC hcl
              go_wp2
              go_loopw [83] (fun v83 wq => ∃ j : Nat, v83 = .int .i64 (j : Int) ∧ j ≤ l.length ∧ Aside0 (St wq g' (.slice A2 c0 c2) C (cutR l c0 j)) ∧ Aside0 (Fr No w wq)) (fun v83 _ => l.length - (intOf v83).toNat)
              case atStart => exact ⟨0, rfl, by omega, HS8, G8⟩
              case round =>
                obtain ⟨j, rfl, hj, HJ, FJ⟩ := hrel
                by_cases hjl : j < l.length
                · have hjI : (j : Int) < (l.length : Int) := by omega
                  obtain ⟨n, hn⟩ : ∃ n, l[j]? = some n := ⟨_, List.getElem?_eq_getElem hjl⟩
                  have hcn := HCE.out j n hn
                  have HCN := Aside0.mk hcn
                  clear hn hcn
                  go_wp2_with fail
                  refine (num_calls HJ.out).mono ?_
                  rw [HCN.out]
                  rintro e w9 ⟨rfl, hs, hf⟩
                  have K9 := Aside0.mk hs
                  have G9 : Aside0 (Fr No w w9) := ⟨FJ.out.trans hf (fun k hk e => by have e' : k = g' := e; have := HGS'.out; omega)⟩
                  clear hs hf
                  go_wp2
                  go_roundw
                  case rel => exact ⟨j + 1, by go_num, by omega, K9, G9⟩
                  case measure => simp [intOf]; omega
                · have hjI : ¬ (j : Int) < (l.length : Int) := by omega
                  obtain rfl : j = l.length := by omega
                  go_wp2_with fail
                  refine (text_calls HJ.out (by rw [HCL.out]; omega)).mono ?_
                  rintro e w9 ⟨d9, rfl, -, hs, hf, -⟩
                  have K9 := Aside0.mk hs
                  have G9 : Aside0 (Fr No w w9) := ⟨FJ.out.trans hf (fun k hk e => by have e' : k = g' := e; have := HGS'.out; omega)⟩
                  clear hs hf
                  go_wp2_with fail
                  refine (err_calls K9.out).mono ?_
                  rintro e w10 ⟨ev, he, rfl, rfl⟩
                  rw [HCT.out] at he
                  have HE10 := Aside0.mk he
                  clear he
                  go_wp2_with fail
                  refine (number_calls (HG.out.no G9.out) HE10.out).mono ?_
                  rintro e w11 ⟨rfl, hf⟩
                  simp only [noE, Option.map_some, Option.getD_some]
                  have K11 := Aside0.mk (K9.out.no hf); have G11 := Aside0.mk (G9.out.none hf)
                  clear hf
                  go_wp2_with fail
                  refine (err_calls K11.out).mono ?_
                  rintro e w12 ⟨ev12, he, rfl, rfl⟩
                  rw [HCT.out] at he
                  have HE12 := Aside0.mk he
                  clear he
                  go_wp2_with fail
                  refine (place_calls (HG.out.no G11.out) HE12.out).mono ?_
                  rintro e w13 ⟨rfl, hf⟩
                  simp only [plE, Option.map_some, Option.getD_some]
                  have G13 := Aside0.mk (G11.out.none hf)
                  clear hf
                  go_wp2
                  go_ret
                  exact ⟨rfl, G13.out⟩
theorem walk (vl : Value) (l : List Int) (vs : Value) (s : List UInt8) (k : Int) (w : World) (hg : Gl w) (hv : RdI w vl l ∧ ∀ x ∈ l, (Lit.int .i64 x).wf = true) (hs : RdB w vs s ∧ s.length ≤ reach) (_ : (Lit.int .i64 k).wf = true) : Calls Tryd.prog 4 #[vl, vs, .int .i64 k] w fun e w' => e = .returned (.bool true) ∧ Fr No w w' := by
  by_cases h : 30 < l.length ∨ 4096 < s.length
  · exact walk_out vl l vs s k w hv.1 hs.1 h
  · exact walk_ok vl l vs s k w hg hv.1 hs.1 (by omega) (by omega)
end Go.Proofs.YtdicjcpcohclaaaDoor.LCodeBack
