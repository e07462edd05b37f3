/- The walk of the law CodeSizes. -/
import Derived.Test.YtdicjcpcohclaaaCodeR
set_option linter.unusedVariables false
set_option linter.unusedSimpArgs false
namespace Go.Proofs.Ytdicjcpcohclaaa.LCodeSizes
open Go.RowKit Go.Proofs.YtdicjcpcohclaaaW.PrintWords Go.Proofs.Ytdicjcpcohclaaa.B Go.Proofs.Ytdicjcpcohclaaa.PB Go.Proofs.Ytdicjcpcohclaaa.SCode Go.Proofs.Ytdicjcpcohclaaa.Rdr
attribute [local go_sem] B.max2_int B.min2_int B.max_two B.min_two

theorem walk_out (a b : Int) (w : World) (h : a < 0 ∨ (0 ≤ a ∧ b < a) ∨ (0 ≤ a ∧ a ≤ b ∧ 1099511627776 < b)) : Calls Try.prog 3 #[.int .i64 a, .int .i64 b] w fun e w' => e = .returned (.bool true) ∧ Fr No w w' := by
  rcases h with h | ⟨h, h1⟩ | ⟨h, h1, h2⟩
  all_goals
    go_enter Try.func3, Try.ntmps3
    go_wp2_with fail
    refine (CodeR.reads_calls w).mono ?_
    rintro e w1 ⟨rfl, hf⟩
    have F1 := Aside0.mk hf; clear hf
    go_wp2
    go_ret
    exact ⟨rfl, F1.out⟩

set_option maxHeartbeats 4000000 in
set_option maxRecDepth 100000 in
theorem walk_ok (a b : Nat) (w : World) (h1 : a ≤ b) (h2 : b ≤ 1099511627776) : Calls Try.prog 3 #[.int .i64 (a : Int), .int .i64 (b : Int)] w fun e w' => e = .returned (.bool true) ∧ Fr No w w' := by
  have ha : numI a = numB a := by rw [numI, clampN_nat a (by omega)]
  have hb : numI b = numB b := by rw [numI, clampN_nat b (by omega)]
  have h1I : ¬ (b : Int) < (a : Int) := by omega
  have h2I : ¬ 1099511627776 < (b : Int) := by omega
  have HA := Aside0.mk ha; have HB := Aside0.mk hb; clear ha hb
  go_enter Try.func3, Try.ntmps3
  go_wp2_with fail
  refine (CodeR.reads_calls w).mono ?_
  rintro e w1 ⟨rfl, hf⟩
  have F1 := Aside0.mk hf; clear hf
  go_wp2_with fail
  refine (CodeW.num_calls _ [] a w1 (Ow.nil _ _ _) (by simp)).mono ?_
  rintro e w2 ⟨vx, rfl, g1, g2, g3, g4⟩
  rw [HA.out, List.nil_append] at g1
  have O2 := Aside0.mk g1
  have F2 := Aside0.mk (F1.out.trans g2 (fun k _ hk => by simp [blk, Value.ownBlock] at hk))
  clear g1 g2 g3 g4
  go_wp2_with fail
  refine (CodeW.num_calls _ [] b w2 (Ow.nil _ _ _) (by simp)).mono ?_
  rintro e w3 ⟨vy, rfl, g1, g2, g3, g4⟩
  rw [HB.out, List.nil_append] at g1
  have O3 := Aside0.mk g1
  have hno : Fr No w2 w3 := g2.mono (fun k _ hk => by simp [blk, Value.ownBlock] at hk)
  have O2' := Aside0.mk (O2.out.no hno)
  have F3 := Aside0.mk (F2.out.none hno)
  clear g1 g2 g3 g4 hno O2 F2
  obtain ⟨gx, cx, rfl, _⟩ := O2'.out.at_ (numB_pos a)
  obtain ⟨Y, cy, rfl⟩ := O3.out.form
  have sx := str_of_rd O2'.out.rd
  have sy := str_of_rd O3.out.rd
  go_wp2
  go_loop [7, 8] (fun v7 v8 => ∃ (k q : Nat), v7 = .int .i64 (q : Int) ∧ v8 = .int .i64 (k : Int) ∧ k ≤ 1099511627776 ∧ q ≤ 6 ∧ Aside0 (q + (numB k).length = (numB a).length + 1)) (fun _ v8 => (intOf v8).toNat)
  case atStart => exact ⟨a, 1, rfl, rfl, by omega, by omega, ⟨by omega⟩⟩
  case round =>
    obtain ⟨k, q, rfl, rfl, hk, hq, HQ⟩ := hrel
    by_cases hb : 128 ≤ k
    · have hbI : (127 : Int) < (k : Int) := by omega
      have hq2 : q + 1 ≤ 6 := by
        have := HQ.out
        rw [numB_big k (by omega)] at this
        have h6 := numB_length_six a (by omega)
        have hp := numB_pos (k / 128)
        simp at this
        omega
      go_wp2
      go_round
      case rel => exact ⟨k / 128, q + 1, by go_num, by go_num, by omega, hq2, ⟨by have := HQ.out; rw [numB_big k (by omega)] at this; simp at this; omega⟩⟩
      case measure => simp [intOf]; omega
    · have hbI : ¬ (127 : Int) < (k : Int) := by omega
      obtain rfl : q = (numB a).length := by have := HQ.out; rw [numB_small k (by omega)] at this; simp at this; omega
      go_wp2
      go_loop [36] (fun v36 => ∃ (i : Nat), v36 = .int .i64 (i : Int) ∧ i ≤ (numB a).length) (fun v36 => ((numB a).length - (intOf v36).toNat))
      case atStart => exact ⟨0, rfl, by omega⟩
      case round =>
        obtain ⟨i, rfl, hi⟩ := hrel
        by_cases hlt : i < (numB a).length
        · have hcell : w3.cell? ⟨gx, i, none⟩ = some (vu8 (numB a)[i]) := by
            obtain ⟨A', c', he, _, _, hr⟩ := O2'.out.rd
            injection he with e1 _ _
            obtain ⟨ad, hA, hc⟩ := hr (by omega)
            rw [hA] at e1
            injection e1 with e1
            subst e1
            have := hc i (vu8 (numB a)[i]) (by rw [u8_cells]; simp [hlt])
            rwa [add_plain] at this
          have hl := numB_last a i hlt
          obtain ⟨x, hx⟩ : ∃ x, (numB a)[i] = x := ⟨_, rfl⟩
          rw [hx] at hcell hl
          clear hx
          by_cases hlast : i + 1 = (numB a).length
          · have c1 : ((x.toNat : Nat) : Int) < 128 := by have := hl.2 hlast; omega
            have c2 : ((i : Int) == ((numB a).length : Int) - 1) = true := by rw [beq_iff_eq]; omega
            have HL := Aside0.mk hlast
            clear hlast hl
            go_wp2
            go_round
            case rel => exact ⟨i + 1, by go_num, by omega⟩
            case measure => simp [intOf]; omega
          · have c1 : ¬ ((x.toNat : Nat) : Int) < 128 := by intro h; exact hlast (hl.1 (by omega))
            have c2 : ((i : Int) == ((numB a).length : Int) - 1) = false := by rw [beq_eq_false_iff_ne]; omega
            clear hlast hl
            go_wp2
            go_round
            case rel => exact ⟨i + 1, by go_num, by omega⟩
            case measure => simp [intOf]; omega
        · obtain rfl : i = (numB a).length := by omega
          have hm := numB_mono a b h1
          have e1 : (numB a == numB b) = ((a : Int) == (b : Int)) := by
            rw [Bool.eq_iff_iff, beq_iff_eq, beq_iff_eq]
            exact ⟨fun h => by rw [numB_inj a b h], fun h => by rw [show a = b by omega]⟩
          rcases hb2 : ((a : Int) == (b : Int))
          all_goals
            rw [hb2] at e1
            go_wp2
            go_ret
            exact ⟨rfl, F3.out⟩

theorem walk (a b : Int) (w : World) : Calls Try.prog 3 #[.int .i64 a, .int .i64 b] w fun e w' => e = .returned (.bool true) ∧ Fr No w w' := by
  by_cases h : a < 0 ∨ (0 ≤ a ∧ b < a) ∨ (0 ≤ a ∧ a ≤ b ∧ 1099511627776 < b)
  · exact walk_out a b w h
  · obtain ⟨x, rfl⟩ := Int.eq_ofNat_of_zero_le (show 0 ≤ a by omega)
    obtain ⟨y, rfl⟩ := Int.eq_ofNat_of_zero_le (show 0 ≤ b by omega)
    exact walk_ok x y w (by omega) (by omega)
end Go.Proofs.Ytdicjcpcohclaaa.LCodeSizes
