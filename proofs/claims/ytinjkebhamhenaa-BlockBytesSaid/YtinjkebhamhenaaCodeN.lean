/- The walk of chapter 03's reference: Num. -/
import Derived.Test.YtinjkebhamhenaaCodeW
import Derived.Deep.DeepCutAuto
import Derived.Deep.CutBlock
set_option linter.unusedVariables false
set_option linter.unusedSimpArgs false
namespace Go.Proofs.Ytinjkebhamhenaa.CodeN
open Go.RowKit Go.Proofs.YtinjkebhamhenaaW.PrintWords Go.Proofs.Ytinjkebhamhenaa.B Go.Proofs.Ytinjkebhamhenaa.PB Go.Proofs.Ytinjkebhamhenaa.SCode
attribute [local go_sem] B.max2_int B.min2_int B.max_two B.min_two

theorem digit_more (j : Nat) : b8 (((j : Int) % 128 + 128) % 256) = UInt8.ofNat (j % 128 + 128) := by
  unfold b8; congr 1; omega
theorem digit_more' (j : Nat) : b8 ((j : Int) % 128 + 128) = UInt8.ofNat (j % 128 + 128) := by
  unfold b8; congr 1
theorem digit_last (j : Nat) (h : j < 128) : b8 ((j : Int) % 256) = UInt8.ofNat j := by
  unfold b8; congr 1; omega

set_option maxHeartbeats 2000000 in
set_option maxRecDepth 100000 in
theorem refNum_calls (n : Int) (w : World) : Calls Try.prog 33 #[.int .i64 n] w fun en w' => en = .returned (.string (bstr (numI n))) ∧ Fr No w w' := by
  have hc := clampN_le n
  obtain ⟨m, hm⟩ : ∃ m, clampN n = m := ⟨_, rfl⟩
  rw [numI, hm]
  rw [hm] at hc
  have h3 : (n < 0 ∧ m = 0) ∨ (0 ≤ n ∧ 1099511627776 < n ∧ m = 1099511627776) ∨ (0 ≤ n ∧ n ≤ 1099511627776 ∧ n = (m : Int)) := by
    subst hm; unfold clampN; repeat' split
    all_goals omega
  clear hm
  obtain ⟨T, hT⟩ : ∃ T, numB m = T := ⟨_, rfl⟩
  rw [hT]
  have HT := Aside0.mk hT; clear hT
  have hT6 : Aside0 (T.length ≤ 6) := ⟨by rw [← HT.out]; exact numB_length_six m hc⟩
  have sb := str_box
  have h4 : (n < 0 ∧ Aside0 ((0 : Int) = (m : Int))) ∨ (0 ≤ n ∧ 1099511627776 < n ∧ Aside0 ((1099511627776 : Int) = (m : Int))) ∨ (0 ≤ n ∧ n ≤ 1099511627776 ∧ Aside0 (n = (m : Int))) := by
    rcases h3 with ⟨a1, e⟩ | ⟨a1, a2, e⟩ | ⟨a1, a2, e⟩
    · exact .inl ⟨a1, ⟨by omega⟩⟩
    · exact .inr (.inl ⟨a1, a2, ⟨by omega⟩⟩)
    · exact .inr (.inr ⟨a1, a2, ⟨e⟩⟩)
  clear h3
  rcases h4 with ⟨a1, E⟩ | ⟨a1, a2, E⟩ | ⟨a1, a2, E⟩
  all_goals
    go_enter Try.func33, Try.ntmps33
    go_wp2
    go_loopw [0, 3] (fun v0 v3 wr => ∃ (j : Nat) (ys : List UInt8), v0 = .int .i64 (j : Int) ∧ j ≤ 1099511627776 ∧ v3 = .string (bstr ys) ∧ Aside0 (ys ++ numB j = T) ∧ Aside0 (Fr No w wr)) (fun v0 _ _ => (intOf v0).toNat)
    case atStart => exact ⟨m, [], congrArg (Value.int .i64) E.out, hc, rfl, ⟨HT.out⟩, ⟨Fr.refl _ _⟩⟩
    case round =>
      clear hc HT
      obtain ⟨j, ys, rfl, hj, rfl, HY, HF⟩ := hrel
      have hlen : ys.length ≤ 6 := by have h1 := hT6.out; rw [← HY.out] at h1; simp at h1; omega
      by_cases hb : 128 ≤ j
      · have hbI : (128 : Int) ≤ (j : Int) := by omega
        go_wp2
        go_roundw
        case rel => exact ⟨j / 128, ys ++ [UInt8.ofNat (j % 128 + 128)], by go_num, by omega, by first | rw [digit_more] | rw [digit_more'], ⟨by rw [← HY.out, numB_big j (by omega)]; simp⟩, ⟨HF.out.alloc _⟩⟩
        case measure => simp [intOf]; omega
      · have hbI : ¬ (128 : Int) ≤ (j : Int) := by omega
        go_wp2
        go_ret
        exact ⟨by rw [← HY.out, numB_small j (by omega)]; (first | rw [digit_last j (by omega)] | rw [b8_nat]); rfl, HF.out.alloc _⟩
end Go.Proofs.Ytinjkebhamhenaa.CodeN
