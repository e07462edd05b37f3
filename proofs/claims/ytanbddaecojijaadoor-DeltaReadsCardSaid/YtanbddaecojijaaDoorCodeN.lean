/- The walks of package code: Num (a number behind bytes), the Reader. The walk of chapter 03's reference: Num. -/
import Derived.Test.YtanbddaecojijaaDoorPB
import Derived.Test.YtanbddaecojijaaDoorSpecCode
import Derived.Deep.DeepCutAuto
import Derived.Deep.CutBlock
set_option linter.unusedVariables false
set_option linter.unusedSimpArgs false
namespace Go.Proofs.YtanbddaecojijaaDoor.CodeW
open Go.RowKit Go.Proofs.YtanbddaecojijaaDoorW.PrintWords Go.Proofs.YtanbddaecojijaaDoor.B Go.Proofs.YtanbddaecojijaaDoor.PB Go.Proofs.YtanbddaecojijaaDoor.SCode
attribute [local go_sem] B.max2_int B.min2_int B.max_two B.min_two

theorem or128 (m : Nat) : bits .or .u8 ((m : Int) % 256) 128 = ((UInt8.ofNat (m % 128 + 128)).toNat : Int) := by
  have h : ∀ r : Fin 256, bits .or .u8 ((r.val : Nat) : Int) 128 = ((UInt8.ofNat (r.val % 128 + 128)).toNat : Int) := by decide +kernel
  have h2 := h ⟨m % 256, by omega⟩
  simp only [Nat.mod_mod_of_dvd m (show 128 ∣ 256 by decide)] at h2
  rw [← h2]
  congr 1
theorem low8 (m : Nat) (h : m < 128) : (m : Int) % 256 = ((UInt8.ofNat m).toNat : Int) := by
  rw [UInt8.toNat_ofNat']; omega

theorem low8' (m : Nat) (h : m < 128) : (m : Int) = ((UInt8.ofNat m).toNat : Int) := by
  rw [UInt8.toNat_ofNat']; omega

set_option maxHeartbeats 1000000 in
set_option maxRecDepth 100000 in
theorem num_calls (v : Value) (xs : List UInt8) (n : Int) (w : World) (ho : Ow u8 5 w v xs) (hl : xs.length ≤ 140737488355000) :
    Calls Tryd.prog 46 #[v, .int .i64 n] w fun en w' => ∃ v', en = .returned v' ∧ Ow u8 5 w' v' (xs ++ numI n) ∧ Fr (blk v) w w' ∧ At w v v' ∧ Ow u8 5 w' v xs := by
  obtain ⟨j1, hj1⟩ : ∃ j : Int, (if 1099511627776 < n then 1099511627776 else n) = j := ⟨_, rfl⟩
  have hj2 : (if 0 < j1 then j1 else 0) = ((clampN n : Nat) : Int) := by
    subst hj1; unfold clampN; repeat' split
    all_goals omega
  have hc := clampN_le n
  obtain ⟨m, hm⟩ : ∃ m, clampN n = m := ⟨_, rfl⟩
  rw [hm] at hj2 hc
  have Hm := Aside0.mk hm; clear hm
  have HO := Aside0.mk ho; clear ho
  have HL := Aside0.mk hl; clear hl
  go_enter Tryd.func46, Tryd.ntmps46
  go_wp2
  go_loopw [0, 1] (fun v0 v1 wr => ∃ (j : Nat) (ys : List UInt8), v1 = .int .i64 j ∧ j ≤ 1099511627776 ∧ Aside0 (ys ++ numB j = numB m) ∧ Aside0 (Ow u8 5 wr v0 (xs ++ ys)) ∧ Aside0 (Fr (blk v) w wr) ∧ Aside0 (At w v v0) ∧ Aside0 (Ow u8 5 wr v xs)) (fun _ i _ => (intOf i).toNat)
  case atStart => exact ⟨m, [], rfl, hc, ⟨rfl⟩, ⟨by simpa using HO.out⟩, ⟨Fr.refl _ _⟩, ⟨At.refl _ _⟩, ⟨HO.out⟩⟩
  case round =>
    obtain ⟨j, ys, rfl, hj, HY, HO, HF, HA, HR⟩ := hrel
    have hlen : ys.length ≤ 6 := by
      have h1 := numB_length_six m hc
      rw [← HY.out] at h1
      simp at h1
      omega
    by_cases hb : 127 < j
    · have hbI : (127 : Int) < (j : Int) := by omega
      go_wp2_with (at_builtin; go_loud (refine apB u0 (xs ++ ys) (UInt8.ofNat (j % 128 + 128)) _ rfl (.tmp 12) (.tmp 16) rfl rfl rfl (or128 j) HO.out ?c3 ?_; (case c3 => have := HL.out; simp; omega); intro v1 w1 h1 h2 h3 h4; have H1 := Aside0.mk h1; have H2 := Aside0.mk h2; have H3 := Aside0.mk h3; have H4 := Aside0.mk h4; clear h1 h2 h3 h4))
      go_roundw
      case rel =>
        refine ⟨j / 128, ys ++ [UInt8.ofNat (j % 128 + 128)], by go_num, by omega, ⟨by rw [← HY.out, numB_big j (by omega)]; simp⟩, ⟨by simpa using H1.out⟩, ⟨HF.out.trans H2.out (fun k hk hb => ?_)⟩, ⟨HA.out.trans H3.out HF.out.size⟩, ⟨?_⟩⟩
        · exact At.back HA.out hb hk
        · exact Ow.keep HR.out HO.out H2.out H4.out
      case measure => simp [intOf]; omega
    · go_wp2_with (at_builtin; refine apB u0 (xs ++ ys) (UInt8.ofNat j) _ rfl (.tmp 18) (.tmp 21) rfl rfl rfl ?c4 HO.out ?c3 ?_; (case c4 => (first | exact low8 j (by omega) | exact low8' j (by omega))); (case c3 => have := HL.out; simp; omega); intro v1 w1 h1 h2 h3 h4; have H1 := Aside0.mk h1; have H2 := Aside0.mk h2; have H3 := Aside0.mk h3; have H4 := Aside0.mk h4; clear h1 h2 h3 h4)
      go_ret
      refine ⟨_, rfl, ?_, HF.out.trans H2.out (fun k hk hb => At.back HA.out hb hk), HA.out.trans H3.out HF.out.size, ?_⟩
      · rw [numI, Hm.out, ← HY.out, numB_small j (by omega), ← List.append_assoc]; exact H1.out
      · exact Ow.keep HR.out HO.out H2.out H4.out
end Go.Proofs.YtanbddaecojijaaDoor.CodeW
namespace Go.Proofs.YtanbddaecojijaaDoor.CodeN
open Go.RowKit Go.Proofs.YtanbddaecojijaaDoorW.PrintWords Go.Proofs.YtanbddaecojijaaDoor.B Go.Proofs.YtanbddaecojijaaDoor.PB Go.Proofs.YtanbddaecojijaaDoor.SCode
attribute [local go_sem] B.max2_int B.min2_int B.max_two B.min_two

theorem digit_more (j : Nat) : b8 (((j : Int) % 128 + 128) % 256) = UInt8.ofNat (j % 128 + 128) := by
  unfold b8; congr 1; omega
theorem digit_more' (j : Nat) : b8 ((j : Int) % 128 + 128) = UInt8.ofNat (j % 128 + 128) := by
  unfold b8; congr 1
theorem digit_last (j : Nat) (h : j < 128) : b8 ((j : Int) % 256) = UInt8.ofNat j := by
  unfold b8; congr 1; omega

end Go.Proofs.YtanbddaecojijaaDoor.CodeN
