/- The walk of the law CodeStands. -/
import Derived.Test.YtdicjcpcohclaaaDoorErrW
import Derived.Test.YtdicjcpcohclaaaDoorCodeP
import Derived.Test.YtdicjcpcohclaaaDoorReader
import Derived.Test.YtdicjcpcohclaaaDoorReadT
import Derived.Test.YtdicjcpcohclaaaDoorReadS
import Derived.Test.YtdicjcpcohclaaaDoorArr
import Derived.Test.YtdicjcpcohclaaaDoorSpecRd
import Derived.OpenShut
set_option linter.unusedVariables false
set_option linter.unusedSimpArgs false
namespace Go.Proofs.YtdicjcpcohclaaaDoor.LCodeStands
open Go.ChangeShapes Go.RowKit Go.Proofs.YtdicjcpcohclaaaDoorW.PrintWords Go.Proofs.YtdicjcpcohclaaaDoor.B Go.Proofs.YtdicjcpcohclaaaDoor.PB Go.Proofs.YtdicjcpcohclaaaDoor.Err Go.Proofs.YtdicjcpcohclaaaDoor.Rdr Go.Proofs.YtdicjcpcohclaaaDoor.SCode

set_option maxHeartbeats 8000000 in
set_option maxRecDepth 100000 in
theorem walk_out (v : Value) (b : List UInt8) (m : Int) (w : World) (hb : RdB w v b) (h : 2000 < b.length ∨ m < 0 ∨ 20 < m) : Calls Tryd.prog 5 #[v, .int .i64 m] w fun e w' => e = .returned (.bool true) ∧ Fr No w w' := by
  obtain ⟨A, c, rfl, _⟩ := id hb
  clear hb
  have hc : (2000 : Int) < (b.length : Int) ∨ (¬ (2000 : Int) < (b.length : Int) ∧ m < 0) ∨ (¬ (2000 : Int) < (b.length : Int) ∧ ¬ m < 0 ∧ 20 < m) := by omega
  clear h
  rcases hc with h1 | ⟨h1, h2⟩ | ⟨h1, h2, h3⟩
  all_goals
    go_enter Tryd.func5, Tryd.ntmps5
    go_wp2_with fail
    refine (CodeR.reads_calls w).mono ?_
    rintro e w1 ⟨rfl, hf⟩
    have F1 := Aside0.mk hf; clear hf
    go_wp2
    go_ret
    exact ⟨rfl, F1.out⟩

set_option maxHeartbeats 8000000 in
set_option maxRecDepth 100000 in
theorem walk_ok (v : Value) (b : List UInt8) (m : Int) (w : World) (hg : Gl w) (hb : RdB w v b) (hl : b.length ≤ 2000) (hm0 : 0 ≤ m) (hm1 : m ≤ 20) : Calls Tryd.prog 5 #[v, .int .i64 m] w fun e w' => e = .returned (.bool true) ∧ Fr No w w' := by
  obtain ⟨A, c, rfl, _⟩ := id hb
  have HB := Aside0.mk hb; clear hb
  have HG := Aside0.mk hg; clear hg
  have g1 : ¬ (2000 : Int) < (b.length : Int) := by omega
  have g2 : ¬ m < 0 := by omega
  have g3 : ¬ 20 < m := by omega
  go_enter Tryd.func5, Tryd.ntmps5
  go_wp2_with fail
  refine (CodeR.reads_calls w).mono ?_
  rintro e w1 ⟨rfl, hf⟩
  have F1 := Aside0.mk hf; clear hf
  go_wp2_with fail
  refine (read_calls (HB.out.no F1.out)).mono ?_
  rintro e w2 ⟨rfl, hs, hf⟩
  have HS2 := Aside0.mk hs; have F2 := Aside0.mk (F1.out.none hf)
  obtain ⟨g, hgg⟩ : ∃ g, w1.heap.size = g := ⟨_, rfl⟩
  have HGS : Aside0 (w.heap.size ≤ g) := ⟨by rw [← hgg]; exact F1.out.size⟩
  rw [hgg] at HS2 ⊢
  clear hs hf hgg
  go_wp2
  go_loopw [6] (fun v6 wr => ∃ (i : Nat) (rr : R), v6 = .int .i64 (i : Int) ∧ i ≤ b.length + 1 ∧ Aside0 (St wr g (.slice A b.length c) b rr) ∧ Aside0 (rr.err = none → i ≤ rr.at_) ∧ Aside0 (pos rr) ∧ Aside0 (Fr No w wr)) (fun v6 _ => b.length + 1 - (intOf v6).toNat)
  case atStart => exact ⟨0, ⟨0, none⟩, rfl, by omega, HS2, ⟨fun _ => Nat.le_refl _⟩, ⟨pos_none 0⟩, F2⟩
  case round =>
    obtain ⟨i, rr, rfl, hi, HS, HI, HP, HF⟩ := hrel
    have hat := HS.out.at_le
    obtain ⟨ra, re⟩ := rr
    cases re with
    | none =>
      have hia := HI.out rfl
      simp only [] at hat hia
      have hiI : (i : Int) ≤ (b.length : Int) := by omega
      go_wp2_with fail
      refine (err_calls HS.out).mono ?_
      rintro e w3 ⟨ev, he, rfl, rfl⟩
      obtain rfl : ev = .nilIface := he
      go_wp2_with fail
      refine (num_calls HS.out).mono ?_
      rintro e w3 ⟨rfl, hs3, hf3⟩
      have HS3 := Aside0.mk hs3; have F3 : Aside0 (Fr No w w3) := ⟨HF.out.trans hf3 (fun k hk e => by have e' : k = g := e; have := HGS.out; omega)⟩
      clear hs3 hf3
      go_wp2
      go_roundw
      case rel => exact ⟨i + 1, _, by go_num, by omega, HS3, ⟨fun h => by have := num_at h; dsimp only at this; omega⟩, ⟨pos_num HP.out b⟩, F3⟩
      case measure => simp [intOf]; omega
    | some q =>
      obtain ⟨qa, qe⟩ := q
      have hqe : 0 < qe := HP.out (qa, qe) rfl
      by_cases hiI : (i : Int) ≤ (b.length : Int)
      case' pos =>
        go_wp2_with fail
        refine (err_calls HS.out).mono ?_
        rintro e w3 ⟨ev, he, rfl, rfl⟩
        obtain ⟨fb, rfl, hfb⟩ := he
        clear hfb
      all_goals
        go_wp2_with fail
        refine (err_calls HS.out).mono ?_
        rintro e w3 ⟨ev, he, rfl, rfl⟩
        obtain ⟨fb, rfl, hfb⟩ := he
        clear hfb
        have HR2 : Aside0 (Fr No w wr) := HF
        go_wp2_with fail
        refine (err_calls HS.out).mono ?_
        rintro e w3 ⟨ev, he, rfl, rfl⟩
        have HE := Aside0.mk he
        clear he
        go_wp2_with fail
        refine (number_calls (HG.out.no HF.out) HE.out).mono ?_
        rintro e w4 ⟨rfl, hf4⟩
        simp only [noE, Option.map_some, Option.getD_some]
        have HS4 := Aside0.mk (HS.out.no hf4); have F4 := Aside0.mk (HF.out.none hf4)
        clear hf4
        go_wp2_with fail
        refine (err_calls HS4.out).mono ?_
        rintro e w5 ⟨ev5, he, rfl, rfl⟩
        have HE5 := Aside0.mk he
        clear he
        go_wp2_with fail
        refine (place_calls (HG.out.no F4.out) HE5.out).mono ?_
        rintro e w6 ⟨rfl, hf6⟩
        simp only [plE, Option.map_some, Option.getD_some]
        have HS6 := Aside0.mk (HS4.out.no hf6); have F6 := Aside0.mk (F4.out.none hf6)
        clear hf6
        go_wp2
        clear hiI
        go_loopw [47] (fun v47 wq => ∃ j : Nat, v47 = .int .i64 (j : Int) ∧ (j : Int) ≤ m ∧ Aside0 (St wq g (.slice A b.length c) b ⟨ra, some (qa, qe)⟩) ∧ Aside0 (Fr No w wq)) (fun v47 _ => m.toNat - (intOf v47).toNat)
        case atStart => exact ⟨0, rfl, by omega, HS6, F6⟩
        case round =>
          obtain ⟨j, rfl, hj, HJ, FJ⟩ := hrel
          by_cases hjm : (j : Int) < m
          · go_wp2_with fail
            refine (byte_calls HJ.out).mono ?_
            rintro e x1 ⟨rfl, hs, hf⟩
            have K1 : Aside0 (St x1 g (.slice A b.length c) b ⟨ra, some (qa, qe)⟩) := ⟨hs⟩
            have G1 : Aside0 (Fr No w x1) := ⟨FJ.out.trans hf (fun k hk e => by have e' : k = g := e; have := HGS.out; omega)⟩
            clear hs hf
            rw [show (rByte b ⟨ra, some (qa, qe)⟩).2 = 0 from rfl]
            go_wp2_with fail
            refine (num_calls K1.out).mono ?_
            rintro e x2 ⟨rfl, hs, hf⟩
            have K2 : Aside0 (St x2 g (.slice A b.length c) b ⟨ra, some (qa, qe)⟩) := ⟨hs⟩
            have G2 : Aside0 (Fr No w x2) := ⟨G1.out.trans hf (fun k hk e => by have e' : k = g := e; have := HGS.out; omega)⟩
            clear hs hf
            rw [show (rNum b ⟨ra, some (qa, qe)⟩).2 = 0 from rfl]
            go_wp2_with fail
            refine (text_calls K2.out (by omega)).mono ?_
            rintro e x3 ⟨d, rfl, ho, hs, hf, -⟩
            have K3 : Aside0 (St x3 g (.slice A b.length c) b ⟨ra, some (qa, qe)⟩) := ⟨hs⟩
            have G3 : Aside0 (Fr No w x3) := ⟨G2.out.trans hf (fun k hk e => by have e' : k = g := e; have := HGS.out; omega)⟩
            obtain ⟨Ad, cd, rfl⟩ := ho.form
            rw [show (rText b ⟨ra, some (qa, qe)⟩).2 = [] from rfl]
            clear hs hf ho
            go_wp2_with fail
            refine (sum_calls K3.out (by omega)).mono ?_
            rintro e x4 ⟨rfl, hs, hf⟩
            have K4 : Aside0 (St x4 g (.slice A b.length c) b ⟨ra, some (qa, qe)⟩) := ⟨hs⟩
            have G4 : Aside0 (Fr No w x4) := ⟨G3.out.trans hf (fun k hk e => by have e' : k = g := e; have := HGS.out; omega)⟩
            clear hs hf
            rw [show (rSum b ⟨ra, some (qa, qe)⟩).2 = List.replicate 32 0 from rfl]
            have qn : ∀ W, (binOp .neq 41 (.agg ((List.replicate 32 (0 : UInt8)).map vu8).toArray) (.agg #[.int .u8 0, .int .u8 0, .int .u8 0, .int .u8 0, .int .u8 0, .int .u8 0, .int .u8 0, .int .u8 0, .int .u8 0, .int .u8 0, .int .u8 0, .int .u8 0, .int .u8 0, .int .u8 0, .int .u8 0, .int .u8 0, .int .u8 0, .int .u8 0, .int .u8 0, .int .u8 0, .int .u8 0, .int .u8 0, .int .u8 0, .int .u8 0, .int .u8 0, .int .u8 0, .int .u8 0, .int .u8 0, .int .u8 0, .int .u8 0, .int .u8 0, .int .u8 0])).run Tryd.prog W = .ok (.bool false) W := fun W => Arr.run_neq Tryd.underlying41 W (List.replicate 32 0) (List.replicate 32 0) rfl rfl
            have qg := fun x y W => run_eqGuard_agg (P := Tryd.prog) W .neq 41 x y ((List.replicate 32 (0 : UInt8)).map vu8).toArray #[.int .u8 0, .int .u8 0, .int .u8 0, .int .u8 0, .int .u8 0, .int .u8 0, .int .u8 0, .int .u8 0, .int .u8 0, .int .u8 0, .int .u8 0, .int .u8 0, .int .u8 0, .int .u8 0, .int .u8 0, .int .u8 0, .int .u8 0, .int .u8 0, .int .u8 0, .int .u8 0, .int .u8 0, .int .u8 0, .int .u8 0, .int .u8 0, .int .u8 0, .int .u8 0, .int .u8 0, .int .u8 0, .int .u8 0, .int .u8 0, .int .u8 0, .int .u8 0] (by kernel_rfl)
            generalize ((List.replicate 32 (0 : UInt8)).map vu8).toArray = vz at qn qg ⊢
            go_wp2_with fail
            clear qn qg
            refine (end_calls K4.out).mono ?_
            rintro e x5 ⟨⟨ev5, he, rfl⟩, hs, hf⟩
            have K5 : Aside0 (St x5 g (.slice A b.length c) b ⟨ra, some (qa, qe)⟩) := ⟨hs⟩
            have G5 : Aside0 (Fr No w x5) := ⟨G4.out.trans hf (fun k hk e => by have e' : k = g := e; have := HGS.out; omega)⟩
            have HE5 : Aside0 (IsErr x5 ev5 (some (qa, qe))) := ⟨he⟩
            clear hs hf he
            go_wp2_with fail
            refine (number_calls (HG.out.no G5.out) HE5.out).mono ?_
            rintro e x6 ⟨rfl, hf⟩
            simp only [noE, Option.map_some, Option.getD_some]
            have K6 := Aside0.mk (K5.out.no hf); have G6 := Aside0.mk (G5.out.none hf)
            clear hf
            go_wp2_with fail
            refine (err_calls K6.out).mono ?_
            rintro e x7 ⟨ev7, he, rfl, rfl⟩
            have HE7 := Aside0.mk he
            clear he
            go_wp2_with fail
            refine (place_calls (HG.out.no G6.out) HE7.out).mono ?_
            rintro e x8 ⟨rfl, hf⟩
            simp only [plE, Option.map_some, Option.getD_some]
            have K8 := Aside0.mk (K6.out.no hf); have G8 := Aside0.mk (G6.out.none hf)
            clear hf
            go_wp2
            go_roundw
            case rel => exact ⟨j + 1, by go_num, by omega, K8, G8⟩
            case measure => simp [intOf]; omega
          · go_wp2
            go_ret
            exact ⟨by simp; omega, FJ.out⟩
theorem walk (v : Value) (b : List UInt8) (m : Int) (w : World) (hg : Gl w) (hb : RdB w v b ∧ b.length ≤ reach) (_ : (Lit.int .i64 m).wf = true) : Calls Tryd.prog 5 #[v, .int .i64 m] w fun e w' => e = .returned (.bool true) ∧ Fr No w w' := by
  by_cases h : 2000 < b.length ∨ m < 0 ∨ 20 < m
  · exact walk_out v b m w hb.1 h
  · exact walk_ok v b m w hg hb.1 (by omega) (by omega) (by omega)
end Go.Proofs.YtdicjcpcohclaaaDoor.LCodeStands
