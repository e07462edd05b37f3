/- The walk of the law DeltaReads. -/
import Derived.Test.YtanbddaecojijaaDoorDelH
import Derived.Test.YtanbddaecojijaaDoorDelZ
import Derived.Test.YtanbddaecojijaaDoorDelG
import Derived.Test.YtanbddaecojijaaDoorRef7R
import Derived.Test.YtanbddaecojijaaDoorErrW
set_option linter.unusedVariables false
set_option linter.unusedSimpArgs false
namespace Go.Proofs.YtanbddaecojijaaDoor.LDeltaReads
open Go.RowKit Go.IntWalk Go.Proofs.YtanbddaecojijaaDoorW.PrintWords Go.Proofs.YtanbddaecojijaaDoor.B Go.Proofs.YtanbddaecojijaaDoor.PB Go.Proofs.YtanbddaecojijaaDoor.Err Go.Proofs.YtanbddaecojijaaDoor.STell Go.Proofs.YtanbddaecojijaaDoor.STB Go.Proofs.YtanbddaecojijaaDoor.Tk Go.Proofs.YtanbddaecojijaaDoor.L7 Go.Proofs.YtanbddaecojijaaDoor.Blk

set_option maxHeartbeats 8000000 in
set_option maxRecDepth 100000 in
theorem walk_ok (vb : Value) (b : List UInt8) (w : World) (hg : Gl w) (hb : RdB w vb b) (h1 : ¬ (5000 : Int) < (b.length : Int)) : Calls Tryd.prog 4 #[vb] w fun e w' => e = .returned (.bool true) ∧ Fr No w w' := by
  obtain ⟨A, c, rfl, _⟩ := id hb
  have hdr := fun W h => dread_calls (.slice A b.length c) b W h (by omega)
  have hrr := fun W => rdread_calls b W (by omega)
  obtain ⟨RR, hRR⟩ : ∃ RR, readD b = RR := ⟨_, rfl⟩
  have hinv : ∀ L, RR = .ok L → encL L = b ∧ L.length ≤ 8192 ∧ (∀ t ∈ L, okB t = true) ∧ ∀ t ∈ L, t.2.2.length ≤ b.length := fun L h => readD_inv (hRR.trans h)
  have hpos : ∀ q, RR = .error q → 0 < q.2 := fun q h => readD_pos (hRR.trans h)
  simp only [hRR] at hdr hrr
  have HB := Aside0.mk hb; have HG := Aside0.mk hg; have HDR := Aside0.mk hdr; have HRR := Aside0.mk hrr
  clear hb hg hdr hrr hRR
  go_enter Tryd.func4, Tryd.ntmps4
  go_wp2_with fail
  refine (tells_calls w).mono ?_
  rintro e w1 ⟨rfl, hf⟩
  have F1 : Aside0 (Fr No w w1) := ⟨hf⟩
  clear hf
  go_wp2_with fail
  refine (HDR.out w1 (HB.out.no F1.out)).mono ?_
  rintro e w2 ⟨vo, ev, rfl, hE, hT, hf⟩
  obtain ⟨Ao, co, rfl⟩ := hT.form
  obtain ⟨fs, hT, hfs⟩ := hT
  have F2 : Aside0 (Fr No w w2) := ⟨F1.out.none hf⟩
  have HE := Aside0.mk hE
  have HV : Aside0 (Rd fT w2 (.slice Ao (tokD RR).length co) fs) := ⟨hT.row.rd⟩
  have HES : Aside0 (∀ e ∈ fs, RdB w2 e.dv e.xs) := ⟨fun e he => (hT.own e he).1.rd⟩
  have q1 := str_of_rd (HB.out.no F2.out)
  clear hE hT hf
  go_wp2_with fail
  refine (HRR.out w2).mono ?_
  rintro e w3 ⟨vd, rfl, hO, hf⟩
  obtain ⟨Ad, cd, rfl⟩ := hO.form
  have F3 : Aside0 (Fr No w w3) := ⟨F2.out.none hf⟩
  have HO := Aside0.mk hO
  have HE3 := Aside0.mk (HE.out.no hf)
  have HV3 := Aside0.mk (HV.out.no hf)
  have HES3 : Aside0 (∀ e ∈ fs, RdB w3 e.dv e.xs) := ⟨fun e he => (HES.out e he).no hf⟩
  clear hO hf HE HV HES q1 HDR HRR
  cases RR with
  | error q =>
    obtain rfl : fs = [] := by simpa [tokD] using hfs
    obtain ⟨qa, qc⟩ := q
    have hp := hpos _ rfl
    dsimp only at hp
    clear hinv hpos hfs
    rw [show errD (Except.error (qa, qc) : Except (Nat × Nat) (List Tok)) = some (qa, qc) from rfl] at HE3 ⊢
    rw [show cdD (some (qa, qc)) = qc from rfl, show atD (some (qa, qc)) = qa from rfl]
    rw [show (tokD (Except.error (qa, qc))).length = 0 from rfl] at HV3 ⊢
    rw [show tokD (Except.error (qa, qc)) = [] from rfl] at HO
    go_wp2_with fail
    refine (number_calls (HG.out.no F3.out) HE3.out).mono ?_
    rw [show noE (some (qa, qc)) = qc from rfl]
    rintro e w4 ⟨rfl, hf⟩
    have F4 : Aside0 (Fr No w w4) := ⟨F3.out.none hf⟩
    have HE4 := Aside0.mk (HE3.out.no hf); have HO4 := Aside0.mk (HO.out.no hf); have HV4 := Aside0.mk (HV3.out.no hf)
    clear hf HE3 HO HV3
    go_wp2_with fail
    refine (plain7_calls _ [] w4 HV4.out (fun e he => by cases he) (by simp)).mono ?_
    rintro e w5 ⟨vp, rfl, hP, hf⟩
    obtain ⟨Ap, cp, rfl⟩ := hP.form
    have F5 : Aside0 (Fr No w w5) := ⟨F4.out.none hf⟩
    have HE5 := Aside0.mk (HE4.out.no hf); have HO5 := Aside0.mk (HO4.out.no hf); have HP := Aside0.mk hP
    clear hf hP HE4 HO4 HV4
    go_wp2_with fail
    refine (same7_calls _ _ [] w5 HP.out.rd HO5.out.rd).mono ?_
    rintro e w6 ⟨rfl, hf⟩
    have F6 : Aside0 (Fr No w w6) := ⟨F5.out.none hf⟩
    have HE6 := Aside0.mk (HE5.out.no hf)
    have hne : ((qc : Int) != 0) = true := by rw [bne_iff_ne]; omega
    clear hf HE5 HO5 HP
    go_wp2_with fail
    refine (place_calls (HG.out.no F6.out) HE6.out).mono ?_
    rw [show plE (some (qa, qc)) = (qa : Int) from rfl]
    rintro e w7 ⟨rfl, hf⟩
    have F7 : Aside0 (Fr No w w7) := ⟨F6.out.none hf⟩
    clear hf
    go_wp2
    go_ret
    exact ⟨rfl, F7.out⟩
  | ok L =>
    obtain ⟨i1, i2, i3, i4⟩ := hinv L rfl
    have hfs' : fs.map TV.tok = L := hfs
    have hfl : fs.length = L.length := by rw [← hfs', List.length_map]
    have hby := fun W h1 h2 => bytes_calls (.slice Ao L.length co) fs W h1 h2 (fun e he => by
      have := i4 e.tok (by rw [← hfs']; exact List.mem_map_of_mem he)
      have e9 : e.tok.2.2 = e.xs := rfl
      rw [e9] at this; omega) (by omega)
    have hgb := bytes_good (L := L) (by omega) i3
    rw [hfs', hgb.1, hgb.2, i1] at hby
    have HBY := Aside0.mk hby; have HFS := Aside0.mk hfs'
    have hpl := fun W h1 h2 => plain7_calls (.slice Ao L.length co) fs W h1 h2 (by omega)
    rw [hfs'] at hpl
    have HPL := Aside0.mk hpl
    clear hinv hpos hfs hfs' hby hgb i1 i3 i4 hfl hpl
    rw [show errD (Except.ok L : Except (Nat × Nat) (List Tok)) = none from rfl] at HE3 ⊢
    rw [show cdD none = 0 from rfl, show atD none = 0 from rfl]
    rw [show tokD (Except.ok L) = L from rfl] at HV3 HO ⊢
    obtain rfl : ev = .nilIface := HE3.out
    go_wp2_with fail
    refine (number_calls (HG.out.no F3.out) HE3.out).mono ?_
    rw [show noE (none : Option (Nat × Nat)) = 0 from rfl]
    rintro e w4 ⟨rfl, hf⟩
    have F4 : Aside0 (Fr No w w4) := ⟨F3.out.none hf⟩
    have HO4 := Aside0.mk (HO.out.no hf); have HV4 := Aside0.mk (HV3.out.no hf)
    have HES4 : Aside0 (∀ e ∈ fs, RdB w4 e.dv e.xs) := ⟨fun e he => (HES3.out e he).no hf⟩
    clear hf HE3 HO HV3 HES3
    go_wp2_with fail
    refine (HPL.out w4 HV4.out HES4.out).mono ?_
    rintro e w5 ⟨vp, rfl, hP, hf⟩
    obtain ⟨Ap, cp, rfl⟩ := hP.form
    have F5 : Aside0 (Fr No w w5) := ⟨F4.out.none hf⟩
    have HO5 := Aside0.mk (HO4.out.no hf); have HP := Aside0.mk hP; have HV5 := Aside0.mk (HV4.out.no hf)
    have HES5 : Aside0 (∀ e ∈ fs, RdB w5 e.dv e.xs) := ⟨fun e he => (HES4.out e he).no hf⟩
    clear hf hP HO4 HV4 HES4
    go_wp2_with fail
    refine (same7_calls _ _ L w5 HP.out.rd HO5.out.rd).mono ?_
    rintro e w6 ⟨rfl, hf⟩
    have F6 : Aside0 (Fr No w w6) := ⟨F5.out.none hf⟩
    have HV6 := Aside0.mk (HV5.out.no hf)
    have HES6 : Aside0 (∀ e ∈ fs, RdB w6 e.dv e.xs) := ⟨fun e he => (HES5.out e he).no hf⟩
    clear hf HO5 HP HV5 HES5
    go_wp2_with fail
    refine (HBY.out w6 HV6.out HES6.out).mono ?_
    rintro e w7 ⟨vy, rfl, hN⟩
    obtain ⟨Ay, cy, rfl⟩ := hN.own.form
    have F7 : Aside0 (Fr No w w7) := ⟨F6.out.none hN.fr⟩
    have q1 : (convert 22 9 (.slice Ay b.length cy)).run Tryd.prog w7 = .ok (.string (bstr b)) w7 := str_of_rd hN.own.rd
    have q2 := str_of_rd (HB.out.no F7.out)
    clear hN
    go_wp2
    go_ret
    exact ⟨rfl, F7.out⟩

set_option maxHeartbeats 8000000 in
set_option maxRecDepth 100000 in
theorem walk (vb : Value) (b : List UInt8) (w : World) (hg : Gl w) (hb : RdB w vb b ∧ b.length ≤ reach) : Calls Tryd.prog 4 #[vb] w fun e w' => e = .returned (.bool true) ∧ Fr No w w' := by
  by_cases h1 : (5000 : Int) < (b.length : Int)
  · obtain ⟨A, c, rfl, _⟩ := id hb.1
    clear hb hg
    go_enter Tryd.func4, Tryd.ntmps4
    go_wp2_with fail
    refine (tells_calls w).mono ?_
    rintro e w1 ⟨rfl, hf⟩
    have F1 : Aside0 (Fr No w w1) := ⟨hf⟩
    clear hf
    go_wp2
    go_ret
    exact ⟨rfl, F1.out⟩
  · exact walk_ok vb b w hg hb.1 h1
end Go.Proofs.YtanbddaecojijaaDoor.LDeltaReads
