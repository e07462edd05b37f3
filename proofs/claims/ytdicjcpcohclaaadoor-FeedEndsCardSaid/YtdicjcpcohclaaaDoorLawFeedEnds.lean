/- The walk of the law FeedEnds. -/
import Derived.Test.YtdicjcpcohclaaaDoorFeedL
import Derived.Test.YtdicjcpcohclaaaDoorRef5
set_option linter.unusedVariables false
set_option linter.unusedSimpArgs false
namespace Go.Proofs.YtdicjcpcohclaaaDoor.LFeedEnds
open Go.RowKit Go.IntWalk Go.Proofs.YtdicjcpcohclaaaDoorW.PrintWords Go.Proofs.YtdicjcpcohclaaaDoor.B Go.Proofs.YtdicjcpcohclaaaDoor.PB Go.Proofs.YtdicjcpcohclaaaDoor.Err Go.Proofs.YtdicjcpcohclaaaDoor.SCode Go.Proofs.YtdicjcpcohclaaaDoor.Frm Go.Proofs.YtdicjcpcohclaaaDoor.Ref4 Go.Proofs.YtdicjcpcohclaaaDoor.Ref5 Go.Proofs.YtdicjcpcohclaaaDoor.Fee

theorem walk_out (vb : Value) (b : List UInt8) (w : World) (hg : Gl w) (hb : RdB w vb b) (h : 40000 < b.length) : Calls Tryd.prog 13 #[vb] w fun e w' => e = .returned (.bool true) ∧ Fr No w w' := by
  obtain ⟨A, c, rfl, _⟩ := id hb
  have hI : (40000 : Int) < (b.length : Int) := by omega
  have HG := Aside0.mk hg
  clear hb hg
  go_enter Tryd.func13, Tryd.ntmps13
  go_wp2_with fail
  refine (feeds_calls _ HG.out).mono ?_
  rintro e w1 ⟨rfl, hf⟩
  have F1 := Aside0.mk hf; clear hf
  go_wp2
  go_ret
  exact ⟨rfl, F1.out⟩

set_option maxHeartbeats 4000000 in
set_option maxRecDepth 100000 in
theorem walk_ok (vb : Value) (b : List UInt8) (w : World) (hg : Gl w) (hb : RdB w vb b) (h : b.length ≤ 40000) : Calls Tryd.prog 13 #[vb] w fun e w' => e = .returned (.bool true) ∧ Fr No w w' := by
  obtain ⟨A, c, rfl, _⟩ := id hb
  have hI : ¬ (40000 : Int) < (b.length : Int) := by omega
  have HG := Aside0.mk hg; have HB := Aside0.mk hb
  have hgl := hg.lt
  clear hb hg
  have hpl := parse_le b
  have hpp := parse_pos b
  have hadd : addS [] 0 none b = (match (parse b).2.2 with
    | some q => ⟨(parse b).1, [], (parse b).2.1, some q⟩
    | none => ⟨(parse b).1, b.drop (parse b).2.1, (parse b).2.1, none⟩) := by
    unfold addS
    simp only [List.nil_append, Nat.zero_add]
    cases (parse b).2.2 <;> rfl
  obtain ⟨⟨L, n, er⟩, hp⟩ : ∃ q, parse b = q := ⟨_, rfl⟩
  rw [hp] at hadd hpl hpp
  dsimp only at hadd hpl hpp
  have HP := Aside0.mk hp; have HA := Aside0.mk hadd; have HPP := Aside0.mk hpp
  clear hp hadd hpp
  go_enter Tryd.func13, Tryd.ntmps13
  go_wp2_with fail
  refine (feeds_calls _ HG.out).mono ?_
  rintro e w1 ⟨rfl, hf⟩
  have F1 := Aside0.mk hf
  have hgl1 : 0 < w1.heap.size := Nat.lt_of_lt_of_le hgl hf.size
  clear hf
  go_wp2_with fail
  have FA : Aside0 (Fr No w1 (w1.alloc (.cells #[.slice none 0 0, .int .i64 0, .nilIface] 75))) := ⟨(Fr.refl _ _).alloc _⟩
  have h9 := add_calls (HG.out.no (F1.out.none FA.out)) (Fd.new w1 hgl1 75 (by decide)) 0 rfl _ b (HB.out.no (F1.out.none FA.out)) (by omega) (by simp; omega)
  rw [HA.out] at h9
  refine h9.mono ?_
  clear h9
  rintro e w2 ⟨vo, v2, rfl, hd, _, hf, _⟩
  have F2 : Aside0 (Fr No w w2) := ⟨F1.out.none (fs_new FA.out hf (Nat.le_refl _) (fun q hq => by cases hq))⟩
  have hgs : Aside0 (w1.heap.size = w1.heap.size) := ⟨rfl⟩
  have D2 := Aside0.mk hd
  have hstr := str_of_rd (HB.out.no F2.out)
  clear hd hf
  go_wp2_with fail
  refine (all_calls b w2 (by omega)).mono ?_
  rw [HP.out]
  rintro e w3 ⟨vq, rfl, _, _, hf⟩
  have F3 : Aside0 (Fr No w2 w3) := ⟨hf⟩
  clear hf hstr
  have G3 : Aside0 (Gl w3) := ⟨(HG.out.no F2.out).no F3.out⟩
  clear hgs
  rcases er with _ | ⟨p, e⟩
  · rw [show oc none = 0 from rfl, show op none = 0 from rfl]
    dsimp only at D2 hpl ⊢
    go_wp2_with fail
    refine (end_calls (D2.out.no F3.out) 0 rfl (by omega) (by simp; omega)).mono ?_
    rintro en w4 ⟨ev, rfl, he, hf⟩
    have F4 : Aside0 (Fr No w w4) := ⟨(F2.out.none F3.out).none hf⟩
    have G4 : Aside0 (Gl w4) := ⟨G3.out.no hf⟩
    clear hf
    by_cases hn : n < b.length
    · have hnI : (n : Int) < (b.length : Int) := by omega
      have e1 : endE (b.drop n) n none = some (b.length, 30) := by
        unfold endE
        simp only [List.length_drop]
        rw [if_pos (by omega), show n + (b.length - n) = b.length by omega]
      rw [e1] at he
      have HE := Aside0.mk he
      clear he e1
      go_wp2_with fail
      refine (number_calls G4.out HE.out).mono ?_
      rw [show noE (some (b.length, 30)) = 30 from rfl]
      rintro en w5 ⟨rfl, hf⟩
      have F5 : Aside0 (Fr No w4 w5) := ⟨hf⟩
      clear hf
      go_wp2_with fail
      refine (place_calls (G4.out.no F5.out) (HE.out.no F5.out)).mono ?_
      rw [show plE (some (b.length, 30)) = (b.length : Int) from rfl]
      rintro en w6 ⟨rfl, hf⟩
      have F6 : Aside0 (Fr No w w6) := ⟨(F4.out.none F5.out).none hf⟩
      clear hf
      go_wp2
      go_ret
      exact ⟨rfl, F6.out⟩
    · have hnI : ¬ (n : Int) < (b.length : Int) := by omega
      have e1 : endE (b.drop n) n none = none := by
        unfold endE
        simp only [List.length_drop]
        rw [if_neg (by omega)]
      rw [e1] at he
      obtain rfl : ev = .nilIface := he
      clear e1
      go_wp2
      go_ret
      exact ⟨rfl, F4.out⟩
  · rw [show oc (some (p, e)) = e from rfl, show op (some (p, e)) = p from rfl]
    dsimp only at D2 ⊢
    have he0 : 0 < e := HPP.out _ rfl
    have heB : ((e : Int) != 0) = true := by rw [bne_iff_ne]; omega
    have heA : ((e : Int) == 0) = false := by rw [beq_eq_false_iff_ne]; omega
    clear he0
    go_wp2_with fail
    refine (end_calls (D2.out.no F3.out) 0 rfl (by omega) (by simp)).mono ?_
    rw [show endE [] n (some (p, e)) = some (p, e) from rfl]
    rintro en w4 ⟨ev, rfl, he, hf⟩
    have F4 : Aside0 (Fr No w w4) := ⟨(F2.out.none F3.out).none hf⟩
    have G4 : Aside0 (Gl w4) := ⟨G3.out.no hf⟩
    have HE := Aside0.mk he
    clear hf he
    go_wp2_with fail
    refine (number_calls G4.out HE.out).mono ?_
    rw [show noE (some (p, e)) = e from rfl]
    rintro en w5 ⟨rfl, hf⟩
    have F5 : Aside0 (Fr No w4 w5) := ⟨hf⟩
    clear hf
    go_wp2_with fail
    refine (place_calls (G4.out.no F5.out) (HE.out.no F5.out)).mono ?_
    rw [show plE (some (p, e)) = (p : Int) from rfl]
    rintro en w6 ⟨rfl, hf⟩
    have F6 : Aside0 (Fr No w w6) := ⟨(F4.out.none F5.out).none hf⟩
    clear hf
    go_wp2
    go_ret
    exact ⟨rfl, F6.out⟩
theorem walk (vb : Value) (b : List UInt8) (w : World) (hg : Gl w) (hb : RdB w vb b ∧ b.length ≤ reach) : Calls Tryd.prog 13 #[vb] w fun e w' => e = .returned (.bool true) ∧ Fr No w w' := by
  by_cases h : b.length ≤ 40000
  · exact walk_ok vb b w hg hb.1 h
  · exact walk_out vb b w hg hb.1 (by omega)
end Go.Proofs.YtdicjcpcohclaaaDoor.LFeedEnds
