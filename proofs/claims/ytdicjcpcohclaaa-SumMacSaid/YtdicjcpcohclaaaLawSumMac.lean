/- The walk of the law SumMac. -/
import Derived.Test.YtdicjcpcohclaaaSumL
import Derived.Test.YtdicjcpcohclaaaShaH
import Derived.OpenShut
set_option linter.unusedVariables false
set_option linter.unusedSimpArgs false
namespace Go.Proofs.Ytdicjcpcohclaaa.LSumMac
open Go.ChangeShapes Go.RowKit Go.Proofs.YtdicjcpcohclaaaW.PrintWords Go.Proofs.Ytdicjcpcohclaaa.B Go.Proofs.Ytdicjcpcohclaaa.PB Go.Proofs.Ytdicjcpcohclaaa.Sha
attribute [local go_sem] B.max2_int B.min2_int B.max_two B.min_two

set_option maxHeartbeats 4000000 in
set_option maxRecDepth 100000 in
theorem walk (vk : Value) (b : List UInt8) (vp : Value) (ps : List (List UInt8)) (w : World) (hb : RdB w vk b ∧ b.length ≤ reach) (hp : RdV w vp ps) : Calls Try.prog 13 #[vk, vp] w fun e w' => e = .returned (.bool true) ∧ Fr No w w' := by
  obtain ⟨hb, _⟩ := hb
  obtain ⟨A, c, rfl, hbc, _⟩ := id hb
  obtain ⟨Ap, cp, rfl, hpc⟩ := hp.form
  have HP := Aside0.mk hp
  clear hp
  obtain ⟨b1, hb1⟩ : ∃ b1, b.take 200 = b1 := ⟨_, rfl⟩
  obtain ⟨m, hm⟩ : ∃ m, min b.length 200 = m := ⟨_, rfl⟩
  have hmI : (if (200 : Int) < (b.length : Int) then (200 : Int) else (b.length : Int)) = (m : Int) := by
    split <;> omega
  have hbm : b.take m = b1 := by
    rw [← hb1, ← hm]
    rcases Nat.le_total b.length 200 with h | h
    · rw [Nat.min_eq_left h, List.take_of_length_le (Nat.le_refl _), List.take_of_length_le h]
    · rw [Nat.min_eq_right h]
  have hb2 : RdB w (.slice A m c) b1 := by
    have h := Rd.take hb m (by omega)
    rw [hbm] at h
    exact h
  have hl1 : b1.length ≤ 200 := by rw [← hb1, List.length_take]; omega
  have hm0 : (0 : Int) ≤ (m : Int) := by omega
  have hmc : (m : Int) ≤ (c : Int) := by omega
  have hml : (m : Int) ≤ (b.length : Int) := by omega
  have HB := Aside0.mk hb2
  clear hb hb1 hm hbm hb2
  go_enter Try.func13, Try.ntmps13
  go_wp2_with fail
  refine (known_calls w).mono ?_
  rintro e w1 ⟨rfl, hf⟩
  have F1 := Aside0.mk hf; clear hf
  go_wp2_with fail
  refine (join_calls (.slice Ap ps.length cp) ps _ (HP.out.no F1.out)).mono ?_
  rintro e w2 ⟨v2, rfl, hr2, hf2⟩
  obtain ⟨A2, c2, rfl, _⟩ := hr2.form
  obtain ⟨M, hM⟩ : ∃ M, (js ps).flatten = M := ⟨_, rfl⟩
  have hml2 : M.length ≤ 1600 := by rw [← hM]; exact js_flat ps
  have HR2 := Aside0.mk hr2; have HM := Aside0.mk hM
  rw [hM]
  have F2 : Aside0 (Fr No w w2) := ⟨F1.out.none hf2⟩
  clear hf2 hr2 hM
  go_wp2_with fail
  have q1 : ∀ x, Fr No w2 x → (convert 23 9 (.slice A m c)).run Try.prog x = .ok (.string (bstr b1)) x := fun x hx => str_of_rd ((HB.out.no F2.out).no hx)
  refine Rg.start (fun k x => k ≤ 1 → (convert 23 9 (.slice A m c)).run Try.prog x = .ok (.string (bstr b1)) x) (by kernel_rfl) (by kernel_rfl) [2, 6] [[1, 0, 2], [1, 0, 2, 5, 3, 4, 6]] (by kernel_rfl) (.q 0 0 (.q 1 0 (.q 3 1 (.q 4 1 (.q 5 1 (.e 2 1 (.e 6 2 (.q 7 2 (.q 8 2 (.done)))))))))) (by kernel_rfl) ?_ ?_
  · exact fun _ _ => q1 _ ((Fr.refl _ _).drew)
  repeat (first
    | (refine Rg.q (o := ?_) (v := ?_) ?_ ?_ ?_ ?_ ?_
       rotate_left 2
       · (simp only [List.getElem?_toArray, List.getElem?_cons_succ, List.getElem?_cons_zero]; rfl)
       · exact fun _ _ _ h => h
       · first | rfl | (go_simp; done)
       · (intro x_ hx; (try dsimp only at hx); (try have q0 := hx (by decide); clear hx); go_simp; (try rw [if_neg (by omega)]); (try rw [if_pos (by omega)]); (try go_simp); try with_reducible rfl)
       try simp only [Act.put, List.setIfInBounds_toArray, List.set_cons_zero, List.set_cons_succ])
    | (refine Rg.skip (o := ?_) ?_ ?_ ?_ ?_
       rotate_left 1
       · (simp only [List.getElem?_toArray, List.getElem?_cons_succ, List.getElem?_cons_zero]; rfl)
       · exact fun _ _ _ h => h
       · first | rfl | (go_simp; done)
       try simp only [Act.put, List.setIfInBounds_toArray, List.set_cons_zero, List.set_cons_succ]))
  refine Rg.e (o := ?_) ?_ ?_
  rotate_left 1
  · (simp only [List.getElem?_toArray, List.getElem?_cons_succ, List.getElem?_cons_zero]; rfl)
  intro K hK
  go_simp
  refine (mac_calls (.slice A m c) (.slice A2 (js ps).length c2) b1 (js ps) _ ((HB.out.no F2.out).no ((Fr.refl _ _).drew)) (HR2.out.no ((Fr.refl _ _).drew)) (by omega) (Nat.le_trans (js_flat ps) (by decide)) (Nat.le_trans (js_length ps) (by decide))).mono ?_
  rintro e w3 ⟨rfl, hf3⟩
  have F3 : Aside0 (Fr No w2 w3) := ⟨((Fr.refl _ _).drew).none hf3⟩
  rw [HM.out]
  clear hf3
  go_simp
  refine hK.out _ _ (fun k x => k ≤ 1 → (convert 23 9 (.slice A m c)).run Try.prog x = .ok (.string (bstr b1)) x) (fun k x hk h => h) ?_ ?_
  · exact fun _ _ _ => q1 _ F3.out
  try simp only [Act.put, List.setIfInBounds_toArray, List.set_cons_zero, List.set_cons_succ]
  repeat (first
    | (refine Rg.q (o := ?_) (v := ?_) ?_ ?_ ?_ ?_ ?_
       rotate_left 2
       · (simp only [List.getElem?_toArray, List.getElem?_cons_succ, List.getElem?_cons_zero]; rfl)
       · exact fun _ _ _ h => h
       · first | rfl | (go_simp; done)
       · (intro x_ hx; (try dsimp only at hx); (try have q0 := hx (by decide); clear hx); go_simp; (try rw [if_neg (by omega)]); (try rw [if_pos (by omega)]); (try go_simp); try with_reducible rfl)
       try simp only [Act.put, List.setIfInBounds_toArray, List.set_cons_zero, List.set_cons_succ])
    | (refine Rg.skip (o := ?_) ?_ ?_ ?_ ?_
       rotate_left 1
       · (simp only [List.getElem?_toArray, List.getElem?_cons_succ, List.getElem?_cons_zero]; rfl)
       · exact fun _ _ _ h => h
       · first | rfl | (go_simp; done)
       try simp only [Act.put, List.setIfInBounds_toArray, List.set_cons_zero, List.set_cons_succ]))
  refine Rg.e (o := ?_) ?_ ?_
  rotate_left 1
  · (simp only [List.getElem?_toArray, List.getElem?_cons_succ, List.getElem?_cons_zero]; rfl)
  intro K hK
  go_simp
  refine (ref_mac_calls b1 M _ (by omega) (by omega)).mono ?_
  rintro e w4 ⟨rfl, hf4⟩
  have F4 : Aside0 (Fr No w2 w4) := ⟨F3.out.none hf4⟩
  clear hf4
  go_simp
  have qe := fun W => Arr.run_eql Try.underlying34 W (mac b1 M) (mac b1 M) (sha_length _) (sha_length _)
  unfold Arr.av at qe ⊢
  have qg := fun x y W => run_eqGuard_agg (P := Try.prog) W .eql 34 x y ((mac b1 M).map vu8).toArray ((mac b1 M).map vu8).toArray (by kernel_rfl)
  refine hK.out _ _ (fun _ _ => True) (fun k x hk h h2 => absurd (Nat.le_trans hk h2) (by decide)) ?_ ?_
  · exact fun _ _ => trivial
  try simp only [Act.put, List.setIfInBounds_toArray, List.set_cons_zero, List.set_cons_succ]
  repeat (first
    | (refine Rg.q (o := ?_) (v := ?_) ?_ ?_ ?_ ?_ ?_
       rotate_left 2
       · (simp only [List.getElem?_toArray, List.getElem?_cons_succ, List.getElem?_cons_zero]; rfl)
       · exact fun _ _ _ h => h
       · first | rfl | (go_simp; done)
       · (intro x_ hx; (try dsimp only at hx); (clear hx); go_simp; (try rw [if_neg (by omega)]); (try rw [if_pos (by omega)]); (try go_simp); try with_reducible rfl)
       try simp only [Act.put, List.setIfInBounds_toArray, List.set_cons_zero, List.set_cons_succ])
    | (refine Rg.skip (o := ?_) ?_ ?_ ?_ ?_
       rotate_left 1
       · (simp only [List.getElem?_toArray, List.getElem?_cons_succ, List.getElem?_cons_zero]; rfl)
       · exact fun _ _ _ h => h
       · first | rfl | (go_simp; done)
       try simp only [Act.put, List.setIfInBounds_toArray, List.set_cons_zero, List.set_cons_succ]))
  refine Rg.done ?_
  go_simp
  go_wp2
  go_ret
  exact ⟨rfl, F2.out.none F4.out⟩
end Go.Proofs.Ytdicjcpcohclaaa.LSumMac
