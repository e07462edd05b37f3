/- The walk of the law SumOf. -/
import Derived.Test.YtdicjcpcohclaaaSumL
import Derived.Test.YtdicjcpcohclaaaShaH
import Derived.OpenShut
set_option linter.unusedVariables false
set_option linter.unusedSimpArgs false
namespace Go.Proofs.Ytdicjcpcohclaaa.LSumOf
open Go.ChangeShapes Go.RowKit Go.Proofs.YtdicjcpcohclaaaW.PrintWords Go.Proofs.Ytdicjcpcohclaaa.B Go.Proofs.Ytdicjcpcohclaaa.PB Go.Proofs.Ytdicjcpcohclaaa.Sha
attribute [local go_sem] B.max2_int B.min2_int B.max_two B.min_two

set_option maxHeartbeats 4000000 in
set_option maxRecDepth 100000 in
theorem walk (vp : Value) (ps : List (List UInt8)) (w : World) (hp : RdV w vp ps) : Calls Try.prog 5 #[vp] w fun e w' => e = .returned (.bool true) ∧ Fr No w w' := by
  obtain ⟨Ap, cp, rfl, hpc⟩ := hp.form
  have HP := Aside0.mk hp
  clear hp
  go_enter Try.func5, Try.ntmps5
  go_wp2_with fail
  refine (known_calls w).mono ?_
  rintro e w1 ⟨rfl, hf⟩
  have F1 := Aside0.mk hf; clear hf
  go_wp2_with fail
  refine (join_calls (.slice Ap ps.length cp) ps _ (HP.out.no F1.out)).mono ?_
  rintro e w2 ⟨v2, rfl, hr2, hf2⟩
  obtain ⟨A2, c2, rfl, _⟩ := hr2.form
  obtain ⟨M, hM⟩ : ∃ M, (js ps).flatten = M := ⟨_, rfl⟩
  have hml2 : M.length ≤ 1600 := by rw [← hM]; exact js_flat ps
  have HR2 := Aside0.mk hr2; have HM := Aside0.mk hM
  rw [hM]
  have F2 : Aside0 (Fr No w w2) := ⟨F1.out.none hf2⟩
  clear hf2 hr2 hM
  go_wp2_with fail
  refine (of_calls _ (js ps) _ HR2.out (Nat.le_trans (js_flat ps) (by decide))).mono ?_
  rintro e w3 ⟨rfl, hf3⟩
  rw [HM.out]
  have F3 : Aside0 (Fr No w w3) := ⟨F2.out.none hf3⟩
  clear hf3
  go_wp2_with fail
  refine (ref_of_calls (bstr M) _ (by rw [size_bstr]; omega)).mono ?_
  rintro e w4 ⟨rfl, hf4⟩
  rw [data_bstr]
  have F4 : Aside0 (Fr No w w4) := ⟨F3.out.none hf4⟩
  clear hf4
  have qe := fun W => Arr.run_eql Try.underlying34 W (sha M) (sha M) (sha_length _) (sha_length _)
  unfold Arr.av at qe ⊢
  have qg := fun x y W => run_eqGuard_agg (P := Try.prog) W .eql 34 x y ((sha M).map vu8).toArray ((sha M).map vu8).toArray (by kernel_rfl)
  go_wp2
  go_ret
  exact ⟨rfl, F4.out⟩
end Go.Proofs.Ytdicjcpcohclaaa.LSumOf
