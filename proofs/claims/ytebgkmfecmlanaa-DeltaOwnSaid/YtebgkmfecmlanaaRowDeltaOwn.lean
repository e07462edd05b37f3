/- The law DeltaOwn: for every input the call returns true, and each argument reads afterwards as it read before. No condition. -/
import Derived.Test.YtebgkmfecmlanaaRows
import Derived.Test.YtebgkmfecmlanaaLawDeltaOwn
import Derived.Test.YtebgkmfecmlanaaLift
set_option linter.unusedVariables false
namespace Go.Proofs.Ytebgkmfecmlanaa.deltaOwn
open Go.ChangeShapes Go.WideShapes Go.ChangeAt Go.RowKit Go.Proofs.Ytebgkmfecmlanaa.B Go.Proofs.Ytebgkmfecmlanaa.PB Go.Proofs.Ytebgkmfecmlanaa.Lift
open Go.ChangeMaps (open_string shut_string)
set_option maxRecDepth 100000 in
theorem lifted (os : Os) (started : os.Started) (H : Type) (enc : TypeId × Value → H) :
    ReturnsInHanded {} Try.checked os 9 .any (Rows.deltaOwnSpec.pre6 enc Try.prog Try.f9 Rows.deltaOwnRow.domain false) (Rows.deltaOwnSpec.post enc Try.prog Try.f9 false true false false) := by
  refine returnsInHanded_of_change_sized (C := Try.checked) Lift.own started (by kernel_rfl) Try.func9
    (ChangeSpec.witness6 (enc := enc) (C := Try.checked) false ⟨#[], #[.slice none 0 0], []⟩ 8 (by kernel_rfl) (by kernel_rfl) (by kernel_rfl) (by kernel_rfl)) ?_
  intro W base args ds gs before hval0 hW hcnd hsz0 _
  have hsz : (DataW.weightsEach Try.prog (Try.f9.params.toList ++ Rows.deltaOwnSpec.plain.varTypes Try.prog) (ds ++ gs)).all (· ≤ reachBytes) = true := hsz0
  have hval : ∀ (j : Nat) t v, Try.f9.params[j]? = some t → args[j]? = some v → Value.okWide Try.prog W .any base t v := hval0
  have hW' := hW
  obtain ⟨p, q, hA0, hV, rfl, hfz, hnd⟩ := hW
  have hA : DataW.TrodAll enc Try.prog W 0 (fun _ => true) true Try.f9.params.toList args.toList ds p := hA0
  rw [Try.params9] at hA hval hsz
  obtain ⟨v0, vs0, d0, ds0, p0, q0, hargs, rfl, rfl, h0, r0⟩ := trodAll_cons hA
  obtain ⟨rfl, rfl, rfl⟩ := trodAll_nil r0
  obtain rfl : args = #[v0] := by cases args; simp_all
  obtain ⟨rfl, rfl⟩ := trodVars_none hV
  have k0 := h0
  have lt0 : ∀ x ∈ p0, x.block < W.heap.size := by obtain ⟨m, hm⟩ := k0; exact DataW.trod_lt m _ _ _ hm
  obtain ⟨a0, w0⟩ := Lift.open_bytes (hval 0 22 v0 rfl rfl) h0 (Lift.wtOf hsz (j := 0) (t := 22) rfl rfl)
  refine (LDeltaOwn.walk v0 a0 W w0).mono fun e W' ⟨he, bel0⟩ => ?_
  have bel := bel0.below
  subst he
  exact ⟨_, rfl, _, _, _, [], _, [], hW', trodAll_mk1 (shut_bool Try.underlying4 _), (trodAll_cons_mk (Below.trod Lift.laidOut (by kernel_rfl) (of_decide_eq_true (by kernel_rfl)) k0 bel lt0) trodAll_mk0), rfl, bel.frame _, fun h => by cases h⟩
theorem over : Rows.deltaOwnRow.holds Try.pinned (OpenSpec.ofChange Rows.deltaOwnSpec) :=
  OpenClaim.holds_of_wide 9 Try.f9 rfl rfl rfl rfl rfl rfl rfl ⟨rfl, rfl, rfl, rfl, rfl⟩ rfl rfl rfl rfl rfl (by kernel_rfl) Try.func9 (by kernel_rfl)
    (of_decide_eq_true (by kernel_rfl)) (by unfold Func.isWrapper; first | (rw [if_pos (by decide +kernel)]; kernel_rfl) | (rw [if_neg (by decide +kernel)]; exact ⟨rfl, rfl⟩))
    (fun os started H enc _ => lifted os started H enc)
theorem proved : Rows.DeltaOwnSaid := over
end Go.Proofs.Ytebgkmfecmlanaa.deltaOwn
namespace Go.Proofs.Ytebgkmfecmlanaa
/-- The statement. -/
theorem deltaOwn_holds : Rows.DeltaOwnSaid := deltaOwn.proved
#print axioms deltaOwn_holds
end Go.Proofs.Ytebgkmfecmlanaa
