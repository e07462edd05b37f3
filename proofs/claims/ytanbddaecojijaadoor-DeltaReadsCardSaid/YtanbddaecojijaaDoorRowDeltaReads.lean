/- The law DeltaReads: for every input the call returns true, and each argument reads afterwards as it read before. No condition. -/
import Derived.Test.YtanbddaecojijaaDoorCards
import Derived.Test.YtanbddaecojijaaDoorTie
import Derived.Test.YtanbddaecojijaaDoorGate
import Derived.SevenTiedAt
import Derived.Test.YtanbddaecojijaaDoorLawDeltaReads
import Derived.Test.YtanbddaecojijaaDoorLift
set_option linter.unusedVariables false
namespace Go.Proofs.YtanbddaecojijaaDoor.deltaReads
open Go.ChangeShapes Go.WideShapes Go.ChangeAt Go.RowKit Go.Proofs.YtanbddaecojijaaDoor.B Go.Proofs.YtanbddaecojijaaDoor.PB Go.Proofs.YtanbddaecojijaaDoor.Lift
open Go.ChangeMaps (open_string shut_string)
set_option maxRecDepth 100000 in
theorem lifted (os : Os) (started : os.Started) (H : Type) (enc : TypeId × Value → H) :
    ReturnsInHanded {} Tryd.checked os 4 .any (fun w args => (Rows.deltaReadsSpec.pre enc Tryd.prog Tryd.f4 [] false w args ∧ laidMetH Tryd.prog Gate.listed w) ∧ sizedMet enc Tryd.prog Tryd.f4 (OpenSpec.ofChange Rows.deltaReadsSpec) false w args) (Rows.deltaReadsSpec.post enc Tryd.prog Tryd.f4 false true false false) := by
  refine returnsInHanded_of_change_and (C := Tryd.checked) (X := fun w _ => laidMetH Tryd.prog Gate.listed w) (fun _ _ _ hh h => h.of_heap hh) Lift.own started (by kernel_rfl) Tryd.func4
    (ChangeSpec.witness_at (enc := enc) (C := Tryd.checked) (os := os) (X := fun w _ => laidMetH Tryd.prog Gate.listed w) false (Gate.laidWorld os) #[.slice none 0 0] 8 rfl (by kernel_rfl) (by kernel_rfl) (by kernel_rfl) (by kernel_rfl) (by kernel_rfl) (Gate.laidWorld_met os _)) ?_
  intro W base args ds gs before hval0 hW hcnd hsz0 hL _
  have hg := Gate.handle hL
  have hsz : (DataW.weightsEach Tryd.prog (Tryd.f4.params.toList ++ Rows.deltaReadsSpec.plain.varTypes Tryd.prog) (ds ++ gs)).all (· ≤ reachBytes) = true := hsz0
  have hval : ∀ (j : Nat) t v, Tryd.f4.params[j]? = some t → args[j]? = some v → Value.okWide Tryd.prog W .any base t v := hval0
  have hW' := hW
  obtain ⟨p, q, hA0, hV, rfl, hfz, hnd⟩ := hW
  have hA : DataW.TrodAll enc Tryd.prog W 0 (fun _ => true) true Tryd.f4.params.toList args.toList ds p := hA0
  rw [Tryd.params4] at hA hval hsz
  obtain ⟨v0, vs0, d0, ds0, p0, q0, hargs, rfl, rfl, h0, r0⟩ := trodAll_cons hA
  obtain ⟨rfl, rfl, rfl⟩ := trodAll_nil r0
  obtain rfl : args = #[v0] := by cases args; simp_all
  obtain ⟨rfl, rfl⟩ := trodVars_none hV
  have k0 := h0
  have lt0 : ∀ x ∈ p0, x.block < W.heap.size := by obtain ⟨m, hm⟩ := k0; exact DataW.trod_lt m _ _ _ hm
  obtain ⟨a0, w0⟩ := Lift.open_bytes (hval 0 22 v0 rfl rfl) h0 (Lift.wtOf hsz (j := 0) (t := 22) rfl rfl)
  refine (LDeltaReads.walk v0 a0 W hg w0).mono fun e W' ⟨he, bel0⟩ => ?_
  have bel := bel0.below
  subst he
  exact ⟨_, rfl, _, _, _, [], _, [], hW', trodAll_mk1 (shut_bool Tryd.underlying4 _), (trodAll_cons_mk (Below.trod Lift.laidOut (by kernel_rfl) (of_decide_eq_true (by kernel_rfl)) k0 bel lt0) trodAll_mk0), rfl, bel.frame _, fun h => by cases h⟩
theorem over : Rows.deltaReadsRow.holds Tryd.pinned (OpenSpec.ofChange Rows.deltaReadsSpec) :=
  OpenClaim.holds_of_wide 4 Tryd.f4 rfl rfl rfl rfl rfl rfl rfl ⟨rfl, rfl, rfl, rfl, rfl⟩ rfl rfl rfl rfl rfl (by kernel_rfl) Tryd.func4 (by kernel_rfl)
    (of_decide_eq_true (by kernel_rfl)) (by unfold Func.isWrapper; first | (rw [if_pos (by decide +kernel)]; kernel_rfl) | (rw [if_neg (by decide +kernel)]; exact ⟨rfl, rfl⟩))
    (fun os started H enc _ => lifted os started H enc)
theorem card : Claim7.holds Tryd.pinned (.plain (OpenSpec.ofChange Rows.deltaReadsSpec)) Rows.deltaReadsCard :=
  Claim7.holds_tied_plain_at .later [] [.handle] true Rows.deltaReadsCard.stood.harness true
    over (fun _ h => by cases h) (by kernel_rfl) (fun _ h => by cases h) deltaReads_row_tie rfl ⟨rfl, rfl⟩ (by kernel_rfl) rfl
    (fun f fn hf hfn => by
      obtain rfl : f = 4 := Option.some.inj ((show Tryd.prog.funcNamed Rows.deltaReadsRow.func = some 4 by kernel_rfl).symm.trans hf) |>.symm
      obtain rfl : fn = Tryd.f4 := (Option.some.inj (Tryd.func4.symm.trans hfn)).symm
      exact ⟨by kernel_rfl, fun j t ht => by
        rw [Tryd.params4] at ht
        have hw : ∀ u ∈ [22], Tryd.prog.wantsStandIn u = false := by decide +kernel
        exact hw t (List.mem_of_getElem? (by simpa using ht))⟩)
    (by kernel_rfl)
theorem proved : Rows.DeltaReadsCardSaid := card
end Go.Proofs.YtanbddaecojijaaDoor.deltaReads
namespace Go.Proofs.YtanbddaecojijaaDoor
/-- The statement. -/
theorem deltaReads_holds : Rows.DeltaReadsCardSaid := deltaReads.proved
#print axioms deltaReads_holds
end Go.Proofs.YtanbddaecojijaaDoor
