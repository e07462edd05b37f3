/- The walk of the law CodeErrors. -/
import Derived.Test.YtdicjcpcohclaaaDoorErrW
import Derived.Test.YtdicjcpcohclaaaDoorErrI
import Derived.Test.YtdicjcpcohclaaaDoorCodeP
import Derived.OpenShut
set_option linter.unusedVariables false
set_option linter.unusedSimpArgs false
namespace Go.Proofs.YtdicjcpcohclaaaDoor.LCodeErrors
open Go.ChangeShapes Go.RowKit Go.Proofs.YtdicjcpcohclaaaDoorW.PrintWords Go.Proofs.YtdicjcpcohclaaaDoor.B Go.Proofs.YtdicjcpcohclaaaDoor.PB Go.Proofs.YtdicjcpcohclaaaDoor.Err

set_option maxHeartbeats 8000000 in
set_option maxRecDepth 100000 in
theorem walk (a c : Int) (w : World) (hg : Gl w) (h1 : (Lit.int .i64 a).wf = true) (h2 : (Lit.int .i64 c).wf = true) : Calls Tryd.prog 7 #[.int .i64 a, .int .i64 c] w fun e w' => e = .returned (.bool true) ∧ Fr No w w' := by
  go_enter Tryd.func7, Tryd.ntmps7
  go_wp2_with fail
  refine (CodeR.reads_calls w).mono ?_
  rintro e w1 ⟨rfl, hf⟩
  have F1 := Aside0.mk hf
  have fa : Fr No w1 (w1.alloc (.cells #[.int .i64 a, .int .i64 c] 55)) := (Fr.refl _ _).alloc _
  have hb : (w1.alloc (.cells #[.int .i64 a, .int .i64 c] 55)).heap[w1.heap.size]? = some (.cells #[.int .i64 a, .int .i64 c] 55 (0, 0)) := heap_alloc_new w1 _
  have HB : ∀ x, Fr No w1 x → Gl x := fun x hx => hg.no (F1.out.none hx)
  have HG := Aside0.mk HB; have HBB := Aside0.mk hb; have FA := Aside0.mk fa
  clear hf fa hb HB
  go_wp2_with fail
  refine (number_fault w1.heap.size c _ (HG.out _ FA.out) (by rw [blk_cell HBB.out]; rfl)).mono ?_
  rintro e w2 ⟨rfl, hf⟩
  have F2 := Aside0.mk hf; clear hf
  go_wp2_with fail
  refine (place_fault w1.heap.size a _ (HG.out _ (FA.out.none F2.out)) (by rw [blk_cell (F2.out.heap HBB.out id)]; rfl)).mono ?_
  rintro e w3 ⟨rfl, hf⟩
  have F3 : Aside0 (Fr No _ w3) := ⟨F2.out.none hf⟩; clear hf
  go_wp2_with fail
  refine (is_fault w1.heap.size c c _ (by rw [blk_cell (F3.out.heap HBB.out id)]; rfl)).mono ?_
  rintro e w4 ⟨rfl, rfl⟩
  rw [show (c == c) = true by simp]
  go_wp2_with fail
  refine (number_errno c _ (HG.out _ (FA.out.none F3.out))).mono ?_
  rintro e w5 ⟨rfl, hf⟩
  have F5 : Aside0 (Fr No _ w5) := ⟨F3.out.none hf⟩; clear hf
  go_wp2_with fail
  refine (place_errno c _ (HG.out _ (FA.out.none F5.out))).mono ?_
  rintro e w6 ⟨rfl, hf⟩
  have F6 : Aside0 (Fr No _ w6) := ⟨F5.out.none hf⟩; clear hf
  go_wp2_with fail
  refine (number_nil _ (HG.out _ (FA.out.none F6.out))).mono ?_
  rintro e w7 ⟨rfl, hf⟩
  have F7 : Aside0 (Fr No _ w7) := ⟨F6.out.none hf⟩; clear hf
  go_wp2_with fail
  refine (place_nil _ (HG.out _ (FA.out.none F7.out))).mono ?_
  rintro e w8 ⟨rfl, hf⟩
  have F8 : Aside0 (Fr No _ w8) := ⟨F7.out.none hf⟩; clear hf
  go_wp2
  go_ret
  exact ⟨rfl, F1.out.none (FA.out.none F8.out)⟩
end Go.Proofs.YtdicjcpcohclaaaDoor.LCodeErrors
