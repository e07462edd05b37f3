/- delta.Whole: walked. -/
import Derived.Test.YtnfneokmiopieaaDoorDelU
set_option linter.unusedVariables false
set_option linter.unusedSimpArgs false
namespace Go.Proofs.YtnfneokmiopieaaDoor.Tk
open Go.RowKit Go.IntWalk Go.Proofs.YtnfneokmiopieaaDoorW.PrintWords Go.Proofs.YtnfneokmiopieaaDoor.B Go.Proofs.YtnfneokmiopieaaDoor.PB Go.Proofs.YtnfneokmiopieaaDoor.STell

def wholeL (xs : List UInt8) : List Tok := if xs.length = 0 then [] else [(0, 0, xs)]
set_option maxHeartbeats 4000000 in
set_option maxRecDepth 100000 in
theorem whole_calls (v : Value) (xs : List UInt8) (w : World) (hv : RdB w v xs) (hl : xs.length ≤ 50000000) : Calls Tryd.prog 19 #[v] w fun e w' => ∃ vo, e = .returned vo ∧ Tl w' w.heap.size vo (wholeL xs) ∧ Fr No w w' := by
  obtain ⟨A, c, rfl, _⟩ := id hv
  have HV := Aside0.mk hv
  clear hv
  unfold wholeL
  by_cases hx : xs.length = 0
  · have hxI : ((xs.length : Int) == 0) = true := by rw [hx]; rfl
    rw [if_pos hx]
    clear hx
    go_enter Tryd.func19, Tryd.ntmps19
    go_wp2
    go_ret
    exact ⟨_, rfl, Tl.nil _ _, Fr.refl _ _⟩
  · have hxI : ((xs.length : Int) == 0) = false := by rw [beq_eq_false_iff_ne]; omega
    rw [if_neg hx]
    clear hx
    go_enter Tryd.func19, Tryd.ntmps19
    go_wp2_with fail
    refine (add_calls w.heap.size (.slice none 0 0) [] 0 0 (.slice A xs.length c) xs w (Tl.nil _ _) (Nat.le_refl _) (by simp) HV.out (fun t ht => by cases ht) ⟨by simp, by simp, by simp, by simp, by simp only; omega⟩ (fun t ht => by cases ht)).mono ?_
    rintro e w1 ⟨vo, rfl, hT, hf⟩
    have HT := Aside0.mk hT; have HF : Aside0 (Fr No w w1) := ⟨up_no (Fr.refl _ _) hf (Nat.le_refl _)⟩
    clear hT hf
    go_wp2
    go_ret
    exact ⟨_, rfl, HT.out, HF.out⟩
end Go.Proofs.YtnfneokmiopieaaDoor.Tk
