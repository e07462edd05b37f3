/- The walk of the law DeltaWhole. -/
import Derived.Test.YtebgkmfecmlanaaDelH
import Derived.Test.YtebgkmfecmlanaaDelW
import Derived.OpenShut
set_option linter.unusedVariables false
set_option linter.unusedSimpArgs false
namespace Go.Proofs.Ytebgkmfecmlanaa.LDeltaWhole
open Go.ChangeShapes Go.RowKit Go.IntWalk Go.Proofs.YtebgkmfecmlanaaW.PrintWords Go.Proofs.Ytebgkmfecmlanaa.B Go.Proofs.Ytebgkmfecmlanaa.PB Go.Proofs.Ytebgkmfecmlanaa.STell Go.Proofs.Ytebgkmfecmlanaa.Tk Go.Proofs.Ytebgkmfecmlanaa.L7

set_option maxHeartbeats 8000000 in
set_option maxRecDepth 100000 in
theorem walk (v : Value) (xs : List UInt8) (w : World) (hd0 : RdB w v xs ∧ xs.length ≤ reach) : Calls Try.prog 7 #[v] w fun e w' => e = .returned (.bool true) ∧ Fr No w w' := by
  obtain ⟨hv, _⟩ := hd0
  obtain ⟨A, c, rfl, _⟩ := id hv
  have HV := Aside0.mk hv
  clear hv
  go_enter Try.func7, Try.ntmps7
  go_wp2_with fail
  refine (tells_calls _).mono ?_
  rintro e w1 ⟨rfl, hf⟩
  have F1 : Aside0 (Fr No w w1) := ⟨hf⟩
  clear hf
  by_cases h1 : (5000 : Int) < (xs.length : Int)
  · go_wp2
    go_ret
    exact ⟨rfl, F1.out⟩
  · go_wp2_with fail
    refine (whole_calls _ xs w1 (HV.out.no F1.out) (by omega)).mono ?_
    unfold wholeL
    by_cases hx : xs.length = 0
    · have hxI : ((xs.length : Int) == 0) = true := by rw [hx]; rfl
      rw [if_pos hx]
      clear hx
      rintro e w2 ⟨vo, rfl, hT, hf⟩
      obtain ⟨A2, c2, rfl⟩ := hT.form
      have F2 : Aside0 (Fr No w w2) := ⟨F1.out.none hf⟩
      clear hf hT
      go_wp2
      go_ret
      exact ⟨rfl, F2.out⟩
    · have hxI : ((xs.length : Int) == 0) = false := by rw [beq_eq_false_iff_ne]; omega
      rw [if_neg hx]
      clear hx
      rintro e w2 ⟨vo, rfl, ⟨fs, hT, hfs⟩, hf⟩
      have F2 : Aside0 (Fr No w w2) := ⟨F1.out.none hf⟩
      obtain ⟨e0, rfl⟩ : ∃ e0, fs = [e0] := by
        rcases fs with _ | ⟨e0, _ | ⟨e1, fs⟩⟩
        · simp at hfs
        · exact ⟨_, rfl⟩
        · simp at hfs
      obtain ⟨f0, k0, A0, c0, x0⟩ := e0
      simp [TV.tok] at hfs
      obtain ⟨rfl, rfl, rfl⟩ := hfs
      obtain ⟨g, cc, rfl, _⟩ := hT.row.at_ (by simp)
      obtain ⟨A', c', he', _, _, hc⟩ := hT.row.rd
      injection he' with e4 _ e5
      subst e4
      subst e5
      obtain ⟨ad, had, hcell⟩ := hc (by simp)
      injection had with had
      subst had
      have k0 : w2.cell? ⟨g, 0, Option.none⟩ = some (.int .i64 0) := hcell 0 _ rfl
      have k1 : w2.cell? ⟨g, 1, Option.none⟩ = some (.int .i64 0) := hcell 1 _ rfl
      have k2 : w2.cell? ⟨g, 2, Option.none⟩ = some (.slice A0 x0.length c0) := hcell 2 _ rfl
      have RB := Aside0.mk (hT.own (⟨0, 0, A0, c0, x0⟩ : TV) (by simp)).1.rd
      have RV := Aside0.mk (HV.out.no F2.out)
      clear hf hT hc hcell
      go_wp2
      refine Rg.start (fun _ x => Fr No w2 x) (by kernel_rfl) (by kernel_rfl) [] [] (by kernel_rfl) (.q 0 0 (.q 1 0 (.q 2 0 (.q 3 0 (.q 4 0 (.q 5 0 (.q 6 0 (.q 7 0 (.q 8 0 (.q 9 0 (.q 10 0 (.q 11 0 (.q 12 0 (.q 13 0 (.q 14 0 (.q 15 0 (.q 16 0 (.q 17 0 (.q 18 0 (.q 19 0 (.q 20 0 (.q 21 0 (.q 22 0 (.q 23 0 (.q 24 0 (.q 25 0 (.q 26 0 (.q 27 0 (.done))))))))))))))))))))))))))))) (by kernel_rfl) ?_ ?_
      · exact fun _ => (Fr.refl _ _).drew
      repeat (first
        | (refine Rg.q (o := ?_) (v := ?_) ?_ ?_ ?_ ?_ ?_
           rotate_left 2
           · (simp only [List.getElem?_toArray, List.getElem?_cons_succ, List.getElem?_cons_zero]; rfl)
           · exact fun _ _ _ h => h
           · first | rfl | (go_simp; done)
           · (intro x_ hx; (try dsimp only at hx); (have q0 := hx.cell k0 id; have q1 := hx.cell k1 id; have q2 := hx.cell k2 id; have q3 := str_of_rd (RV.out.no hx); have q4 : (convert 22 9 (.slice A0 x0.length c0)).run Try.prog _ = .ok (.string (bstr x0)) _ := str_of_rd (RB.out.no hx)); go_simp; (try rw [if_neg (by omega)]); (try rw [if_pos (by omega)]); (try go_simp); try with_reducible rfl)
           try simp only [Act.put, List.setIfInBounds_toArray, List.set_cons_zero, List.set_cons_succ])
        | (refine Rg.skip (o := ?_) ?_ ?_ ?_ ?_
           rotate_left 1
           · (simp only [List.getElem?_toArray, List.getElem?_cons_succ, List.getElem?_cons_zero]; rfl)
           · exact fun _ _ _ h => h
           · first | rfl | (go_simp; done)
           try simp only [Act.put, List.setIfInBounds_toArray, List.set_cons_zero, List.set_cons_succ]))
      refine Rg.done ?_
      go_simp
      go_wp2
      go_ret
      exact ⟨rfl, F2.out.drew⟩
end Go.Proofs.Ytebgkmfecmlanaa.LDeltaWhole
