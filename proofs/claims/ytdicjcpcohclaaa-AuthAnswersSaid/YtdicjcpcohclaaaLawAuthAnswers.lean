/- The walk of the law AuthAnswers. -/
import Derived.Test.YtdicjcpcohclaaaAuthL
import Derived.Test.YtdicjcpcohclaaaAuthR
import Derived.OpenShut
set_option linter.unusedVariables false
set_option linter.unusedSimpArgs false
namespace Go.Proofs.Ytdicjcpcohclaaa.LAuthAnswers
open Go.ChangeShapes Go.RowKit Go.Proofs.YtdicjcpcohclaaaW.PrintWords Go.Proofs.Ytdicjcpcohclaaa.B Go.Proofs.Ytdicjcpcohclaaa.PB Go.Proofs.Ytdicjcpcohclaaa.Sha Go.Proofs.Ytdicjcpcohclaaa.Auth

set_option maxHeartbeats 4000000 in
set_option maxRecDepth 100000 in
theorem walk_out (s mn : List UInt8) (vn : Array Value) (w : World) (h : 200 < s.length ∨ 200 < mn.length) : Calls Try.prog 15 #[.string (bstr s), .string (bstr mn), .agg vn] w fun e w' => e = .returned (.bool true) ∧ Fr No w w' := by
  by_cases h1 : 200 < s.length
  · have h1I : (200 : Int) < (s.length : Int) := by omega
    go_enter Try.func15, Try.ntmps15
    go_wp2_with fail
    refine (lets_calls _).mono ?_
    rintro e w1 ⟨rfl, hf⟩
    have F1 := Aside0.mk hf; clear hf
    go_wp2
    go_ret
    exact ⟨rfl, ((Fr.refl _ _).alloc _).none F1.out⟩
  · have h1I : ¬ (200 : Int) < (s.length : Int) := by omega
    have h2I : (200 : Int) < (mn.length : Int) := by omega
    go_enter Try.func15, Try.ntmps15
    go_wp2_with fail
    refine (lets_calls _).mono ?_
    rintro e w1 ⟨rfl, hf⟩
    have F1 := Aside0.mk hf; clear hf
    go_wp2
    go_ret
    exact ⟨rfl, ((Fr.refl _ _).alloc _).none F1.out⟩
set_option maxHeartbeats 4000000 in
set_option maxRecDepth 100000 in
theorem walk_ok (s mn n : List UInt8) (w : World) (hs : s.length ≤ 200) (hm : mn.length ≤ 200) (hn : n.length = 16) : Calls Try.prog 15 #[.string (bstr s), .string (bstr mn), Arr.av n] w fun e w' => e = .returned (.bool true) ∧ Fr No w w' := by
  have h1I : ¬ (200 : Int) < (s.length : Int) := by omega
  have h2I : ¬ (200 : Int) < (mn.length : Int) := by omega
  have AC := fun W => answer_calls s mn n W (by omega) (by omega) hn
  have RC := fun W => ref_answer_calls s mn n W (by omega) (by omega) hn
  unfold Arr.av at AC RC ⊢
  obtain ⟨vn, hvn⟩ : ∃ vn, (n.map vu8).toArray = vn := ⟨_, rfl⟩
  have sn : vn.size = 16 := by rw [← hvn]; simp [hn]
  simp only [hvn] at AC RC ⊢
  clear hvn hn
  have qe := fun W => Arr.run_eql Try.underlying34 W (mac s (n ++ mn)) (mac s (n ++ mn)) (mac_length _ _) (mac_length _ _)
  unfold Arr.av at qe
  have qg := fun x y W => run_eqGuard_agg (P := Try.prog) W .eql 34 x y ((mac s (n ++ mn)).map vu8).toArray ((mac s (n ++ mn)).map vu8).toArray (by kernel_rfl)
  have N0 : (w.alloc (.cells vn 69)).heap[w.heap.size]? = some (.cells vn 69 (0, 0)) := heap_alloc_new w _
  go_enter Try.func15, Try.ntmps15
  go_wp2_with fail
  refine (lets_calls _).mono ?_
  rintro e w1 ⟨rfl, hf⟩
  have F1 : Aside0 (Fr No w w1) := ⟨((Fr.refl _ _).alloc _).none hf⟩
  have LN := ld_all (P := Try.prog) (ty := 69) (hf.heap N0 id) Try.underlying69 rfl (by rw [sn]; kernel_rfl)
  clear hf N0
  go_wp2_with fail
  refine Rg.start (fun _ x => Fr No w1 x) (by kernel_rfl) (by kernel_rfl) [3, 7] [[2, 1, 0, 3], [2, 1, 0, 3, 6, 5, 4, 7]] (by kernel_rfl) (.q 0 0 (.q 1 0 (.q 2 0 (.q 4 1 (.q 5 1 (.q 6 1 (.e 3 1 (.e 7 2 (.q 8 2 (.q 9 2 (.done))))))))))) (by kernel_rfl) ?_ ?_
  · exact fun _ => (Fr.refl _ _).drew
  repeat (first
    | (refine Rg.q (o := ?_) (v := ?_) ?_ ?_ ?_ ?_ ?_
       rotate_left 2
       · (simp only [List.getElem?_toArray, List.getElem?_cons_succ, List.getElem?_cons_zero]; rfl)
       · exact fun _ _ _ h => h
       · first | rfl | (go_simp; done)
       · (intro x_ hx; (try dsimp only at hx); first | (refine (ex_ld rfl rfl (LN _ hx)).trans ?_; with_reducible rfl) | (fail) | (skip; (try clear hx); go_simp; (try rw [if_neg (by omega)]); (try rw [if_pos (by omega)]); (try go_simp); try with_reducible rfl))
       try simp only [Act.put, List.setIfInBounds_toArray, List.set_cons_zero, List.set_cons_succ])
    | (refine Rg.skip (o := ?_) ?_ ?_ ?_ ?_
       rotate_left 1
       · (simp only [List.getElem?_toArray, List.getElem?_cons_succ, List.getElem?_cons_zero]; rfl)
       · exact fun _ _ _ h => h
       · first | rfl | (go_simp; done)
       try simp only [Act.put, List.setIfInBounds_toArray, List.set_cons_zero, List.set_cons_succ]))
  refine Rg.e (o := ?_) ?_ ?_
  rotate_left 1
  · (simp only [List.getElem?_toArray, List.getElem?_cons_succ, List.getElem?_cons_zero]; rfl)
  intro K hK
  go_simp
  refine (AC _).mono ?_
  rintro e w2 ⟨rfl, hf⟩
  have F2 : Aside0 (Fr No w1 w2) := ⟨((Fr.refl _ _).drew).none hf⟩
  clear hf
  go_simp
  refine hK.out _ _ (fun _ x => Fr No w1 x) (fun k x hk h => h) ?_ ?_
  · exact fun _ _ => F2.out
  try simp only [Act.put, List.setIfInBounds_toArray, List.set_cons_zero, List.set_cons_succ]
  repeat (first
    | (refine Rg.q (o := ?_) (v := ?_) ?_ ?_ ?_ ?_ ?_
       rotate_left 2
       · (simp only [List.getElem?_toArray, List.getElem?_cons_succ, List.getElem?_cons_zero]; rfl)
       · exact fun _ _ _ h => h
       · first | rfl | (go_simp; done)
       · (intro x_ hx; (try dsimp only at hx); first | (refine (ex_ld rfl rfl (LN _ hx)).trans ?_; with_reducible rfl) | (fail) | (skip; (try clear hx); go_simp; (try rw [if_neg (by omega)]); (try rw [if_pos (by omega)]); (try go_simp); try with_reducible rfl))
       try simp only [Act.put, List.setIfInBounds_toArray, List.set_cons_zero, List.set_cons_succ])
    | (refine Rg.skip (o := ?_) ?_ ?_ ?_ ?_
       rotate_left 1
       · (simp only [List.getElem?_toArray, List.getElem?_cons_succ, List.getElem?_cons_zero]; rfl)
       · exact fun _ _ _ h => h
       · first | rfl | (go_simp; done)
       try simp only [Act.put, List.setIfInBounds_toArray, List.set_cons_zero, List.set_cons_succ]))
  refine Rg.e (o := ?_) ?_ ?_
  rotate_left 1
  · (simp only [List.getElem?_toArray, List.getElem?_cons_succ, List.getElem?_cons_zero]; rfl)
  intro K hK
  go_simp
  refine (RC _).mono ?_
  rintro e w3 ⟨rfl, hf⟩
  have F3 : Aside0 (Fr No w1 w3) := ⟨F2.out.none hf⟩
  clear hf
  go_simp
  refine hK.out _ _ (fun _ x => Fr No w1 x) (fun k x hk h => h) ?_ ?_
  · exact fun _ _ => F3.out
  try simp only [Act.put, List.setIfInBounds_toArray, List.set_cons_zero, List.set_cons_succ]
  repeat (first
    | (refine Rg.q (o := ?_) (v := ?_) ?_ ?_ ?_ ?_ ?_
       rotate_left 2
       · (simp only [List.getElem?_toArray, List.getElem?_cons_succ, List.getElem?_cons_zero]; rfl)
       · exact fun _ _ _ h => h
       · first | rfl | (go_simp; done)
       · (intro x_ hx; (try dsimp only at hx); first | (refine (ex_ld rfl rfl (LN _ hx)).trans ?_; with_reducible rfl) | (fail) | (skip; (try clear hx); go_simp; (try rw [if_neg (by omega)]); (try rw [if_pos (by omega)]); (try go_simp); try with_reducible rfl))
       try simp only [Act.put, List.setIfInBounds_toArray, List.set_cons_zero, List.set_cons_succ])
    | (refine Rg.skip (o := ?_) ?_ ?_ ?_ ?_
       rotate_left 1
       · (simp only [List.getElem?_toArray, List.getElem?_cons_succ, List.getElem?_cons_zero]; rfl)
       · exact fun _ _ _ h => h
       · first | rfl | (go_simp; done)
       try simp only [Act.put, List.setIfInBounds_toArray, List.set_cons_zero, List.set_cons_succ]))
  refine Rg.done ?_
  go_simp
  go_wp2
  go_ret
  exact ⟨rfl, F1.out.none F3.out⟩
theorem walk (s mn n : List UInt8) (w : World) (hs : s.length ≤ reach) (hm : mn.length ≤ reach) (hn : n.length = 16) : Calls Try.prog 15 #[.string (bstr s), .string (bstr mn), Arr.av n] w fun e w' => e = .returned (.bool true) ∧ Fr No w w' := by
  by_cases h : 200 < s.length ∨ 200 < mn.length
  · exact walk_out s mn _ w h
  · exact walk_ok s mn n w (by omega) (by omega) hn
end Go.Proofs.Ytdicjcpcohclaaa.LAuthAnswers
