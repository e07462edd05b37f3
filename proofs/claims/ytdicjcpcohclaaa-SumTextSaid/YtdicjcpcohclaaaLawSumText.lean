/- The walk of the law SumText. -/
import Derived.Test.YtdicjcpcohclaaaSumL
import Derived.Test.YtdicjcpcohclaaaShaHT
import Derived.OpenShut
set_option linter.unusedVariables false
set_option linter.unusedSimpArgs false
namespace Go.Proofs.Ytdicjcpcohclaaa.LSumText
open Go.ChangeShapes Go.RowKit Go.Proofs.YtdicjcpcohclaaaW.PrintWords Go.Proofs.Ytdicjcpcohclaaa.B Go.Proofs.Ytdicjcpcohclaaa.PB Go.Proofs.Ytdicjcpcohclaaa.Sha

theorem hexd_inj (i j : Nat) (hi : i < 16) (hj : j < 16) (h : hexd i = hexd j) : i = j := by
  have key : ∀ i : Fin 16, ∀ j : Fin 16, hexd i.1 = hexd j.1 → i = j := by decide
  exact congrArg Fin.val (key ⟨i, hi⟩ ⟨j, hj⟩ h)
theorem hex_inj : ∀ (a b : List UInt8), hex a = hex b → a = b
  | [], [], _ => rfl
  | [], y :: b, h => by simp [hex] at h
  | x :: a, [], h => by simp [hex] at h
  | x :: a, y :: b, h => by
    have hx := x.toNat_lt
    have hy := y.toNat_lt
    simp only [hex, List.flatMap_cons, List.cons_append, List.nil_append, List.cons.injEq] at h
    obtain ⟨h1, h2, h3⟩ := h
    have e1 := hexd_inj _ _ (by omega) (by omega) h1
    have e2 := hexd_inj _ _ (by omega) (by omega) h2
    rw [hex_inj a b h3, UInt8.toNat_inj.1 (by omega : x.toNat = y.toNat)]
theorem ex_ld {P : Program} {ρ : Operand → Value} {o : Oper} {W : World} {ty : TypeId} {s : Operand} {p : Addr} {v : Value} (ho : o.op = .load ty s) (hs : ρ s = .pointer (some p)) (h : (loadVar ty p).run P W = .ok v W) : (execOp ρ o).run P W = .ok (.value v) W := by
  unfold execOp
  simp only [ho, hs, Instr.loadAt, Instr.sureAddr, asAddr, Sem.run_bind, Sem.run_pure, Sem.run_map, Result.andThen_ok, h]
set_option maxHeartbeats 4000000 in
set_option maxRecDepth 100000 in
theorem walk (a b : List UInt8) (w : World) (ha : a.length = 32) (hb : b.length = 32) : Calls Try.prog 6 #[Arr.av a, Arr.av b] w fun e w' => e = .returned (.bool true) ∧ Fr No w w' := by
  have qe := fun W => Arr.run_eql Try.underlying34 W a b ha hb
  have hlen : (bstr (hex a)).size = 64 := by rw [bstr_size, hex_length, ha]
  have hsame : (hex a == hex b) = decide (a = b) := by
    rw [Bool.eq_iff_iff, beq_iff_eq, decide_eq_true_iff]
    exact ⟨hex_inj a b, fun h => by rw [h]⟩
  have TA := fun W => text_calls a ha W
  have TB := fun W => text_calls b hb W
  have RA := fun W => ref_text_calls a ha W
  unfold Arr.av at qe TA TB RA ⊢
  have qg := fun x y W => run_eqGuard_agg (P := Try.prog) W .eql 34 x y (a.map vu8).toArray (b.map vu8).toArray (by kernel_rfl)
  have IA : (Try.prog.info? 34).map (·.size) = some (a.map vu8).toArray.size := by rw [show (a.map vu8).toArray.size = 32 by simp [ha]]; kernel_rfl
  have IB : (Try.prog.info? 34).map (·.size) = some (b.map vu8).toArray.size := by rw [show (b.map vu8).toArray.size = 32 by simp [hb]]; kernel_rfl
  clear ha hb
  generalize a.map vu8 = va at *
  generalize b.map vu8 = vb at *
  go_enter Try.func6, Try.ntmps6
  go_wp2_with fail
  refine (known_calls _).mono ?_
  rintro e w1 ⟨rfl, hf⟩
  have F1 := Aside0.mk hf; clear hf
  go_wp2_with fail
  have L1 : ∀ x, Fr No w1 x → (loadVar 34 ⟨w.heap.size, 0, none⟩).run Try.prog x = .ok (.agg va.toArray) x := fun x hx => run_loadVar_row (P := Try.prog) x w.heap.size 34 34 va.toArray (0, 0) _ (((blk_alloc (heap_alloc_new w _) _ : _) |> fun h => (F1.out.none hx).heap h id)) Try.underlying34 rfl IA
  have L2 : ∀ x, Fr No w1 x → (loadVar 34 ⟨w.heap.size + 1, 0, none⟩).run Try.prog x = .ok (.agg vb.toArray) x := fun x hx => run_loadVar_row (P := Try.prog) x (w.heap.size + 1) 34 34 vb.toArray (0, 0) _ ((F1.out.none hx).heap (heap_alloc2_new w _ _) id) Try.underlying34 rfl IB
  refine Rg.start (fun k x => k ≤ 5 → (loadVar 34 ⟨w.heap.size, 0, none⟩).run Try.prog x = .ok (.agg va.toArray) x ∧ (loadVar 34 ⟨w.heap.size + 1, 0, none⟩).run Try.prog x = .ok (.agg vb.toArray) x) (by kernel_rfl) (by kernel_rfl) [1, 3, 7, 13, 15] [[0, 1], [0, 1, 2, 3], [2, 3, 0, 1, 4, 5, 6, 7], [6, 7, 8, 9, 2, 3, 0, 1, 4, 5, 10, 11, 12, 13], [12, 13, 6, 7, 8, 9, 2, 3, 0, 1, 4, 5, 10, 11, 14, 15]] (by kernel_rfl) (.q 0 0 (.q 2 1 (.e 1 1 (.e 3 2 (.q 4 2 (.q 5 2 (.q 6 2 (.e 7 3 (.q 8 3 (.q 9 3 (.q 10 3 (.q 11 3 (.q 12 3 (.q 14 4 (.q 17 5 (.q 18 5 (.q 19 5 (.e 13 4 (.e 15 5 (.q 16 5 (.q 20 5 (.q 21 5 (.q 22 5 (.done)))))))))))))))))))))))) (by kernel_rfl) ?_ ?_
  · exact fun _ _ => ⟨L1 _ ((Fr.refl _ _).drew), L2 _ ((Fr.refl _ _).drew)⟩
  repeat (first
    | (refine Rg.q (o := ?_) (v := ?_) ?_ ?_ ?_ ?_ ?_
       rotate_left 2
       · (simp only [List.getElem?_toArray, List.getElem?_cons_succ, List.getElem?_cons_zero]; rfl)
       · exact fun _ _ _ h => h
       · first | rfl | (go_simp; done)
       · (intro x_ hx; (try dsimp only at hx); first | (refine (ex_ld rfl rfl (hx (by decide)).1).trans ?_; with_reducible rfl) | (clear hx; go_simp; (try rw [if_neg (by omega)]); (try rw [if_pos (by omega)]); (try go_simp); try with_reducible rfl))
       try simp only [Act.put, List.setIfInBounds_toArray, List.set_cons_zero, List.set_cons_succ])
    | (refine Rg.skip (o := ?_) ?_ ?_ ?_ ?_
       rotate_left 1
       · (simp only [List.getElem?_toArray, List.getElem?_cons_succ, List.getElem?_cons_zero]; rfl)
       · exact fun _ _ _ h => h
       · first | rfl | (go_simp; done)
       try simp only [Act.put, List.setIfInBounds_toArray, List.set_cons_zero, List.set_cons_succ]))
  refine Rg.e (o := ?_) ?_ ?_
  rotate_left 1
  · (simp only [List.getElem?_toArray, List.getElem?_cons_succ, List.getElem?_cons_zero]; rfl)
  intro K hK
  go_simp
  refine (TA _).mono ?_
  rintro e w2 ⟨rfl, hf2⟩
  have F2 : Aside0 (Fr No w1 w2) := ⟨((Fr.refl _ _).drew).none hf2⟩
  clear hf2
  go_simp
  refine hK.out _ _ (fun k x => k ≤ 5 → (loadVar 34 ⟨w.heap.size, 0, none⟩).run Try.prog x = .ok (.agg va.toArray) x ∧ (loadVar 34 ⟨w.heap.size + 1, 0, none⟩).run Try.prog x = .ok (.agg vb.toArray) x) (fun k x hk h => h) ?_ ?_
  · exact fun _ _ _ => ⟨L1 _ F2.out, L2 _ F2.out⟩
  try simp only [Act.put, List.setIfInBounds_toArray, List.set_cons_zero, List.set_cons_succ]
  repeat (first
    | (refine Rg.q (o := ?_) (v := ?_) ?_ ?_ ?_ ?_ ?_
       rotate_left 2
       · (simp only [List.getElem?_toArray, List.getElem?_cons_succ, List.getElem?_cons_zero]; rfl)
       · exact fun _ _ _ h => h
       · first | rfl | (go_simp; done)
       · (intro x_ hx; (try dsimp only at hx); first | (refine (ex_ld rfl rfl (hx (by decide)).1).trans ?_; with_reducible rfl) | (clear hx; go_simp; (try rw [if_neg (by omega)]); (try rw [if_pos (by omega)]); (try go_simp); try with_reducible rfl))
       try simp only [Act.put, List.setIfInBounds_toArray, List.set_cons_zero, List.set_cons_succ])
    | (refine Rg.skip (o := ?_) ?_ ?_ ?_ ?_
       rotate_left 1
       · (simp only [List.getElem?_toArray, List.getElem?_cons_succ, List.getElem?_cons_zero]; rfl)
       · exact fun _ _ _ h => h
       · first | rfl | (go_simp; done)
       try simp only [Act.put, List.setIfInBounds_toArray, List.set_cons_zero, List.set_cons_succ]))
  refine Rg.e (o := ?_) ?_ ?_
  rotate_left 1
  · (simp only [List.getElem?_toArray, List.getElem?_cons_succ, List.getElem?_cons_zero]; rfl)
  intro K hK
  go_simp
  refine (RA _).mono ?_
  rintro e w3 ⟨rfl, hf3⟩
  have F3 : Aside0 (Fr No w1 w3) := ⟨F2.out.none hf3⟩
  clear hf3
  go_simp
  refine hK.out _ _ (fun k x => k ≤ 5 → (loadVar 34 ⟨w.heap.size, 0, none⟩).run Try.prog x = .ok (.agg va.toArray) x ∧ (loadVar 34 ⟨w.heap.size + 1, 0, none⟩).run Try.prog x = .ok (.agg vb.toArray) x) (fun k x hk h => h) ?_ ?_
  · exact fun _ _ _ => ⟨L1 _ F3.out, L2 _ F3.out⟩
  try simp only [Act.put, List.setIfInBounds_toArray, List.set_cons_zero, List.set_cons_succ]
  repeat (first
    | (refine Rg.q (o := ?_) (v := ?_) ?_ ?_ ?_ ?_ ?_
       rotate_left 2
       · (simp only [List.getElem?_toArray, List.getElem?_cons_succ, List.getElem?_cons_zero]; rfl)
       · exact fun _ _ _ h => h
       · first | rfl | (go_simp; done)
       · (intro x_ hx; (try dsimp only at hx); first | (refine (ex_ld rfl rfl (hx (by decide)).1).trans ?_; with_reducible rfl) | (clear hx; go_simp; (try rw [if_neg (by omega)]); (try rw [if_pos (by omega)]); (try go_simp); try with_reducible rfl))
       try simp only [Act.put, List.setIfInBounds_toArray, List.set_cons_zero, List.set_cons_succ])
    | (refine Rg.skip (o := ?_) ?_ ?_ ?_ ?_
       rotate_left 1
       · (simp only [List.getElem?_toArray, List.getElem?_cons_succ, List.getElem?_cons_zero]; rfl)
       · exact fun _ _ _ h => h
       · first | rfl | (go_simp; done)
       try simp only [Act.put, List.setIfInBounds_toArray, List.set_cons_zero, List.set_cons_succ]))
  refine Rg.e (o := ?_) ?_ ?_
  rotate_left 1
  · (simp only [List.getElem?_toArray, List.getElem?_cons_succ, List.getElem?_cons_zero]; rfl)
  intro K hK
  rw [if_pos (by go_simp)]; go_simp
  refine (TA _).mono ?_
  rintro e w4 ⟨rfl, hf4⟩
  have F4 : Aside0 (Fr No w1 w4) := ⟨F3.out.none hf4⟩
  clear hf4
  go_simp
  refine hK.out _ _ (fun k x => k ≤ 5 → (loadVar 34 ⟨w.heap.size, 0, none⟩).run Try.prog x = .ok (.agg va.toArray) x ∧ (loadVar 34 ⟨w.heap.size + 1, 0, none⟩).run Try.prog x = .ok (.agg vb.toArray) x) (fun k x hk h => h) ?_ ?_
  · exact fun _ _ _ => ⟨L1 _ F4.out, L2 _ F4.out⟩
  try simp only [Act.put, List.setIfInBounds_toArray, List.set_cons_zero, List.set_cons_succ]
  repeat (first
    | (refine Rg.q (o := ?_) (v := ?_) ?_ ?_ ?_ ?_ ?_
       rotate_left 2
       · (simp only [List.getElem?_toArray, List.getElem?_cons_succ, List.getElem?_cons_zero]; rfl)
       · exact fun _ _ _ h => h
       · first | rfl | (go_simp; done)
       · (intro x_ hx; (try dsimp only at hx); first | (refine (ex_ld rfl rfl (hx (by decide)).1).trans ?_; with_reducible rfl) | (refine (ex_ld rfl rfl (hx (by decide)).2).trans ?_; with_reducible rfl) | (clear hx; go_simp; (try rw [if_neg (by omega)]); (try rw [if_pos (by omega)]); (try go_simp); try with_reducible rfl))
       try simp only [Act.put, List.setIfInBounds_toArray, List.set_cons_zero, List.set_cons_succ])
    | (refine Rg.skip (o := ?_) ?_ ?_ ?_ ?_
       rotate_left 1
       · (simp only [List.getElem?_toArray, List.getElem?_cons_succ, List.getElem?_cons_zero]; rfl)
       · exact fun _ _ _ h => h
       · first | rfl | (go_simp; done)
       try simp only [Act.put, List.setIfInBounds_toArray, List.set_cons_zero, List.set_cons_succ]))
  refine Rg.e (o := ?_) ?_ ?_
  rotate_left 1
  · (simp only [List.getElem?_toArray, List.getElem?_cons_succ, List.getElem?_cons_zero]; rfl)
  intro K hK
  rw [if_pos (by go_simp)]; go_simp
  refine (TA _).mono ?_
  rintro e w5 ⟨rfl, hf5⟩
  have F5 : Aside0 (Fr No w1 w5) := ⟨F4.out.none hf5⟩
  clear hf5
  go_simp
  refine hK.out _ _ (fun k x => k ≤ 5 → (loadVar 34 ⟨w.heap.size, 0, none⟩).run Try.prog x = .ok (.agg va.toArray) x ∧ (loadVar 34 ⟨w.heap.size + 1, 0, none⟩).run Try.prog x = .ok (.agg vb.toArray) x) (fun k x hk h => h) ?_ ?_
  · exact fun _ _ _ => ⟨L1 _ F5.out, L2 _ F5.out⟩
  try simp only [Act.put, List.setIfInBounds_toArray, List.set_cons_zero, List.set_cons_succ]
  refine Rg.e (o := ?_) ?_ ?_
  rotate_left 1
  · (simp only [List.getElem?_toArray, List.getElem?_cons_succ, List.getElem?_cons_zero]; rfl)
  intro K hK
  rw [if_pos (by go_simp)]; go_simp
  refine (TB _).mono ?_
  rintro e w6 ⟨rfl, hf6⟩
  have F6 : Aside0 (Fr No w1 w6) := ⟨F5.out.none hf6⟩
  clear hf6
  go_simp
  refine hK.out _ _ (fun k x => k ≤ 5 → (loadVar 34 ⟨w.heap.size, 0, none⟩).run Try.prog x = .ok (.agg va.toArray) x ∧ (loadVar 34 ⟨w.heap.size + 1, 0, none⟩).run Try.prog x = .ok (.agg vb.toArray) x) (fun k x hk h => h) ?_ ?_
  · exact fun _ _ _ => ⟨L1 _ F6.out, L2 _ F6.out⟩
  try simp only [Act.put, List.setIfInBounds_toArray, List.set_cons_zero, List.set_cons_succ]
  repeat (first
    | (refine Rg.q (o := ?_) (v := ?_) ?_ ?_ ?_ ?_ ?_
       rotate_left 2
       · (simp only [List.getElem?_toArray, List.getElem?_cons_succ, List.getElem?_cons_zero]; rfl)
       · exact fun _ _ _ h => h
       · first | rfl | (go_simp; done)
       · (intro x_ hx; (try dsimp only at hx); first | (refine (ex_ld rfl rfl (hx (by decide)).1).trans ?_; with_reducible rfl) | (refine (ex_ld rfl rfl (hx (by decide)).2).trans ?_; with_reducible rfl) | (clear hx; go_simp; (try rw [if_neg (by omega)]); (try rw [if_pos (by omega)]); (try go_simp); try with_reducible rfl))
       try simp only [Act.put, List.setIfInBounds_toArray, List.set_cons_zero, List.set_cons_succ])
    | (refine Rg.skip (o := ?_) ?_ ?_ ?_ ?_
       rotate_left 1
       · (simp only [List.getElem?_toArray, List.getElem?_cons_succ, List.getElem?_cons_zero]; rfl)
       · exact fun _ _ _ h => h
       · first | rfl | (go_simp; done)
       try simp only [Act.put, List.setIfInBounds_toArray, List.set_cons_zero, List.set_cons_succ]))
  refine Rg.done ?_
  go_simp
  go_wp2
  go_ret
  exact ⟨rfl, ((((Fr.refl _ _).alloc _).alloc _).none F1.out).none F6.out⟩
end Go.Proofs.Ytdicjcpcohclaaa.LSumText
