/- The walk of the law SumEnds. -/
import Derived.Test.YtdicjcpcohclaaaSumL
import Derived.Test.YtdicjcpcohclaaaShaH
import Derived.Test.YtdicjcpcohclaaaLift
import Derived.Laws.MakeOwn
import Derived.OpenShut
set_option linter.unusedVariables false
set_option linter.unusedSimpArgs false
namespace Go.Proofs.Ytdicjcpcohclaaa.LSumEnds
open Go.ChangeShapes Go.RowKit Go.Proofs.YtdicjcpcohclaaaW.PrintWords Go.Proofs.Ytdicjcpcohclaaa.B Go.Proofs.Ytdicjcpcohclaaa.PB Go.Proofs.Ytdicjcpcohclaaa.Sha

set_option maxRecDepth 100000 in
theorem mkN (W : World) (n : Nat) (hn : n ≤ 300) : (Instr.makeSlice 23 (.int .i64 (n : Int)) (.int .i64 (n : Int))).run Try.prog W = .ok (.slice (some ⟨W.heap.size, 0, none⟩) n n) (W.alloc (.cells ((List.replicate n (0 : UInt8)).map vu8).toArray 5)) := by
  obtain ⟨i, hi, hz⟩ := Option.map_eq_some_iff.1 (show (Try.prog.info? 5).map (fun i => (i.zero, i.size, i.bytes)) = some (some (.int .u8 0), 1, 1) by kernel_rfl)
  simp only [Prod.mk.injEq] at hz
  obtain ⟨z1, z2, z3⟩ := hz
  have h := run_makeSlice (P := Try.prog) W 23 5 i _ Try.underlying23 hi z1 .i64 .i64 (n : Int) (n : Int) (by omega) (by omega) (by rw [z2]; omega) (by rw [z3]; omega) (by omega)
  rw [h, z2]
  simp only [Int.toNat_natCast, Nat.mul_one]
  congr 3
  apply Array.ext
  · simp [madeCells, Value.cells]
  · intro k h1 h2
    simp [madeCells, Value.cells, vu8, Nat.mod_one]
theorem ex_ld {P : Program} {ρ : Operand → Value} {o : Oper} {W : World} {ty : TypeId} {s : Operand} {p : Addr} {v : Value} (ho : o.op = .load ty s) (hs : ρ s = .pointer (some p)) (h : (loadVar ty p).run P W = .ok v W) : (execOp ρ o).run P W = .ok (.value v) W := by
  unfold execOp
  simp only [ho, hs, Instr.loadAt, Instr.sureAddr, asAddr, Sem.run_bind, Sem.run_pure, Sem.run_map, Result.andThen_ok, h]
theorem rdV_three (W : World) (A A' A'' : Option Addr) (n c n' c' n'' c'' : Nat) (p q r : List UInt8) (h : RdB W (.slice A n c) p) (h' : RdB W (.slice A' n' c') q) (h'' : RdB W (.slice A'' n'' c'') r) (t : TypeId) : RdV (W.alloc (.cells #[.slice A n c, .slice A' n' c', .slice A'' n'' c''] t)) (.slice (some ⟨W.heap.size, 0, none⟩) 3 3) [p, q, r] :=
  rdV_lit W [⟨A, n, c⟩, ⟨A', n', c'⟩, ⟨A'', n'', c''⟩] [p, q, r] rfl (by simp [maxLen]) (fun j s hs => by
    rcases j with _ | _ | _ | j
    · simp at hs; subst hs; exact h
    · simp at hs; subst hs; exact h'
    · simp at hs; subst hs; exact h''
    · simp at hs) t
theorem fill_set (x : UInt8) (n i : Nat) (hi : i < n) : (List.replicate i x ++ List.replicate (n - i) 0).set i x = List.replicate (i + 1) x ++ List.replicate (n - (i + 1)) 0 := by
  rw [List.set_append_right _ _ (by simp), List.length_replicate, Nat.sub_self, show n - i = (n - (i + 1)) + 1 by omega, List.replicate_succ, List.set_cons_zero, List.replicate_succ', List.append_assoc]
  rfl
theorem one_row (w : World) (zz : Array Value) (x : List UInt8) (t : Nat) : ∃ w3, (w.alloc (.cells zz t)).setRow w.heap.size (x.map vu8).toArray = w3 ∧ Bd w3 w.heap.size t x ∧ Fr No w w3 := by
  refine ⟨_, rfl, ?_, fr_setRow ((Fr.refl _ _).alloc _) (.inr (Nat.le_refl _)) _⟩
  exact setRow_heap _ _ _ _ _ _ (heap_alloc_new w _)
set_option maxHeartbeats 4000000 in
set_option maxRecDepth 100000 in
theorem walk_out (x : Int) (n at0 : Int) (w : World) (h : n < 0 ∨ (0 ≤ n ∧ 300 < n) ∨ (0 ≤ n ∧ n ≤ 300 ∧ at0 < 0) ∨ (0 ≤ n ∧ n ≤ 300 ∧ 0 ≤ at0 ∧ n < at0)) : Calls Try.prog 7 #[.int .u8 x, .int .i64 n, .int .i64 at0] w fun e w' => e = .returned (.bool true) ∧ Fr No w w' := by
  rcases h with h | ⟨h, h1⟩ | ⟨h, h1, h2⟩ | ⟨h, h1, h2, h3⟩
  all_goals
    go_enter Try.func7, Try.ntmps7
    go_wp2_with fail
    refine (known_calls w).mono ?_
    rintro e w1 ⟨rfl, hf⟩
    go_wp2
    go_ret
    exact ⟨rfl, hf⟩
set_option maxHeartbeats 4000000 in
set_option maxRecDepth 100000 in
theorem walk_ok (x : UInt8) (n a0 : Nat) (w : World) (hn : n ≤ 300) (ha : a0 ≤ n) : Calls Try.prog 7 #[vu8 x, .int .i64 (n : Int), .int .i64 (a0 : Int)] w fun e w' => e = .returned (.bool true) ∧ Fr No w w' := by
  have hnI : (n : Int) ≤ 300 := by omega
  have haI : (a0 : Int) ≤ (n : Int) := by omega
  obtain ⟨zz, hzz, hmk⟩ : ∃ zz : Array Value, zz = ((List.replicate n (0 : UInt8)).map vu8).toArray ∧ ∀ W : World, (Instr.makeSlice 23 (.int .i64 (n : Int)) (.int .i64 (n : Int))).run Try.prog W = .ok (.slice (some ⟨W.heap.size, 0, none⟩) n n) (W.alloc (.cells zz 5)) := ⟨_, rfl, fun W => mkN W n hn⟩
  have HZ := Aside0.mk hzz
  clear hzz
  go_enter Try.func7, Try.ntmps7
  go_wp2_with fail
  refine (known_calls w).mono ?_
  rintro e w1 ⟨rfl, hf⟩
  have F1 := Aside0.mk hf; clear hf
  go_wp2_with fail
  clear hmk
  have B0 : Aside0 (Bd (w1.alloc (.cells zz 5)) w1.heap.size 5 (List.replicate 0 x ++ List.replicate (n - 0) 0)) := ⟨by
    rw [List.replicate_zero, List.nil_append, Nat.sub_zero, HZ.out]
    exact bd_new w1 _ _ rfl _⟩
  have F2 : Aside0 (Fr No w (w1.alloc (.cells zz 5))) := ⟨F1.out.alloc _⟩
  obtain ⟨g, hg⟩ : ∃ g, w1.heap.size = g := ⟨_, rfl⟩
  have hwg := F1.out.size
  rw [hg] at B0 hwg ⊢
  go_loopw [31] (fun v31 wr => ∃ i : Nat, v31 = .int .i64 (i : Int) ∧ i ≤ n ∧ Aside0 (Bd wr g 5 (List.replicate i x ++ List.replicate (n - i) 0)) ∧ Aside0 (Fr No w wr)) (fun v31 _ => n - (intOf v31).toNat)
  case atStart => exact ⟨0, rfl, by omega, B0, F2⟩
  case round =>
    obtain ⟨i, rfl, hi, HB, HF⟩ := hrel
    by_cases hlt : i < n
    · have hI : (i : Int) < (n : Int) := by omega
      obtain ⟨M, hM⟩ : ∃ M, List.replicate i x ++ List.replicate (n - i) 0 = M := ⟨_, rfl⟩
      have hMl : M.length = n := by rw [← hM]; simp; omega
      have hset := fill_set x n i hlt
      rw [hM] at HB hset
      have c7 := HB.out.cell i (by omega)
      have f7 := HB.out.frozen i
      have HB2 : Aside0 (Bd (wr.setCell ⟨g, i, none⟩ (vu8 x)) g 5 (List.replicate (i + 1) x ++ List.replicate (n - (i + 1)) 0)) := ⟨by rw [← hset]; exact HB.out.set i x⟩
      have HF2 : Aside0 (Fr No w (wr.setCell ⟨g, i, none⟩ (vu8 x))) := ⟨HF.out.setCell (p := ⟨g, i, none⟩) (.inr hwg) _⟩
      clear hM hMl hset HB
      go_wp2
      go_roundw
      case rel => exact ⟨i + 1, by go_num, by omega, HB2, HF2⟩
      case measure => simp [intOf]; omega
    · have hI : ¬ (i : Int) < (n : Int) := by omega
      obtain rfl : i = n := by omega
      rw [Nat.sub_self, List.replicate_zero, List.append_nil] at HB
      clear B0
      have R7 := HB.out.rd 0 i i (by simp) (Nat.le_refl _) (by simp [maxLen]; omega)
      have hsx : ((List.replicate i x).drop 0).take i = List.replicate i x := by simp
      rw [hsx] at R7
      obtain ⟨b, hb⟩ : ∃ b, List.replicate i x = b := ⟨_, rfl⟩
      rw [hb] at R7 HB
      have hbl : b.length = i := by rw [← hb]; simp
      have HBL := Aside0.mk hbl
      have R := Aside0.mk R7
      have hst := str_of_rd R7
      clear R7 hb hbl hsx
      go_wp2_with fail
      refine (ref_of_calls (bstr b) _ (by rw [size_bstr, HBL.out]; omega)).mono ?_
      rintro e w2 ⟨rfl, hf2⟩
      have F2' : Aside0 (Fr No w w2) := ⟨HF.out.none hf2⟩
      have RB : Aside0 (RdB w2 (.slice (some ⟨g, 0, none⟩) i i) b) := ⟨R.out.no hf2⟩
      have HB2 : Aside0 (Bd w2 g 5 b) := ⟨HB.out.no hf2⟩
      rw [data_bstr]
      obtain ⟨S, hS⟩ : ∃ S, sha b = S := ⟨_, rfl⟩
      have hSl : S.length = 32 := by rw [← hS]; exact sha_length _
      rw [hS]
      have HSS := Aside0.mk hS; have HSL := Aside0.mk hSl
      clear hf2 hst hS hSl R HB
      unfold Arr.av
      go_upto_region 12 with (first
        | (refine PB.stRow (.tmp 9) (.tmp 41) 34 w2.heap.size 34 _ (S.map vu8).toArray rfl rfl rfl rfl (heap_alloc_new w2 _) (by rw [show (S.map vu8).toArray.size = 32 by simp [HSL.out]]; kernel_rfl) (by simp [HSL.out]) (by rw [Array.all_eq_true]; intro i hi; simp [Value.oneCell']) ?_))
      obtain ⟨w3, hw3, gS, fw⟩ := one_row w2 _ S 34
      rw [hw3]
      have F3 : Aside0 (Fr No w w3) := ⟨F2'.out.none fw⟩
      have RB3 : Aside0 (RdB w3 (.slice (some ⟨g, 0, none⟩) i i) b) := ⟨RB.out.no fw⟩
      have HB3 : Aside0 (Bd w3 g 5 b) := ⟨HB2.out.no fw⟩
      have GS := Aside0.mk gS
      clear hw3 gS fw RB HB2 F2'
      have IS : (Try.prog.info? 34).map (·.size) = some (S.map vu8).toArray.size := by rw [show (S.map vu8).toArray.size = 32 by simp [HSL.out]]; kernel_rfl
      have L1 : ∀ y, Fr No w3 y → (loadVar 34 ⟨w2.heap.size, 0, none⟩).run Try.prog y = .ok (.agg (S.map vu8).toArray) y := fun y hy => run_loadVar_row (P := Try.prog) y w2.heap.size 34 34 (S.map vu8).toArray (0, 0) _ (GS.out.no hy) Try.underlying34 rfl IS
      clear IS GS
      refine Rg.start (fun k x => k ≤ 5 → (loadVar 34 ⟨w2.heap.size, 0, none⟩).run Try.prog x = .ok (.agg (S.map vu8).toArray) x) (by kernel_rfl) (by kernel_rfl) [1, 2, 12, 13] [[0, 1], [0, 1, 2], [10, 9, 11, 7, 3, 0, 1, 2, 4, 5, 6, 8, 12], [10, 9, 11, 7, 3, 0, 1, 2, 4, 5, 6, 8, 12, 13]] (by kernel_rfl) (.q 0 0 (.q 3 2 (.e 1 1 (.e 2 2 (.q 4 2 (.q 5 2 (.q 6 2 (.q 7 2 (.q 8 2 (.q 9 2 (.q 10 2 (.q 11 2 (.q 14 4 (.e 12 3 (.e 13 4 (.q 15 4 (.q 16 4 (.q 17 4 (.done))))))))))))))))))) (by kernel_rfl) ?_ ?_
      · exact fun _ _ => L1 _ ((Fr.refl _ _).drew)
      repeat (first
        | (refine Rg.q (o := ?_) (v := ?_) ?_ ?_ ?_ ?_ ?_
           rotate_left 2
           · (simp only [List.getElem?_toArray, List.getElem?_cons_succ, List.getElem?_cons_zero]; rfl)
           · exact fun _ _ _ h => h
           · first | rfl | (go_simp; done)
           · (intro x_ hx; (try dsimp only at hx); first | (refine (ex_ld rfl rfl (hx (by decide))).trans ?_; with_reducible rfl) | (clear hx; go_simp; (try rw [if_neg (by omega)]); (try rw [if_pos (by omega)]); (try go_simp); try with_reducible rfl))
           try simp only [Act.put, List.setIfInBounds_toArray, List.set_cons_zero, List.set_cons_succ])
        | (refine Rg.skip (o := ?_) ?_ ?_ ?_ ?_
           rotate_left 1
           · (simp only [List.getElem?_toArray, List.getElem?_cons_succ, List.getElem?_cons_zero]; rfl)
           · exact fun _ _ _ h => h
           · first | rfl | (go_simp; done)
           try simp only [Act.put, List.setIfInBounds_toArray, List.set_cons_zero, List.set_cons_succ]))
      refine Rg.e (o := ?_) ?_ ?_
      rotate_left 1
      · (simp only [List.getElem?_toArray, List.getElem?_cons_succ, List.getElem?_cons_zero]; rfl)
      intro K hK
      go_simp
      refine hK.out _ _ (fun k x => k ≤ 5 → (loadVar 34 ⟨w2.heap.size, 0, none⟩).run Try.prog x = .ok (.agg (S.map vu8).toArray) x) (fun k x hk h => h) ?_ ?_
      · exact fun _ _ _ => L1 _ (((Fr.refl _ _).alloc _).drew)
      try simp only [Act.put, List.setIfInBounds_toArray, List.set_cons_zero, List.set_cons_succ]
      have V1 : Aside0 (RdV ((w3.alloc (.cells #[.slice (some ⟨g, 0, none⟩) i i] 23)).drew) (.slice (some ⟨w3.heap.size, 0, none⟩) 1 1) [b]) := ⟨(rdV_one' _ _ rfl _ i i b RB3.out _).no ((Fr.refl _ _).drew)⟩
      refine Rg.e (o := ?_) ?_ ?_
      rotate_left 1
      · (simp only [List.getElem?_toArray, List.getElem?_cons_succ, List.getElem?_cons_zero]; rfl)
      intro K hK
      go_simp
      refine (of_calls _ [b] _ V1.out (by simp [HBL.out]; omega)).mono ?_
      rintro e w4 ⟨rfl, hf4⟩
      rw [show [b].flatten = b by simp, HSS.out]
      have F4' : Aside0 (Fr No w3 w4) := ⟨(((Fr.refl _ _).alloc _).drew).none hf4⟩
      clear hf4 V1
      unfold Arr.av
      go_simp
      refine hK.out _ _ (fun k x => k ≤ 5 → (loadVar 34 ⟨w2.heap.size, 0, none⟩).run Try.prog x = .ok (.agg (S.map vu8).toArray) x) (fun k x hk h => h) ?_ ?_
      · exact fun _ _ _ => L1 _ F4'.out
      try simp only [Act.put, List.setIfInBounds_toArray, List.set_cons_zero, List.set_cons_succ]
      have qe := fun W => Arr.run_eql Try.underlying34 W S S HSL.out HSL.out
      have qg := fun p q W => run_eqGuard_agg (P := Try.prog) W .eql 34 p q (S.map vu8).toArray (S.map vu8).toArray (by kernel_rfl)
      unfold Arr.av at qe
      repeat (first
        | (refine Rg.q (o := ?_) (v := ?_) ?_ ?_ ?_ ?_ ?_
           rotate_left 2
           · (simp only [List.getElem?_toArray, List.getElem?_cons_succ, List.getElem?_cons_zero]; rfl)
           · exact fun _ _ _ h => h
           · first | rfl | (go_simp; done)
           · (intro x_ hx; (try dsimp only at hx); first | (refine (ex_ld rfl rfl (hx (by decide))).trans ?_; with_reducible rfl) | (clear hx; go_simp; (try rw [if_neg (by omega)]); (try rw [if_pos (by omega)]); (try go_simp); try with_reducible rfl))
           try simp only [Act.put, List.setIfInBounds_toArray, List.set_cons_zero, List.set_cons_succ])
        | (refine Rg.skip (o := ?_) ?_ ?_ ?_ ?_
           rotate_left 1
           · (simp only [List.getElem?_toArray, List.getElem?_cons_succ, List.getElem?_cons_zero]; rfl)
           · exact fun _ _ _ h => h
           · first | rfl | (go_simp; done)
           try simp only [Act.put, List.setIfInBounds_toArray, List.set_cons_zero, List.set_cons_succ]))
      clear qe qg
      refine Rg.e (o := ?_) ?_ ?_
      rotate_left 1
      · (simp only [List.getElem?_toArray, List.getElem?_cons_succ, List.getElem?_cons_zero]; rfl)
      intro K hK
      rw [if_pos (by go_simp)]; go_simp
      have HB4 := Aside0.mk (HB3.out.no F4'.out)
      have R1 : Aside0 (RdB w4 (.slice (some ⟨g, 0, none⟩) a0 i) (b.take a0)) := ⟨by
        have h := HB4.out.rd 0 a0 i (by rw [HBL.out]; omega) ha (by simp [maxLen]; omega)
        rw [List.drop_zero] at h
        exact h⟩
      obtain ⟨A3, hA3, R3⟩ : ∃ A3, (if i = a0 then some (⟨g, 0, none⟩ : Addr) else some ⟨g, a0, none⟩) = A3 ∧ RdB w4 (.slice A3 (i - a0) (i - a0)) (b.drop a0) := by
        refine ⟨_, rfl, ?_⟩
        by_cases he : i = a0
        · rw [if_pos he, show i - a0 = 0 by omega, List.drop_of_length_le (by rw [HBL.out]; omega)]
          have h := HB4.out.rd 0 0 0 (by omega) (by omega) (by simp [maxLen])
          exact h
        · rw [if_neg he]
          have h := HB4.out.rd a0 (i - a0) (i - a0) (by rw [HBL.out]; omega) (Nat.le_refl _) (by simp [maxLen]; omega)
          rw [List.take_of_length_le (by rw [List.length_drop, HBL.out]; omega)] at h
          exact h
      rw [hA3]
      have V3 : Aside0 (RdV (w4.alloc (.cells #[.slice (some ⟨g, 0, none⟩) a0 i, .slice none 0 0, .slice A3 (i - a0) (i - a0)] 23)) (.slice (some ⟨w4.heap.size, 0, none⟩) 3 3) [b.take a0, [], b.drop a0]) := ⟨rdV_three _ _ _ _ _ _ _ _ _ _ _ _ _ R1.out (Rd.nil _ _) R3 _⟩
      clear R1 R3 hA3 HB4
      refine hK.out _ _ (fun k x => k ≤ 5 → (loadVar 34 ⟨w2.heap.size, 0, none⟩).run Try.prog x = .ok (.agg (S.map vu8).toArray) x) (fun k x hk h => h) ?_ ?_
      · exact fun _ _ _ => L1 _ (F4'.out.alloc _)
      try simp only [Act.put, List.setIfInBounds_toArray, List.set_cons_zero, List.set_cons_succ]
      refine Rg.e (o := ?_) ?_ ?_
      rotate_left 1
      · (simp only [List.getElem?_toArray, List.getElem?_cons_succ, List.getElem?_cons_zero]; rfl)
      intro K hK
      rw [if_pos (by go_simp)]; go_simp
      refine (of_calls _ [b.take a0, [], b.drop a0] _ V3.out (by simp [HBL.out]; omega)).mono ?_
      rintro e w5 ⟨rfl, hf5⟩
      rw [show [b.take a0, [], b.drop a0].flatten = b by simp, HSS.out]
      have F5 : Aside0 (Fr No w3 w5) := ⟨(F4'.out.alloc _).none hf5⟩
      clear hf5 V3
      unfold Arr.av
      go_simp
      refine hK.out _ _ (fun k x => k ≤ 5 → (loadVar 34 ⟨w2.heap.size, 0, none⟩).run Try.prog x = .ok (.agg (S.map vu8).toArray) x) (fun k x hk h => h) ?_ ?_
      · exact fun _ _ _ => L1 _ F5.out
      try simp only [Act.put, List.setIfInBounds_toArray, List.set_cons_zero, List.set_cons_succ]
      have qe := fun W => Arr.run_eql Try.underlying34 W S S HSL.out HSL.out
      have qg := fun p q W => run_eqGuard_agg (P := Try.prog) W .eql 34 p q (S.map vu8).toArray (S.map vu8).toArray (by kernel_rfl)
      unfold Arr.av at qe
      repeat (first
        | (refine Rg.q (o := ?_) (v := ?_) ?_ ?_ ?_ ?_ ?_
           rotate_left 2
           · (simp only [List.getElem?_toArray, List.getElem?_cons_succ, List.getElem?_cons_zero]; rfl)
           · exact fun _ _ _ h => h
           · first | rfl | (go_simp; done)
           · (intro x_ hx; (try dsimp only at hx); first | (refine (ex_ld rfl rfl (hx (by decide))).trans ?_; with_reducible rfl) | (clear hx; go_simp; (try rw [if_neg (by omega)]); (try rw [if_pos (by omega)]); (try go_simp); try with_reducible rfl))
           try simp only [Act.put, List.setIfInBounds_toArray, List.set_cons_zero, List.set_cons_succ])
        | (refine Rg.skip (o := ?_) ?_ ?_ ?_ ?_
           rotate_left 1
           · (simp only [List.getElem?_toArray, List.getElem?_cons_succ, List.getElem?_cons_zero]; rfl)
           · exact fun _ _ _ h => h
           · first | rfl | (go_simp; done)
           try simp only [Act.put, List.setIfInBounds_toArray, List.set_cons_zero, List.set_cons_succ]))
      refine Rg.done ?_
      go_simp
      go_wp2
      go_ret
      exact ⟨rfl, F3.out.none F5.out⟩
theorem walk (x : Int) (n a0 : Int) (w : World) (hx : (Lit.int .u8 x).wf = true) (hn : (Lit.int .i64 n).wf = true) (ha : (Lit.int .i64 a0).wf = true) : Calls Try.prog 7 #[.int .u8 x, .int .i64 n, .int .i64 a0] w fun e w' => e = .returned (.bool true) ∧ Fr No w w' := by
  by_cases h : n < 0 ∨ (0 ≤ n ∧ 300 < n) ∨ (0 ≤ n ∧ n ≤ 300 ∧ a0 < 0) ∨ (0 ≤ n ∧ n ≤ 300 ∧ 0 ≤ a0 ∧ n < a0)
  · exact walk_out x n a0 w h
  · obtain ⟨k, rfl⟩ := Int.eq_ofNat_of_zero_le (show 0 ≤ n by omega)
    obtain ⟨a, rfl⟩ := Int.eq_ofNat_of_zero_le (show 0 ≤ a0 by omega)
    have hb := bounds_u8 hx
    obtain ⟨y, hy⟩ : ∃ y : UInt8, (Value.int .u8 x) = vu8 y := ⟨UInt8.ofNat x.toNat, (Lift.byte_wf hx).symm⟩
    rw [hy]
    exact walk_ok y k a w (by omega) (by omega)
end Go.Proofs.Ytdicjcpcohclaaa.LSumEnds
