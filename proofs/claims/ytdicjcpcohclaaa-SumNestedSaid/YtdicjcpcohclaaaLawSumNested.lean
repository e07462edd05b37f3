/- The walk of the law SumNested. -/
import Derived.Test.YtdicjcpcohclaaaSumL
import Derived.Test.YtdicjcpcohclaaaShaC
import Derived.OpenShut
set_option linter.unusedVariables false
set_option linter.unusedSimpArgs false
namespace Go.Proofs.Ytdicjcpcohclaaa.LSumNested
open Go.ChangeShapes Go.RowKit Go.Proofs.YtdicjcpcohclaaaW.PrintWords Go.Proofs.Ytdicjcpcohclaaa.B Go.Proofs.Ytdicjcpcohclaaa.PB Go.Proofs.Ytdicjcpcohclaaa.Sha
attribute [local go_sem] B.max2_int B.min2_int B.max_two B.min_two

theorem cutK_nat (k : Nat) (h : k ≤ 32) : cutK (k : Int) = k := by unfold cutK; omega
theorem cut_set (n : Nat) (h : n ≤ 31) (a : List UInt8) : (cut ((n : Int) + 1) a).set n 0 = cut (n : Int) a := by
  have e1 : cutK ((n : Int) + 1) = n + 1 := by unfold cutK; omega
  have hl := sha_length a
  unfold cut
  rw [e1, cutK_nat n (by omega), List.take_succ_eq_append_getElem (by omega), List.append_assoc, List.set_append_right _ _ (by simp; omega),
    show n - ((sha a).take n).length = 0 by simp; omega, List.singleton_append, List.set_cons_zero, show 32 - n = (32 - (n + 1)) + 1 by omega, List.replicate_succ]
theorem cut_zero (a : List UInt8) : cut 0 a = List.replicate 32 0 := by
  have e1 : cutK 0 = 0 := by decide
  unfold cut
  rw [e1]; rfl
theorem cut_all (a : List UInt8) : cut 32 a = sha a := by
  have e1 : cutK 32 = 32 := by decide
  unfold cut
  rw [e1, List.take_of_length_le (by rw [sha_length]; exact Nat.le_refl _)]
  simp
theorem two_rows (w3 : World) (z : Array Value) (x y : List UInt8) (t : TypeId) :
    Bd ((((w3.alloc (.cells z t)).alloc (.cells z t)).setRow w3.heap.size (x.map vu8).toArray).setRow (w3.heap.size + 1) (y.map vu8).toArray) w3.heap.size t x ∧
    Bd ((((w3.alloc (.cells z t)).alloc (.cells z t)).setRow w3.heap.size (x.map vu8).toArray).setRow (w3.heap.size + 1) (y.map vu8).toArray) (w3.heap.size + 1) t y ∧
    Fr No w3 ((((w3.alloc (.cells z t)).alloc (.cells z t)).setRow w3.heap.size (x.map vu8).toArray).setRow (w3.heap.size + 1) (y.map vu8).toArray) := by
  have h1 : (((w3.alloc (.cells z t)).alloc (.cells z t)).setRow w3.heap.size (x.map vu8).toArray).heap[w3.heap.size]? = some (.cells (x.map vu8).toArray t (0, 0)) := setRow_heap _ _ _ _ _ _ (heap_alloc2_old w3 _ _)
  have h2 : (((w3.alloc (.cells z t)).alloc (.cells z t)).setRow w3.heap.size (x.map vu8).toArray).heap[w3.heap.size + 1]? = some (.cells z t (0, 0)) := by
    rw [setRow_other _ _ _ _ (by omega)]; exact heap_alloc2_new w3 _ _
  refine ⟨?_, setRow_heap _ _ _ _ _ _ h2, fr_setRow (fr_setRow (((Fr.refl _ _).alloc _).alloc _) (.inr (Nat.le_refl _)) _) (.inr (by omega)) _⟩
  unfold Bd
  rw [setRow_other _ _ _ _ (by omega)]
  exact h1
theorem walk_out (n : Int) (va vb : Value) (a b : List UInt8) (w : World) (ha : RdB w va a) (hb : RdB w vb b) (h : n < 0 ∨ (0 ≤ n ∧ 31 < n) ∨ (0 ≤ n ∧ n ≤ 31 ∧ 300 < a.length) ∨ (0 ≤ n ∧ n ≤ 31 ∧ a.length ≤ 300 ∧ 300 < b.length)) : Calls Try.prog 9 #[.int .i64 n, va, vb] w fun e w' => e = .returned (.bool true) ∧ Fr No w w' := by
  obtain ⟨A, c, rfl, _⟩ := id ha
  obtain ⟨A', c', rfl, _⟩ := id hb
  clear ha hb
  rcases h with h | ⟨h, h1⟩ | ⟨h, h1, h2⟩ | ⟨h, h1, h2, h3⟩
  all_goals
    go_enter Try.func9, Try.ntmps9
    go_wp2_with fail
    refine (known_calls w).mono ?_
    rintro e w1 ⟨rfl, hf⟩
    have F1 := Aside0.mk hf; clear hf
    go_wp2
    go_ret
    exact ⟨rfl, F1.out⟩
set_option maxHeartbeats 4000000 in
set_option maxRecDepth 100000 in
theorem walk_ok (n : Nat) (va vb : Value) (a b : List UInt8) (w : World) (ha : RdB w va a) (hb : RdB w vb b) (hn : n ≤ 31) (hal : a.length ≤ 300) (hbl : b.length ≤ 300) : Calls Try.prog 9 #[.int .i64 (n : Int), va, vb] w fun e w' => e = .returned (.bool true) ∧ Fr No w w' := by
  obtain ⟨A, c, rfl, _⟩ := id ha
  obtain ⟨A', c', rfl, _⟩ := id hb
  have HA := Aside0.mk ha; have HB := Aside0.mk hb
  clear ha hb
  have hnI : (n : Int) ≤ 31 := by omega
  go_enter Try.func9, Try.ntmps9
  go_wp2_with fail
  refine (known_calls w).mono ?_
  rintro e w1 ⟨rfl, hf⟩
  have F1 := Aside0.mk hf; clear hf
  go_wp2_with fail
  refine (cut_calls n _ a _ (HA.out.no F1.out) (by omega) (by omega) (by omega)).mono ?_
  rintro e w2 ⟨rfl, hf2⟩
  have F2 : Aside0 (Fr No w w2) := ⟨F1.out.none hf2⟩
  clear hf2
  go_wp2_with fail
  refine (cut_calls ((n : Int) + 1) _ a _ (HA.out.no F2.out) (by omega) (by omega) (by omega)).mono ?_
  rintro e w3 ⟨rfl, hf3⟩
  have F3 : Aside0 (Fr No w w3) := ⟨F2.out.none hf3⟩
  clear hf3
  obtain ⟨x, hx⟩ : ∃ x, cut (n : Int) a = x := ⟨_, rfl⟩
  obtain ⟨y, hy⟩ : ∃ y, cut ((n : Int) + 1) a = y := ⟨_, rfl⟩
  have hxl : x.length = 32 := by rw [← hx]; exact cut_length _ _
  have hyl : y.length = 32 := by rw [← hy]; exact cut_length _ _
  have hyx : y.set n 0 = x := by rw [← hx, ← hy]; exact cut_set n hn a
  rw [hx, hy]
  have HX := Aside0.mk hx; have HY := Aside0.mk hy; have HXL := Aside0.mk hxl; have HYL := Aside0.mk hyl; have HYX := Aside0.mk hyx
  clear hx hy hxl hyl hyx
  go_upto_region 6 with (first
    | (refine PB.stRow (.tmp 7) (.tmp 29) 34 w3.heap.size 34 _ (x.map vu8).toArray rfl rfl rfl rfl (blk_alloc (heap_alloc_new w3 _) _) (by rw [show (x.map vu8).toArray.size = 32 by simp [HXL.out]]; kernel_rfl) (by simp [HXL.out]) (by rw [Array.all_eq_true]; intro i hi; simp [Value.oneCell']) ?_)
    | (refine PB.stRow (.tmp 8) (.tmp 33) 34 (w3.heap.size + 1) 34 _ (y.map vu8).toArray rfl rfl rfl rfl (by rw [setRow_other _ _ _ _ (by omega)]; exact heap_alloc2_new w3 _ _) (by rw [show (y.map vu8).toArray.size = 32 by simp [HYL.out]]; kernel_rfl) (by simp [HYL.out]) (by rw [Array.all_eq_true]; intro i hi; simp [Value.oneCell']) ?_))
  obtain ⟨g7, g8, fw⟩ := two_rows w3 ((List.replicate 32 (0 : UInt8)).map vu8).toArray x y 34
  have G7 := Aside0.mk g7; have G8 := Aside0.mk g8; have FW := Aside0.mk (F3.out.none fw)
  clear g7 g8 fw
  go_simp
  change Code.wp _ _ _ _ ((((w3.alloc (.cells ((List.replicate 32 (0 : UInt8)).map vu8).toArray 34)).alloc (.cells ((List.replicate 32 (0 : UInt8)).map vu8).toArray 34)).setRow w3.heap.size (x.map vu8).toArray).setRow (w3.heap.size + 1) (y.map vu8).toArray)
  generalize (((w3.alloc (.cells ((List.replicate 32 (0 : UInt8)).map vu8).toArray 34)).alloc (.cells ((List.replicate 32 (0 : UInt8)).map vu8).toArray 34)).setRow w3.heap.size (x.map vu8).toArray).setRow (w3.heap.size + 1) (y.map vu8).toArray = w5 at G7 G8 FW ⊢
  have c8 := G8.out.cell n (by rw [HYL.out]; omega)
  have f8 := G8.out.frozen n
  have hw3 := F3.out.size
  have D8 : Aside0 (Bd (w5.setCell ⟨w3.heap.size + 1, n, none⟩ (vu8 0)) (w3.heap.size + 1) 34 x) := ⟨by
    have h := G8.out.set n 0
    rw [HYX.out] at h
    exact h⟩
  have D7 : Aside0 (Bd (w5.setCell ⟨w3.heap.size + 1, n, none⟩ (vu8 0)) w3.heap.size 34 x) := ⟨G7.out.fr (fr_one_set w5 (w3.heap.size + 1) n _) (fun e => by have e' : w3.heap.size = w3.heap.size + 1 := e; omega)⟩
  have FD : Aside0 (Fr No w (w5.setCell ⟨w3.heap.size + 1, n, none⟩ (vu8 0))) := ⟨FW.out.setCell (p := ⟨w3.heap.size + 1, n, none⟩) (.inr (by show w.heap.size ≤ w3.heap.size + 1; omega)) _⟩
  clear G7 G8 FW
  go_upto_region 7 with (fail)
  change Code.wp _ _ _ _ (w5.setCell ⟨w3.heap.size + 1, n, none⟩ (vu8 0))
  generalize w5.setCell ⟨w3.heap.size + 1, n, none⟩ (vu8 0) = w6 at D7 D8 FD ⊢
  clear c8 f8
  have qe := fun W => Arr.run_eql Try.underlying34 W x x HXL.out HXL.out
  have qg := fun p q W => run_eqGuard_agg (P := Try.prog) W .eql 34 p q (x.map vu8).toArray (x.map vu8).toArray (by kernel_rfl)
  unfold Arr.av at qe
  go_wp2_with (first
    | (refine PB.ldRow (.tmp 7) 34 w3.heap.size 34 (x.map vu8).toArray (0, 0) _ rfl rfl rfl D7.out Try.underlying34 ⟨_, _, rfl⟩ (by rw [show (x.map vu8).toArray.size = 32 by simp [HXL.out]]; kernel_rfl) ?_)
    | (refine PB.ldRow (.tmp 8) 34 (w3.heap.size + 1) 34 (x.map vu8).toArray (0, 0) _ rfl rfl rfl D8.out Try.underlying34 ⟨_, _, rfl⟩ (by rw [show (x.map vu8).toArray.size = 32 by simp [HXL.out]]; kernel_rfl) ?_))
  clear qe qg
  refine (cut_calls 0 _ a _ (HA.out.no FD.out) (by omega) (by omega) (by omega)).mono ?_
  rintro e w7 ⟨rfl, hf7⟩
  have F7 : Aside0 (Fr No w w7) := ⟨FD.out.none hf7⟩
  clear hf7
  obtain ⟨z, hz⟩ : ∃ z, List.replicate 32 (0 : UInt8) = z := ⟨_, rfl⟩
  have hzl : z.length = 32 := by rw [← hz]; rfl
  rw [cut_zero, hz]
  have HZ := Aside0.mk hz; have HZL := Aside0.mk hzl
  clear hz hzl
  go_wp2_with fail
  refine (cut_calls 0 _ b _ (HB.out.no F7.out) (by omega) (by omega) (by omega)).mono ?_
  rintro e w8 ⟨rfl, hf8⟩
  have F8 : Aside0 (Fr No w w8) := ⟨F7.out.none hf8⟩
  clear hf8
  rw [cut_zero, HZ.out]
  have qe := fun W => Arr.run_eql Try.underlying34 W z z HZL.out HZL.out
  have qg := fun p q W => run_eqGuard_agg (P := Try.prog) W .eql 34 p q (z.map vu8).toArray (z.map vu8).toArray (by kernel_rfl)
  unfold Arr.av at qe ⊢
  go_wp2_with fail
  clear qe qg
  refine (cut_calls 32 _ a _ (HA.out.no F8.out) (by omega) (by omega) (by omega)).mono ?_
  rintro e w9 ⟨rfl, hf9⟩
  have F9 : Aside0 (Fr No w w9) := ⟨F8.out.none hf9⟩
  clear hf9
  rw [cut_all]
  go_wp2_with fail
  refine (of_calls _ [a] _ (rdV_one' _ _ rfl A _ c a (HA.out.no F9.out) _) (by simp; omega)).mono ?_
  rintro e w10 ⟨rfl, hf10⟩
  have F10 : Aside0 (Fr No w w10) := ⟨(F9.out.alloc _).none hf10⟩
  clear hf10
  rw [show [a].flatten = a by simp]
  have qe := fun W => Arr.run_eql Try.underlying34 W (sha a) (sha a) (sha_length _) (sha_length _)
  have qg := fun p q W => run_eqGuard_agg (P := Try.prog) W .eql 34 p q ((sha a).map vu8).toArray ((sha a).map vu8).toArray (by kernel_rfl)
  unfold Arr.av at qe ⊢
  go_wp2
  go_ret
  exact ⟨rfl, F10.out⟩
theorem walk (n : Int) (va : Value) (a : List UInt8) (vb : Value) (b : List UInt8) (w : World) (hn : (Lit.int .i64 n).wf = true) (ha : RdB w va a ∧ a.length ≤ reach) (hb : RdB w vb b ∧ b.length ≤ reach) : Calls Try.prog 9 #[.int .i64 n, va, vb] w fun e w' => e = .returned (.bool true) ∧ Fr No w w' := by
  by_cases h : n < 0 ∨ (0 ≤ n ∧ 31 < n) ∨ (0 ≤ n ∧ n ≤ 31 ∧ 300 < a.length) ∨ (0 ≤ n ∧ n ≤ 31 ∧ a.length ≤ 300 ∧ 300 < b.length)
  · exact walk_out n va vb a b w ha.1 hb.1 h
  · obtain ⟨k, rfl⟩ := Int.eq_ofNat_of_zero_le (show 0 ≤ n by omega)
    exact walk_ok k va vb a b w ha.1 hb.1 (by omega) (by omega) (by omega)
end Go.Proofs.Ytdicjcpcohclaaa.LSumNested
