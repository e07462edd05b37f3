/- block.Count, the document's Count and Piece, Span: walked. -/
import Derived.Test.YtinjkebhamhenaaSpecBlk
import Derived.Test.YtinjkebhamhenaaWeak
import Derived.Test.YtinjkebhamhenaaRegion
set_option linter.unusedVariables false
set_option linter.unusedSimpArgs false
namespace Go.Proofs.Ytinjkebhamhenaa.Blk
open Go.RowKit Go.IntWalk Go.Proofs.YtinjkebhamhenaaW.PrintWords Go.Proofs.Ytinjkebhamhenaa.B Go.Proofs.Ytinjkebhamhenaa.PB Go.Proofs.Ytinjkebhamhenaa.SWeak Go.Proofs.Ytinjkebhamhenaa.Bk Go.Proofs.Ytinjkebhamhenaa.SBlk
attribute [local go_sem] B.max2_int B.min2_int B.max_two B.min_two

theorem div_facts (n s : Int) (h1 : 1 ≤ s) (h2 : 0 ≤ n) (h3 : n ≤ 9223372036854775807) : 0 ≤ n / s ∧ n / s ≤ n ∧ 0 ≤ n % s ∧ n % s < s ∧ (n % s ≠ 0 → n / s + 1 ≤ 9223372036854775807) := by
  have a := Int.ediv_nonneg h2 (by omega : 0 ≤ s)
  have b := Int.ediv_le_self s h2
  have c := Int.emod_nonneg n (by omega : s ≠ 0)
  have d := Int.emod_lt_of_pos n (by omega : 0 < s)
  refine ⟨a, b, c, d, fun hne => ?_⟩
  have e := Int.mul_ediv_add_emod n s
  by_cases hs : s = 1
  · subst hs; omega
  · have : 2 * (n / s) ≤ s * (n / s) := Int.mul_le_mul_of_nonneg_right (by omega) a
    omega

set_option maxHeartbeats 1000000 in
theorem count_calls (n s : Int) (w : World) (h1 : n ≤ 9223372036854775807) (h2 : s ≤ 9223372036854775807) : Calls Try.prog 21 #[.int .i64 n, .int .i64 s] w fun e w' => e = .returned (.int .i64 (countI n s)) ∧ w = w' := by
  by_cases hs : s < 1
  · have e : countI n s = 0 := by unfold countI; rw [if_pos (.inl hs)]
    rw [e]
    go_enter Try.func21, Try.ntmps21
    go_wp2
    go_ret
    exact ⟨rfl, rfl⟩
  by_cases hn : n < 0
  · have e : countI n s = 0 := by unfold countI; rw [if_pos (.inr hn)]
    rw [e]
    go_enter Try.func21, Try.ntmps21
    go_wp2
    go_ret
    exact ⟨rfl, rfl⟩
  obtain ⟨q1, q2, q3, q4, q5⟩ := div_facts n s (by omega) (by omega) h1
  have hs' : ¬ s < 1 := hs
  have hn' : 0 ≤ n := by omega
  have hs1 : 1 ≤ s := by omega
  by_cases h0 : n % s = 0
  · have e : countI n s = n / s := by unfold countI; rw [if_neg (by omega), if_pos h0]
    rw [e]
    have h0I : ¬ 0 < n % s := by omega
    clear h0
    go_enter Try.func21, Try.ntmps21
    go_wp2
    go_ret
    exact ⟨rfl, rfl⟩
  · have e : countI n s = n / s + 1 := by unfold countI; rw [if_neg (by omega), if_neg h0]
    rw [e]
    have h0I : 0 < n % s := by omega
    have q6 := q5 h0
    clear h0 q5
    go_enter Try.func21, Try.ntmps21
    go_wp2
    go_ret
    exact ⟨rfl, rfl⟩

set_option maxHeartbeats 1000000 in
theorem refCount_calls (n s : Int) (w : World) (h1 : n ≤ 9223372036854775807) (h2 : s ≤ 9223372036854775807) : Calls Try.prog 22 #[.int .i64 n, .int .i64 s] w fun e w' => e = .returned (.int .i64 (countI n s)) ∧ w = w' := by
  by_cases hs : s < 1
  · have e : countI n s = 0 := by unfold countI; rw [if_pos (.inl hs)]
    rw [e]
    go_enter Try.func22, Try.ntmps22
    go_wp2
    go_ret
    exact ⟨rfl, rfl⟩
  by_cases hn : n < 0
  · have e : countI n s = 0 := by unfold countI; rw [if_pos (.inr hn)]
    rw [e]
    go_enter Try.func22, Try.ntmps22
    go_wp2
    go_ret
    exact ⟨rfl, rfl⟩
  obtain ⟨q1, q2, q3, q4, q5⟩ := div_facts n s (by omega) (by omega) h1
  have hs' : ¬ s < 1 := hs
  have hn' : 0 ≤ n := by omega
  have hs1 : 1 ≤ s := by omega
  by_cases h0 : n % s = 0
  · have e : countI n s = n / s := by unfold countI; rw [if_neg (by omega), if_pos h0]
    rw [e]
    have h0I : (n % s == 0) = true := by rw [h0]; rfl
    clear h0
    go_enter Try.func22, Try.ntmps22
    go_wp2
    go_ret
    exact ⟨rfl, rfl⟩
  · have e : countI n s = n / s + 1 := by unfold countI; rw [if_neg (by omega), if_neg h0]
    rw [e]
    have h0I : (n % s == 0) = false := by rw [beq_eq_false_iff_ne]; exact h0
    have q6 := q5 h0
    clear h0 q5
    go_enter Try.func22, Try.ntmps22
    go_wp2
    go_ret
    exact ⟨rfl, rfl⟩

set_option maxHeartbeats 1000000 in
set_option maxRecDepth 100000 in
/-- The document's i-th block of a text. -/
theorem piece_calls (d : List UInt8) (s i : Nat) (w : World) (hd : d.length ≤ 4611686018427387904) (hs : s ≤ 9223372036854775807) (hi : i * s < d.length) : Calls Try.prog 28 #[.string (bstr d), .int .i64 s, .int .i64 i] w fun e w' => e = .returned (.string (bstr (piece s d i))) ∧ w = w' := by
  obtain ⟨m, hm⟩ : ∃ m, i * s = m := ⟨_, rfl⟩
  have hmI : (i : Int) * (s : Int) = (m : Int) := by rw [← hm]; exact (Int.natCast_mul i s).symm
  have e : piece s d i = (d.drop m).take s := by unfold piece; rw [hm]
  rw [e]
  rw [hm] at hi
  clear e hm
  have hwm : wrap64 (m : Int) = (m : Int) := wrap64_in _ (by omega)
  have hsz : (bstr d).size = d.length := bstr_size d
  by_cases h : d.length - m < s
  · have hI : (d.length : Int) - (m : Int) < (s : Int) := by omega
    have et : (d.drop m).take s = d.drop m := List.take_of_length_le (by rw [List.length_drop]; omega)
    rw [et]
    clear hsz
    go_enter Try.func28, Try.ntmps28
    go_wp2
    go_ret
    exact ⟨rfl, rfl⟩
  · have hI : ¬ (d.length : Int) - (m : Int) < (s : Int) := by omega
    have hcut : ∀ W : World, (Instr.slice 9 (.string (bstr d)) (some (.int .i64 (m : Int))) (some (.int .i64 ((m : Int) + (s : Int)))) none).run Try.prog W = .ok (.string (bstr ((d.drop m).take s))) W := fun W => by
      rw [run_slice_string W 9 (bstr d) .i64 .i64 _ _ Try.underlying9 (by omega) (by omega) (by rw [bstr_size]; omega), bstr_extract, show ((m : Int) + (s : Int)).toNat = m + s by omega, Int.toNat_natCast, List.drop_take, Nat.add_sub_cancel_left]
    clear hsz
    go_enter Try.func28, Try.ntmps28
    go_wp2
    go_ret
    exact ⟨rfl, rfl⟩

/-- Signatures' values. -/
abbrev sgC (size cut len : Int) (v : Value) : Array Value := #[.int .i64 size, .int .i64 cut, .int .i64 len, v]
set_option maxHeartbeats 1000000 in
set_option maxRecDepth 100000 in
theorem span_out_calls (size cut len i : Int) (A : Option Addr) (n c : Nat) (w : World) (h : i < 0 ∨ (n : Int) ≤ i) : Calls Try.prog 18 #[.agg (sgC size cut len (.slice A n c)), .int .i64 i] w fun e w' => e = .returned (.tuple #[.int .i64 0, .int .i64 0]) ∧ Fr No w w' := by
  have hc : i < 0 ∨ (¬ i < 0 ∧ (n : Int) ≤ i) := by omega
  clear h
  rcases hc with h | ⟨h1, h2⟩
  all_goals
    go_enter Try.func18, Try.ntmps18
    go_wp2
    (try simp only [Exit.inBlock, Exit.then]); refine bodyPost_ret (results_list (rs := [.tmp 4, .tmp 5]) rfl (by simp) (.tmp (.tmp .nil))) rfl ?_
    exact ⟨rfl, (Fr.refl _ _).alloc _⟩
set_option maxHeartbeats 1000000 in
set_option maxRecDepth 100000 in
theorem span_calls (s i L : Nat) (cut : Int) (A : Option Addr) (n c : Nat) (w : World) (hi : i < n) (hL : L ≤ 9223372036854775807) (hs : s ≤ 4096) (hsL : i * s < L) : Calls Try.prog 18 #[.agg (sgC s cut L (.slice A n c)), .int .i64 i] w fun e w' => e = .returned (.tuple #[.int .i64 ((i * s : Nat) : Int), .int .i64 ((min s (L - i * s) : Nat) : Int)]) ∧ Fr No w w' := by
  obtain ⟨m, hm⟩ : ∃ m, i * s = m := ⟨_, rfl⟩
  have hmI : (i : Int) * (s : Int) = (m : Int) := by rw [← hm]; exact (Int.natCast_mul i s).symm
  rw [hm] at hsL ⊢
  clear hm
  obtain ⟨k, hk⟩ : ∃ k, min s (L - m) = k := ⟨_, rfl⟩
  rw [hk]
  have hkI : (if (L : Int) - (m : Int) < (s : Int) then (L : Int) - (m : Int) else (s : Int)) = (k : Int) := by split <;> omega
  have h1 : ¬ (i : Int) < 0 := by omega
  have h2 : ¬ (n : Int) ≤ (i : Int) := by omega
  have hw1 : IntKind.i64.wrap (m : Int) = (m : Int) := by rw [i64_left]; exact wrap64_in _ (by omega)
  have hw2 : IntKind.i64.wrap ((L : Int) - (m : Int)) = (L : Int) - (m : Int) := by rw [i64_left]; exact wrap64_in _ (by omega)
  have HKI := Aside0.mk hkI; have HW1 := Aside0.mk hw1; have HW2 := Aside0.mk hw2
  clear hk hkI hw1 hw2
  go_enter Try.func18, Try.ntmps18
  go_wp2
  have hw1 := HW1.out; have hw2 := HW2.out; have hkI := HKI.out
  have hb := heap_alloc_new w (.cells (sgC s cut L (.slice A n c)) 26)
  have F1 : Aside0 (Fr No w (w.alloc (.cells (sgC s cut L (.slice A n c)) 26))) := ⟨(Fr.refl _ _).alloc _⟩
  change Code.wp _ _ _ _ (w.alloc (.cells (sgC s cut L (.slice A n c)) 26))
  generalize w.alloc (.cells (sgC s cut L (.slice A n c)) 26) = w1 at hb F1 ⊢
  have c0 : w1.cell? ⟨w.heap.size, 0, Option.none⟩ = some (.int .i64 s) := by rw [blk_cell hb]; rfl
  have c2 : w1.cell? ⟨w.heap.size, 2, Option.none⟩ = some (.int .i64 L) := by rw [blk_cell hb]; rfl
  clear hb
  refine Rg.start (fun _ x => Fr No w1 x) (by kernel_rfl) (by kernel_rfl) [] [] (by kernel_rfl) (.q 0 0 (.q 1 0 (.q 2 0 (.q 3 0 (.q 4 0 (.q 5 0 (.q 6 0 (.q 7 0 (.q 8 0 (.q 9 0 (.q 10 0 (.q 11 0 (.q 12 0 (.q 13 0 (.q 14 0 (.q 15 0 (.done))))))))))))))))) (by kernel_rfl) ?_ ?_
  · exact fun _ => (Fr.refl _ _).drew
  repeat (first
    | (refine Rg.q (o := ?_) (v := ?_) ?_ ?_ ?_ ?_ ?_
       rotate_left 2
       · (simp only [List.getElem?_toArray, List.getElem?_cons_succ, List.getElem?_cons_zero]; rfl)
       · exact fun _ _ _ h => h
       · first | rfl | (go_simp; done)
       · (intro x_ hx; (try dsimp only at hx); (have q1 := hx.cell c0 id; have q2 := hx.cell c2 id); go_simp; (try rw [if_neg (by omega)]); (try rw [if_pos (by omega)]); (try go_simp); try with_reducible rfl)
       try simp only [Act.put, List.setIfInBounds_toArray, List.set_cons_zero, List.set_cons_succ])
    | (refine Rg.skip (o := ?_) ?_ ?_ ?_ ?_
       rotate_left 1
       · (simp only [List.getElem?_toArray, List.getElem?_cons_succ, List.getElem?_cons_zero]; rfl)
       · exact fun _ _ _ h => h
       · first | rfl | (go_simp; done)
       try simp only [Act.put, List.setIfInBounds_toArray, List.set_cons_zero, List.set_cons_succ]))
  refine Rg.done ?_
  go_simp
  go_wp2
  (try simp only [Exit.inBlock, Exit.then]); refine bodyPost_ret (results_list (rs := [.tmp 4, .tmp 5]) rfl (by simp) (.tmp (.tmp .nil))) rfl ?_
  exact ⟨rfl, F1.out.drew⟩

set_option maxHeartbeats 1000000 in
set_option maxRecDepth 100000 in
/-- A block's sums. -/
theorem of_calls (v : Value) (p : List UInt8) (cut : Int) (w : World) (hv : RdB w v p) (hl : p.length ≤ 100000000) (h1 : -9223372036854775808 ≤ cut) (h2 : cut ≤ 9223372036854775807) : Calls Try.prog 27 #[v, .int .i64 cut] w fun e w' => e = .returned (.agg (bkC .u32 (sums cut p))) ∧ Fr No w w' := by
  have HV := Aside0.mk hv
  clear hv
  go_enter Try.func27, Try.ntmps27
  go_wp2_with fail
  change Calls _ _ _ (w.alloc (.cells (bkC .u32 zBK) 55)) _
  have hz := heap_alloc_new w (.cells (bkC .u32 zBK) 55)
  have F0 : Aside0 (Fr No w (w.alloc (.cells (bkC .u32 zBK) 55))) := ⟨(Fr.refl _ _).alloc _⟩
  generalize w.alloc (.cells (bkC .u32 zBK) 55) = w0 at hz F0 ⊢
  have HZ := Aside0.mk hz
  clear hz
  refine (Wk.of_calls v p w0 (HV.out.no F0.out) (by omega)).mono ?_
  rintro e w1 ⟨rfl, hf⟩
  have F1 : Aside0 (Fr No w0 w1) := ⟨hf⟩
  clear hf
  go_wp2_with fail
  refine (Wk.value_calls p w1).mono ?_
  rintro e w2 ⟨rfl, hf⟩
  have F2 : Aside0 (Fr No w0 w2) := ⟨F1.out.none hf⟩
  clear hf
  go_wp2_with fail
  refine (Sha.cut_calls cut v p w2 ((HV.out.no F0.out).no F2.out) hl h1 h2).mono ?_
  rintro e w3 ⟨rfl, hf⟩
  have F3 : Aside0 (Fr No w0 w3) := ⟨F2.out.none hf⟩
  clear hf
  have hz3 := F3.out.heap HZ.out id
  go_wp2_with (first
    | (refine lsX rfl (ex_build (buildP (sums cut p) w3) rfl rfl) ?_)
    | (refine PB.stRow (.tmp 4) (.tmp 11) 55 w.heap.size 55 _ (bkC .u32 (sums cut p)) rfl rfl rfl rfl hz3 (by rw [bkC_size]; kernel_rfl) (by rw [bkC_size, bkC_size]) (bkC_one _ _) ?_))
  (try simp only [Exit.inBlock, Exit.then]); refine bodyPost_ret (results_single (r := .cell 4 55) rfl (.cell w.heap.size 55 (bkC .u32 (sums cut p)) (0, 0) _ rfl (setRow_heap _ _ _ _ _ _ hz3) Try.underlying55 rfl (by rw [bkC_size]; kernel_rfl) .nil)) rfl ?_
  exact ⟨rfl, fr_setRow (F0.out.none F3.out) (.inr (Nat.le_refl _)) _⟩
end Go.Proofs.Ytinjkebhamhenaa.Blk
