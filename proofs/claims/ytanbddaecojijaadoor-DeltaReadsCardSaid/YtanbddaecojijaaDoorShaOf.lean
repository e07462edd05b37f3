/- The program's sum of parts. -/
import Derived.Test.YtanbddaecojijaaDoorShaB
import Derived.Test.YtanbddaecojijaaDoorQ
import Derived.Test.YtanbddaecojijaaDoorRowS
import Derived.Test.YtanbddaecojijaaDoorVs
import Derived.Test.YtanbddaecojijaaDoorBd
set_option linter.unusedVariables false
set_option linter.unusedSimpArgs false
namespace Go.Proofs.YtanbddaecojijaaDoor.Sha
open Go.RowKit Go.Proofs.YtanbddaecojijaaDoorW.PrintWords Go.Proofs.YtanbddaecojijaaDoor.B Go.Proofs.YtanbddaecojijaaDoor.PB

set_option maxHeartbeats 4000000 in
set_option maxRecDepth 100000 in
theorem words_calls (w : World) : Calls Tryd.prog 75 #[] w fun e w' => e = .returned (.agg (K.map vu32).toArray) ∧ Fr No w w' := by
  go_enter Tryd.func75, Tryd.ntmps75
  go_wp2_with (first
    | (refine stepB (.agg (K.map vu32).toArray) _ _ rfl rfl (by kernel_rfl) ?_)
    | (refine PB.stRow (.tmp 0) (.tmp 1) 175 w.heap.size 175 _ (K.map vu32).toArray rfl rfl rfl rfl (heap_alloc_new w _) (by kernel_rfl) (by kernel_rfl) (by kernel_rfl) ?_))
  rw [World.setRow_alloc_new]
  refine bodyPost_ret (results_cell_row (P := Tryd.prog) (fn := Tryd.f75) (p := 0) (ty := 175) rfl _ _ w.heap.size 175 (K.map vu32).toArray (0, 0) _ rfl (heap_alloc_new w _) Tryd.underlying175 rfl (by kernel_rfl)) rfl ⟨rfl, (Fr.refl _ _).alloc _⟩
/-- Where the sum of parts stands: b blocks have been taken in of the bytes m. -/
def OfSt (w : World) (gh gk : Nat) (wr : World) (v : Value) (m : List UInt8) (b : Nat) : Prop :=
  64 * b ≤ m.length ∧ Oq w.heap.size wr v (m.drop (64 * b)) ∧ Wd wr gh 174 (run b (St.of H0) m).list ∧ Wd wr gk 175 K ∧ Fr No w wr ∧
    (∃ cs, wr.heap[w.heap.size]? = some (.cells cs 57 (0, 0)) ∧ cs.size = 32)
section
variable {w wr w' : World} {gh gk : Nat} {v : Value} {m : List UInt8} {b : Nat}
theorem OfSt.noo (h : OfSt w gh gk wr v m b) (k : Fr No wr w') : OfSt w gh gk w' v m b := by
  obtain ⟨h1, h2, h3, h4, h5, cs, h6, h7⟩ := h
  exact ⟨h1, h2.no k, h3.fr k id, h4.fr k id, h5.none k, cs, k.heap h6 id, h7⟩
set_option maxRecDepth 100000 in
theorem OfSt.block (h : OfSt w gh gk wr v m b) (hl : 64 * (b + 1) ≤ m.length) (hg : w.heap.size < gh) (hW : Wd w' gh 174 (block (run b (St.of H0) m) ((m.drop (64 * b)).take 64)).list) (hF : Fr (one gh) wr w') :
    ∃ v', (∀ W : World, (Instr.slice 22 v (some (.int .i64 64)) none none).run Tryd.prog W = .ok v' W) ∧ OfSt w gh gk w' v' m (b + 1) := by
  obtain ⟨h1, h2, h3, h4, h5, cs, h6, h7⟩ := h
  have h2' : Oq w.heap.size w' v (m.drop (64 * b)) := h2.fr hF (fun k hk e => h2.apart h3 (by decide) k hk e)
  obtain ⟨v', hr, hq, _⟩ := h2'.cut 64 (by rw [List.length_drop]; omega)
  have hne : gk ≠ gh := (blk_ne h4 h3 (by decide))
  refine ⟨v', hr, hl, ?_, by rw [run_next]; exact hW, h4.fr hF hne, h5.trans hF (fun k hk e => by have e' : k = gh := e; omega), cs, hF.heap h6 (fun e => by have e' : w.heap.size = gh := e; omega), h7⟩
  rw [List.drop_drop, show 64 * b + 64 = 64 * (b + 1) by omega] at hq
  exact hq
set_option maxRecDepth 100000 in
theorem OfSt.app {v1 : Value} {p : List UInt8} (h : OfSt w gh gk wr v m b) (hq : Oq w.heap.size w' v1 (m.drop (64 * b) ++ p)) (hF : Fr (blk v) wr w') : OfSt w gh gk w' v1 (m ++ p) b := by
  obtain ⟨h1, h2, h3, h4, h5, cs, h6, h7⟩ := h
  refine ⟨by rw [List.length_append]; omega, by rw [List.drop_append_of_le_length h1]; exact hq, ?_, h4.fr hF (fun e => h2.apart h4 (by decide) _ e rfl), ?_, cs, hF.heap h6 (fun e => h2.apart h6 (by decide) _ e rfl), h7⟩
  · rw [run_front b _ _ _ h1]
    exact h3.fr hF (fun e => h2.apart h3 (by decide) _ e rfl)
  · exact h5.trans hF (fun k hk e => by have := h2.base k e; omega)
end
def lenV : Value → Nat
  | .slice _ n _ => n
  | _ => 0

set_option maxHeartbeats 8000000 in
set_option maxRecDepth 100000 in
theorem of_calls (vp : Value) (ps : List (List UInt8)) (w : World) (hp : RdV w vp ps) (hn : ps.flatten.length ≤ 100000000) : Calls Tryd.prog 70 #[vp] w fun e w' => e = .returned (Arr.av (sha ps.flatten)) ∧ Fr No w w' := by
  obtain ⟨A, c, rfl, hpc⟩ := hp.form
  have hpl := hp.len_le
  have HP := Aside0.mk hp
  clear hp
  go_enter Tryd.func70, Tryd.ntmps70
  go_wp2_with (first
    | (go_at_call 75; refine (words_calls _).mono ?_; rintro e wk ⟨rfl, hk⟩)
    | (refine PB.stRow (.tmp 4) (.tmp 13) 175 wk.heap.size 175 _ (K.map vu32).toArray rfl rfl rfl rfl (heap_alloc_new wk _) (by kernel_rfl) (by kernel_rfl) (by kernel_rfl) ?_))
  rw [World.setRow_alloc_new]
  have hkn : Fr No wk (wk.alloc (.cells (K.map vu32).toArray 175)) := (Fr.refl _ _).alloc _
  have S0 : Aside0 (OfSt w (w.heap.size + 1) wk.heap.size (wk.alloc (.cells (K.map vu32).toArray 175)) (.slice Option.none 0 0) [] 0) := ⟨by
    refine ⟨by simp, by simpa using Oq.nil _ _, (hk.none hkn).heap (heap_alloc2_new w _ _) id, heap_alloc_new wk _, ?_, _, (hk.none hkn).heap (heap_alloc2_old w _ _) id, rfl⟩
    exact (((Fr.refl _ _).alloc _).alloc _).none (hk.none hkn)⟩
  generalize hgk : wk.heap.size = gk at S0 ⊢
  generalize hw0 : wk.alloc _ = w0 at S0 ⊢
  clear hkn hk hgk hw0
  go_loopw [5, 6, 16] (fun v5 v6 v16 wr => ∃ (j b : Nat), v16 = .int .i64 j ∧ j ≤ ps.length ∧ v6 = .int .i64 ((ps.take j).flatten.length : Nat) ∧ Aside0 (OfSt w (w.heap.size + 1) gk wr v5 (ps.take j).flatten b)) (fun _ _ v16 _ => ps.length - (intOf v16).toNat)
  case atStart => exact ⟨0, 0, rfl, by omega, rfl, by simpa using S0⟩
  case round =>
    obtain ⟨j, b, rfl, hj, rfl, HS⟩ := hrel
    clear S0
    obtain ⟨m, hm⟩ : ∃ m, (ps.take j).flatten = m := ⟨_, rfl⟩
    rw [hm] at HS ⊢
    have HM := Aside0.mk hm
    by_cases hlt : j < ps.length
    · have hJ : (j : Int) < (ps.length : Int) := by omega
      obtain ⟨p, hpp⟩ : ∃ p, ps.getD j [] = p := ⟨_, rfl⟩
      have hmp : (ps.take (j + 1)).flatten = m ++ p := by
        rw [List.take_succ_eq_append_getElem hlt, List.flatten_append, hm, ← hpp]
        simp [List.getD, hlt]
      have hsum : m.length + p.length ≤ 100000000 := by
        rw [← List.length_append, ← hmp]
        have h : (ps.take (j + 1)).flatten.length + (ps.drop (j + 1)).flatten.length = ps.flatten.length := by
          rw [← List.length_append, ← List.flatten_append, List.take_append_drop]
        omega
      clear hm
      obtain ⟨ad, A', c', rfl, hcell, hrd⟩ := (HP.out.no HS.out.2.2.2.2.1).at_ j hlt
      rw [hpp] at hcell hrd
      have HMP := Aside0.mk hmp; have HRD := Aside0.mk hrd
      clear hmp hrd hpp
      obtain ⟨A5, c5, rfl, hc5⟩ := HS.out.2.1.form
      have hb0 : 64 * b ≤ m.length := HS.out.1
      have hlen : (m.drop (64 * b)).length = m.length - 64 * b := List.length_drop
      have hln : (m.drop (64 * b)).length ≤ 100000000 := by omega
      go_wp2_with (at_builtin; refine apQs w.heap.size _ (m.drop (64 * b)) _ p rfl (.tmp 24) (.tmp 25) rfl rfl rfl HS.out.2.1 HRD.out (by omega) HS.out.2.2.2.2.1.size ?_; intro v1 w1 hq1 hF1)
      have S1 : Aside0 (OfSt w (w.heap.size + 1) gk w1 v1 (m ++ p) b) := ⟨HS.out.app hq1 hF1⟩
      have hmpl : (m ++ p).length ≤ 100000000 := by rw [List.length_append]; omega
      have hv6 : ((m.length : Int) + (p.length : Int)) = ((m ++ p).length : Int) := by rw [List.length_append]; omega
      rw [hv6]
      rw [← HMP.out] at S1 hmpl ⊢
      clear hv6 hsum hcell hln hlen hb0 hc5 HS HRD HMP hq1 hF1
      obtain ⟨M, hM⟩ : ∃ M, (ps.take (j + 1)).flatten = M := ⟨_, rfl⟩
      rw [hM] at S1 hmpl ⊢
      have HM2 := Aside0.mk hM
      clear hM
      go_loopw [5] (fun v5 wr => ∃ b : Nat, Aside0 (OfSt w (w.heap.size + 1) gk wr v5 M b)) (fun v5 _ => lenV v5)
      case atStart => exact ⟨b, S1⟩
      case round =>
        obtain ⟨b, HS⟩ := hrel
        clear S1
        obtain ⟨A5, c5, rfl, hc5⟩ := HS.out.2.1.form
        have hb0 : 64 * b ≤ M.length := HS.out.1
        obtain ⟨n, hnn⟩ : ∃ n, (M.drop (64 * b)).length = n := ⟨_, rfl⟩
        have hlen : M.length = 64 * b + n := by rw [← hnn, List.length_drop]; omega
        rw [hnn] at hc5 ⊢
        have HNN := Aside0.mk hnn; have HL := Aside0.mk hlen
        clear hnn hlen
        by_cases h64 : 64 ≤ n
        · have hI : (64 : Int) ≤ (n : Int) := by omega
          go_wp2_with fail
          refine (block_calls (run b (St.of H0) M) (w.heap.size + 1) gk (.slice A5 n c5) (M.drop (64 * b)) _ HS.out.2.2.1 HS.out.2.2.2.1 (by rw [← HNN.out]; exact HS.out.2.1.rd) (by rw [HNN.out]; exact h64)).mono ?_
          rintro e w2 ⟨rfl, hW2, hF2⟩
          have hs1 := HS.out
          rw [HNN.out] at hs1
          have hl1 := HL.out
          obtain ⟨v', hr, HS2⟩ := hs1.block (by omega) (by omega) hW2 hF2
          have HS3 := Aside0.mk HS2
          have hml : lenV v' < n := by
            obtain ⟨A6, c6, rfl, _⟩ := HS2.2.1.form
            simp only [lenV, List.length_drop]
            omega
          have HML := Aside0.mk hml
          clear hs1 HS2 hW2 hF2 hml hl1
          go_wp2
          go_roundw
          case rel => exact ⟨b + 1, HS3⟩
          case measure => exact HML.out
        · have hI : ¬ (64 : Int) ≤ (n : Int) := by omega
          have HS3 : Aside0 (OfSt w (w.heap.size + 1) gk wr (.slice A5 n c5) M b) := ⟨by have h := HS.out; rw [HNN.out] at h; exact h⟩
          go_wp2
          go_roundw
          case rel => exact ⟨j + 1, b, by go_num, by omega, by rw [HM2.out], by rw [HM2.out]; exact HS3⟩
          case measure => simp [intOf]; omega
    · have hJ : ¬ (j : Int) < (ps.length : Int) := by omega
      obtain rfl : j = ps.length := by omega
      rw [List.take_length] at hm
      have hml : m.length ≤ 100000000 := by rw [← hm]; exact hn
      have HM9 := Aside0.mk hm
      clear hm
      obtain ⟨A5, c5, rfl, hc5⟩ := HS.out.2.1.form
      have hb0 : 64 * b ≤ m.length := HS.out.1
      have hlen : (m.drop (64 * b)).length = m.length - 64 * b := List.length_drop
      have hln : (m.drop (64 * b)).length ≤ 100000000 := by omega
      go_wp2_with (at_builtin; refine apQ1 w.heap.size _ (m.drop (64 * b)) 128 128 rfl (.tmp 35) (.tmp 36) rfl rfl rfl (by decide) HS.out.2.1 (by omega) HS.out.2.2.2.2.1.size ?_; intro v1 w1 hq1 hF1)
      have S1 : Aside0 (OfSt w (w.heap.size + 1) gk w1 v1 (m ++ [128] ++ List.replicate 0 0) b) := ⟨by rw [List.replicate_zero, List.append_nil]; exact HS.out.app hq1 hF1⟩
      clear HS hq1 hF1 hlen hln hb0 hc5
      have hzl := zeros_lt m.length
      go_loopw [5] (fun v5 wr => ∃ z : Nat, z ≤ zeros m.length ∧ Aside0 (OfSt w (w.heap.size + 1) gk wr v5 (m ++ [128] ++ List.replicate z 0) b)) (fun v5 _ => m.length + 200 - lenV v5)
      case atStart => exact ⟨0, Nat.zero_le _, S1⟩
      case round =>
        obtain ⟨z, hz, HS⟩ := hrel
        clear S1
        obtain ⟨M, hM⟩ : ∃ M, m ++ [128] ++ List.replicate z 0 = M := ⟨_, rfl⟩
        have hMl : M.length = m.length + 1 + z := by rw [← hM]; simp; omega
        rw [hM] at HS
        obtain ⟨A5, c5, rfl, hc5⟩ := HS.out.2.1.form
        have hb0 : 64 * b ≤ M.length := HS.out.1
        obtain ⟨n, hnn⟩ : ∃ n, (M.drop (64 * b)).length = n := ⟨_, rfl⟩
        have hlen : m.length + 1 + z = 64 * b + n := by rw [← hnn, List.length_drop]; omega
        have hze := zeros_end m.length z hz
        rw [hnn] at hc5 HS ⊢
        have HNN := Aside0.mk hnn; have HL := Aside0.mk hlen; have HM3 := Aside0.mk hM
        by_cases hze2 : z = zeros m.length
        · have h56 : n % 64 = 56 := by
            have := hze.2 hze2
            omega
          have hI : ((n : Int) % 64 != 56) = false := by
            rw [show (n : Int) % 64 = ((n % 64 : Nat) : Int) from rfl, h56]; rfl
          have HZ := Aside0.mk hze2
          clear hze2 h56 hlen hnn hM hze hMl
          go_wp2_with fail
          have S1 : Aside0 (OfSt w (w.heap.size + 1) gk wr (.slice A5 n c5) (m ++ [128] ++ List.replicate (zeros m.length) 0 ++ (lenB m.length).take 0) b) := ⟨by
            rw [← HZ.out, HM3.out, List.take_zero, List.append_nil]
            exact HS.out⟩
          clear HS
          go_loopw [5, 9] (fun v5 v9 wr => ∃ t : Nat, v9 = .int .i64 (56 - 8 * (t : Int)) ∧ t ≤ 8 ∧ Aside0 (OfSt w (w.heap.size + 1) gk wr v5 (m ++ [128] ++ List.replicate (zeros m.length) 0 ++ (lenB m.length).take t) b)) (fun _ v9 _ => (intOf v9 + 8).toNat)
          case atStart => exact ⟨0, rfl, by omega, S1⟩
          case round =>
            obtain ⟨t, rfl, ht, HS⟩ := hrel
            clear S1
            obtain ⟨M, hM⟩ : ∃ M, m ++ [128] ++ List.replicate (zeros m.length) 0 ++ (lenB m.length).take t = M := ⟨_, rfl⟩
            have hMl : M.length = m.length + 1 + zeros m.length + t := by
              rw [← hM]; simp [lenB_len]; omega
            rw [hM] at HS
            obtain ⟨A5, c5, rfl, hc5⟩ := HS.out.2.1.form
            have hb0 : 64 * b ≤ M.length := HS.out.1
            obtain ⟨n, hnn⟩ : ∃ n, (M.drop (64 * b)).length = n := ⟨_, rfl⟩
            have hlen : m.length + 1 + zeros m.length + t = 64 * b + n := by rw [← hnn, List.length_drop]; omega
            rw [hnn] at hc5 HS ⊢
            have hn2 : n ≤ 200000000 := by omega
            have HNN := Aside0.mk hnn; have HL := Aside0.mk hlen; have HM4 := Aside0.mk hM
            have HN3 := Aside0.mk hnn
            clear hlen hnn hM hMl HM3 HNN HL
            by_cases ht8 : t < 8
            · obtain ⟨y, hy⟩ : ∃ y, (lenB m.length).getD t 0 = y := ⟨_, rfl⟩
              have hyt : (lenB m.length).take (t + 1) = (lenB m.length).take t ++ [y] := by
                rw [List.take_succ_eq_append_getElem (by rw [lenB_len]; exact ht8), ← hy]
                simp [List.getD, List.getElem?_eq_getElem (show t < (lenB m.length).length by rw [lenB_len]; exact ht8)]
              have HY := Aside0.mk hy; have HYT := Aside0.mk hyt
              clear hy hyt
              have hky := lenB_get m.length t ht8
              rw [HY.out] at hky
              have HKY := Aside0.mk hky
              clear hky
              have hmx : n + 1 ≤ 140737488355328 := by omega
              rcases (by omega : t = 0 ∨ t = 1 ∨ t = 2 ∨ t = 3 ∨ t = 4 ∨ t = 5 ∨ t = 6 ∨ t = 7) with rfl | rfl | rfl | rfl | rfl | rfl | rfl | rfl
              all_goals
                go_wp2_with (at_builtin; refine apQ1 w.heap.size _ (M.drop (64 * b)) y _ rfl (.tmp 49) (.tmp 56) rfl rfl rfl (by have hk := HKY.out; simp only [Nat.reduceMul, Nat.reduceSub, Nat.reducePow] at hk; omega) HS.out.2.1 (by rw [HN3.out]; exact hmx) HS.out.2.2.2.2.1.size ?_; intro v1 w1 hq1 hF1)
                have hsa := HS.out.app hq1 hF1
                rw [← HM4.out, List.append_assoc, ← HYT.out] at hsa
                have S1 := Aside0.mk hsa
                clear HS hq1 hF1 hsa
                go_roundw
                case rel => exact ⟨_, rfl, by omega, S1⟩
                case measure => simp [intOf]
            · obtain rfl : t = 8 := by omega
              have hMp : M = pad m := by
                rw [← HM4.out, List.take_of_length_le (by rw [lenB_len]; exact Nat.le_refl _)]
                rfl
              subst hMp
              have hpm := pad_length m
              have hpl2 : (pad m).length ≤ 200000000 := by omega
              have HPM := Aside0.mk hpm
              have S2 : Aside0 (OfSt w (w.heap.size + 1) gk wr (.slice A5 n c5) (pad m) b) := HS
              clear HS hpm HM4 HZ
              rw [show (56 : Int) - 8 * ((8 : Nat) : Int) = -8 from by decide]
              go_wp2_with fail
              go_loopw [5] (fun v5 wr => ∃ b : Nat, Aside0 (OfSt w (w.heap.size + 1) gk wr v5 (pad m) b)) (fun v5 _ => lenV v5)
              case atStart => exact ⟨b, S2⟩
              case round =>
                obtain ⟨b, HS⟩ := hrel
                clear S2 HN3
                obtain ⟨A5, c5, rfl, hc5⟩ := HS.out.2.1.form
                have hb0 : 64 * b ≤ (pad m).length := HS.out.1
                obtain ⟨n, hnn⟩ : ∃ n, ((pad m).drop (64 * b)).length = n := ⟨_, rfl⟩
                have hlen : (pad m).length = 64 * b + n := by rw [← hnn, List.length_drop]; omega
                rw [hnn] at hc5 HS ⊢
                have hpm := HPM.out
                by_cases h64 : 64 ≤ n
                · have hI : (0 : Int) < (n : Int) := by omega
                  have hI6 : (64 : Int) ≤ (n : Int) := by omega
                  have HNN := Aside0.mk hnn; have HL := Aside0.mk hlen
                  clear hnn hlen hpm
                  go_wp2_with fail
                  refine (block_calls (run b (St.of H0) (pad m)) (w.heap.size + 1) gk (.slice A5 n c5) ((pad m).drop (64 * b)) _ HS.out.2.2.1 HS.out.2.2.2.1 (by exact HS.out.2.1.rd) (by rw [HNN.out]; exact h64)).mono ?_
                  rintro e w2 ⟨rfl, hW2, hF2⟩
                  have hs1 := HS.out
                  have hl1 := HL.out
                  obtain ⟨v', hr, HS2⟩ := hs1.block (by omega) (by omega) hW2 hF2
                  have HS3 := Aside0.mk HS2
                  have hml : lenV v' < n := by
                    obtain ⟨A6, c6, rfl, _⟩ := HS2.2.1.form
                    simp only [lenV, List.length_drop]
                    omega
                  have HML := Aside0.mk hml
                  clear hs1 HS2 hW2 hF2 hml hl1
                  go_wp2
                  go_roundw
                  case rel => exact ⟨b + 1, HS3⟩
                  case measure => exact HML.out
                · have hn0 : n = 0 := by omega
                  subst hn0
                  have hbe : b = (pad m).length / 64 := by omega
                  obtain ⟨s, hs⟩ : ∃ s, run b (St.of H0) (pad m) = s := ⟨_, rfl⟩
                  have hsha : sha m = bytes s := by rw [← hs, hbe]; rfl
                  have HSH := Aside0.mk hsha
                  obtain ⟨_, _, hW5, _, hF5, cs5, hc6, hc7⟩ := HS.out
                  rw [hs] at hW5
                  obtain ⟨wb, hwb⟩ : ∃ wb, wb = wr := ⟨_, rfl⟩
                  subst hwb
                  have HW5 := Aside0.mk hW5; have HF5 := Aside0.mk hF5; have HC5 := Aside0.mk (And.intro hc6 hc7)
                  clear hW5 hF5 hc6 hc7 HS hsha hs hbe hlen hnn hpm
                  go_wp2_with fail
                  generalize hw1 : wb.alloc _ = w1
                  have B1 : Aside0 (Bd w1 wb.heap.size 57 (List.replicate 32 0)) := ⟨by rw [← hw1]; exact blk_new wb _⟩
                  have F1 : Aside0 (Fr No wb w1) := ⟨by rw [← hw1]; exact (Fr.refl _ _).alloc _⟩
                  clear hw1
                  have hbl := bytes_length s
                  have HBL := Aside0.mk hbl
                  clear hbl
                  go_loopw [65] (fun v65 wq => ∃ i : Nat, v65 = .int .i64 i ∧ i ≤ 32 ∧ Aside0 (Bd wq wb.heap.size 57 ((bytes s).take i ++ List.replicate (32 - i) 0)) ∧ Aside0 (Fr No wb wq)) (fun v65 _ => 32 - (intOf v65).toNat)
                  case atStart => exact ⟨0, rfl, by omega, B1, F1⟩
                  case round =>
                    obtain ⟨i, rfl, hi, HB, HF⟩ := hrel
                    clear B1 F1
                    by_cases hi32 : i < 32
                    · have hI : (i : Int) < 32 := by omega
                      obtain ⟨x, hx⟩ : ∃ x, s.list.getD (i / 4) 0 = x := ⟨_, rfl⟩
                      have hc := (HW5.out.fr HF.out id).cell (i / 4) (by rw [rounds_len]; omega)
                      rw [hx] at hc
                      have hy := bytes_get s i hi32
                      rw [hx] at hy
                      obtain ⟨y, hy2⟩ : ∃ y, (bytes s).getD i 0 = y := ⟨_, rfl⟩
                      rw [hy2] at hy
                      have HY := Aside0.mk hy; have HY2 := Aside0.mk hy2
                      clear hy hy2 hx
                      have hq1 : ((i : Int) / 4).toNat = i / 4 := by omega
                      have hcd : wr.cell? ⟨wb.heap.size, i, none⟩ = some (vu8 (((bytes s).take i ++ List.replicate (32 - i) 0).getD i 0)) := HB.out.cell i (by simp [HBL.out]; omega)
                      have hfd : wr.frozen? ⟨wb.heap.size, i, none⟩ = false := HB.out.frozen i
                      have hx32 := u32_lt x
                      go_wp2
                      rw [byte_form x _ (by omega), ← HY.out]
                      have HB2 : Aside0 (Bd (wr.setCell ⟨wb.heap.size, i, none⟩ (vu8 y)) wb.heap.size 57 ((bytes s).take (i + 1) ++ List.replicate (32 - (i + 1)) 0)) := ⟨by
                        have h := HB.out.set i y
                        rw [← HY2.out, set_pre (bytes s) 32 i HBL.out hi32, HY2.out] at h
                        exact h⟩
                      have HF2 : Aside0 (Fr No wb (wr.setCell ⟨wb.heap.size, i, none⟩ (vu8 y))) := ⟨HF.out.setCell (p := ⟨wb.heap.size, i, none⟩) (.inr (Nat.le_refl _)) _⟩
                      clear HB HF hcd hfd hc hx32
                      go_roundw
                      case rel => exact ⟨i + 1, by go_num, by omega, HB2, HF2⟩
                      case measure => simp [intOf]; omega
                    · have hI : ¬ (i : Int) < 32 := by omega
                      obtain rfl : i = 32 := by omega
                      have hB : Bd wr wb.heap.size 57 (bytes s) := by
                        have h := HB.out
                        rw [List.take_of_length_le (by rw [HBL.out]; exact Nat.le_refl _)] at h
                        simpa using h
                      have HB2 := Aside0.mk hB
                      have hc6 := HF.out.heap HC5.out.1 id
                      have HC6 := Aside0.mk hc6
                      clear HB hB hc6
                      go_wp2_with (first
                        | (refine PB.ldRow (.tmp 10) 57 wb.heap.size 57 ((bytes s).map vu8).toArray (0, 0) _ rfl rfl rfl HB2.out Tryd.underlying57 ⟨_, _, rfl⟩ (by kernel_rfl) ?_)
                        | (refine PB.stRow (.tmp 2) (.tmp 81) 57 w.heap.size 57 cs5 ((bytes s).map vu8).toArray rfl rfl rfl rfl HC6.out (by kernel_rfl) (by rw [HC5.out.2]; rfl) (by kernel_rfl) ?_))
                      refine bodyPost_ret (results_cell_row (P := Tryd.prog) (fn := Tryd.f70) (p := 2) (ty := 57) rfl _ _ w.heap.size 57 ((bytes s).map vu8).toArray (0, 0) _ rfl (setRow_heap _ _ _ _ _ _ HC6.out) Tryd.underlying57 rfl (by kernel_rfl)) rfl ⟨?_, ?_⟩
                      · rw [HM9.out, HSH.out]; rfl
                      · exact fr_setRow (HF5.out.none HF.out) (.inr (Nat.le_refl _)) _
        · have h56 : n % 64 ≠ 56 := fun h => hze2 (hze.1 (by omega))
          have hI : ((n : Int) % 64 != 56) = true := by
            rw [show (n : Int) % 64 = ((n % 64 : Nat) : Int) from rfl, bne_iff_ne]
            omega
          have hz2 : z + 1 ≤ zeros m.length := by omega
          have hn2 : n ≤ 200000000 := by omega
          have hs : 64 * b + n + 1 ≤ 64 * b + (m.length + 200) := by omega
          have HH := Aside0.mk h56
          clear hze2 h56 hlen hnn hM hze hMl
          go_wp2_with (at_builtin; refine apQ1 w.heap.size _ (M.drop (64 * b)) 0 0 rfl (.tmp 42) (.tmp 43) rfl rfl rfl (by decide) HS.out.2.1 (by rw [HNN.out]; omega) HS.out.2.2.2.2.1.size ?_; intro v1 w1 hq1 hF1)
          have S1 : Aside0 (OfSt w (w.heap.size + 1) gk w1 v1 (m ++ [128] ++ List.replicate (z + 1) 0) b) := ⟨by
            rw [List.replicate_succ', ← List.append_assoc, HM3.out]
            exact HS.out.app hq1 hF1⟩
          have hml : lenV v1 = n + 1 := by
            obtain ⟨A6, c6, rfl, _⟩ := hq1.form
            have := HNN.out
            simp only [lenV, List.length_append, List.length_cons, List.length_nil]
            omega
          have HML := Aside0.mk hml
          clear HS hq1 hF1 hml
          go_roundw
          case rel => exact ⟨z + 1, hz2, S1⟩
          case measure => rw [HML.out]; simp only [lenV]; omega
end Go.Proofs.YtanbddaecojijaaDoor.Sha
