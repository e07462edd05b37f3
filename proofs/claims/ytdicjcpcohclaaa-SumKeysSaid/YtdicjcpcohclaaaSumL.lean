/- The heads of the sum's laws: known, join. -/
import Derived.Test.YtdicjcpcohclaaaShaT
import Derived.Test.YtdicjcpcohclaaaShaOf
import Derived.Test.YtdicjcpcohclaaaCopy
import Derived.Lib.SlBytesConst
set_option linter.unusedVariables false
set_option linter.unusedSimpArgs false
namespace Go.Proofs.Ytdicjcpcohclaaa.Sha
open Go.RowKit Go.Proofs.YtdicjcpcohclaaaW.PrintWords Go.Proofs.Ytdicjcpcohclaaa.B Go.Proofs.Ytdicjcpcohclaaa.PB
attribute [local go_sem] max2_int min2_int max_two min_two

/-- A literal's row, marked or not. -/
theorem rdB_lit (W : World) (xs : List UInt8) (e : Nat) (fz : Nat × Nat) (hm : xs.length ≤ maxLen) : RdB (W.alloc (.cells (xs.map vu8).toArray e fz)) (.slice (some ⟨W.heap.size, 0, none⟩) xs.length xs.length) xs := by
  refine ⟨_, xs.length, rfl, Nat.le_refl _, hm, fun _ => ⟨_, rfl, fun i u hu => ?_⟩⟩
  rw [u8_cells] at hu
  rw [add_plain]
  have := (List.getElem?_eq_some_iff.1 hu).1
  simpa [World.cell?, World.alloc, -World.alloc_eq] using hu
set_option maxHeartbeats 4000000 in
set_option maxRecDepth 100000 in
theorem known_calls (w : World) : Calls Try.prog 25 #[] w fun e w' => e = .returned (.bool true) ∧ Fr No w w' := by
  have h1 := Lib.run_convert_bytes_const (P := Try.prog) w 23 5 #[.int .u8 97, .int .u8 98] 2 2 Try.underlying23 Try.underlying5
  have h2 := Lib.run_convert_bytes_const (P := Try.prog) (w.alloc (.cells #[.int .u8 97, .int .u8 98] 5 (2, 3))) 23 5 #[.int .u8 99] 1 1 Try.underlying23 Try.underlying5
  have hz : (w.alloc (.cells #[.int .u8 97, .int .u8 98] 5 (2, 3))).heap.size = w.heap.size + 1 := by simp
  rw [hz] at h2
  have R1 : RdB (w.alloc (.cells #[.int .u8 97, .int .u8 98] 5 (2, 3))) (.slice (some ⟨w.heap.size, 0, none⟩) 2 2) [97, 98] := rdB_lit w [97, 98] _ _ (by simp [maxLen])
  have R2 := rdB_lit (w.alloc (.cells #[.int .u8 97, .int .u8 98] 5 (2, 3))) [99] 5 (1, 2) (by simp [maxLen])
  rw [hz] at R2
  have HR1 := Aside0.mk (R1.no ((Fr.refl _ _).alloc (.cells #[.int .u8 99] 5 (1, 2))))
  have HR2 := Aside0.mk R2
  clear hz R1 R2
  go_enter Try.func25, Try.ntmps25
  go_wp2_with fail
  refine (of_calls _ [[97, 98], [99]] _ (rdV_two' _ _ (by simp) _ _ _ _ _ _ [97, 98] [99] HR1.out HR2.out _) (by simp)).mono ?_
  rintro e w3 ⟨rfl, hF3⟩
  have F3 : Aside0 (Fr No w w3) := ⟨((((Fr.refl _ _).alloc _).alloc _).alloc _).none hF3⟩
  clear hF3 h1 h2
  rw [show [[97, 98], [99]].flatten = ([97, 98, 99] : List UInt8) from rfl]
  go_wp2_with fail
  refine (text_calls (sha [97, 98, 99]) (sha_length _) _).mono ?_
  rintro e w4 ⟨rfl, hF4⟩
  rw [known]
  have F4 : Aside0 (Fr No w w4) := ⟨F3.out.none hF4⟩
  clear hF4
  go_wp2
  go_ret
  exact ⟨rfl, F4.out⟩
/-- Parts, cut short. -/
def js (ps : List (List UInt8)) : List (List UInt8) := (ps.take 8).map (·.take 200)
theorem js_length (ps : List (List UInt8)) : (js ps).length ≤ 8 := by simp [js]; omega
theorem flat_le (n : Nat) : ∀ (ps : List (List UInt8)), (∀ p ∈ ps, p.length ≤ n) → ps.flatten.length ≤ ps.length * n
  | [], _ => by simp
  | p :: ps, h => by
    rw [List.flatten_cons, List.length_append, List.length_cons, Nat.succ_mul]
    have h1 := h p List.mem_cons_self
    have h2 := flat_le n ps (fun q hq => h q (List.mem_cons_of_mem _ hq))
    omega
theorem js_flat (ps : List (List UInt8)) : (js ps).flatten.length ≤ 1600 := by
  have h1 := flat_le 200 (js ps) (fun p hp => by
    obtain ⟨q, _, rfl⟩ := List.mem_map.1 hp
    simp; omega)
  have h2 := js_length ps
  have h3 : (js ps).length * 200 ≤ 8 * 200 := Nat.mul_le_mul_right _ h2
  omega
theorem js_step (ps : List (List UInt8)) (j : Nat) (hj : j < ps.length) (h8 : j < 8) : js (ps.take (j + 1)) = js (ps.take j) ++ [(ps.getD j []).take 200] := by
  have e1 : (ps.take (j + 1)).take 8 = ps.take (j + 1) := List.take_of_length_le (by simp; omega)
  have e2 : (ps.take j).take 8 = ps.take j := List.take_of_length_le (by simp; omega)
  unfold js
  rw [e1, e2, List.take_succ_eq_append_getElem hj, List.map_append]
  simp [List.getD, hj]
theorem js_stay (ps : List (List UInt8)) (j : Nat) (h8 : 8 ≤ j) : js (ps.take (j + 1)) = js (ps.take j) := by
  unfold js
  rw [List.take_take, List.take_take, Nat.min_eq_left (by omega), Nat.min_eq_left h8]
theorem vinfo : (Try.prog.info? 23).map (fun i => (i.zero, i.size, i.bytes)) = some (some (.slice none 0 0), 1, 24) := by kernel_rfl
set_option maxHeartbeats 8000000 in
set_option maxRecDepth 100000 in
theorem join_calls (vp : Value) (ps : List (List UInt8)) (w : World) (hp : RdV w vp ps) : Calls Try.prog 26 #[vp] w fun e w' => ∃ v, e = .returned (.tuple #[v, .string (bstr (js ps).flatten)]) ∧ RdV w' v (js ps) ∧ Fr No w w' := by
  obtain ⟨A, c, rfl, hpc⟩ := hp.form
  have hpl := hp.len_le
  have HP := Aside0.mk hp
  clear hp
  go_enter Try.func26, Try.ntmps26
  go_wp2_with fail
  go_loopw [4, 5, 10] (fun v4 v5 v10 wr => ∃ j : Nat, v10 = .int .i64 (j : Int) ∧ j ≤ ps.length ∧ v5 = .string (bstr (js (ps.take j)).flatten) ∧ Aside0 (∃ ss, Ow vsl 23 wr v4 ss ∧ ss.length = (js (ps.take j)).length ∧ ∀ i s, ss[i]? = some s → RdB w s.v ((js (ps.take j)).getD i [])) ∧ Aside0 (∀ k, k < w.heap.size → ¬ blk v4 k) ∧ Aside0 (Fr No w wr)) (fun _ _ v10 _ => ps.length - (intOf v10).toNat)
  case atStart => exact ⟨0, rfl, by omega, rfl, ⟨[], Ow.nil _ _ _, rfl, fun i s h => by simp at h⟩, ⟨fun k _ h => by simp [blk, Value.ownBlock] at h⟩, ⟨Fr.refl _ _⟩⟩
  case round =>
    obtain ⟨j, rfl, hj, rfl, HX, HN, HF⟩ := hrel
    by_cases hlt : j < ps.length
    · have hJ : (j : Int) < (ps.length : Int) := by omega
      obtain ⟨ad, A', c', rfl, hcw, hrd⟩ := HP.out.at_ j hlt
      have hcell := HF.out.cell hcw id
      obtain ⟨p, hp⟩ : ∃ p, ps.getD j [] = p := ⟨_, rfl⟩
      rw [hp] at hcell hrd
      by_cases h8 : j < 8
      · have h8I : (j : Int) < 8 := by omega
        obtain ⟨ss, ho, hsl, hss⟩ := HX.out
        have hpc2 : p.length ≤ c' := by
          obtain ⟨A2, c2, he, h, _⟩ := hrd
          injection he with _ _ e3
          omega
        have hjs := js_step ps j hlt h8
        rw [hp] at hjs
        obtain ⟨n, hn⟩ : ∃ n, min p.length 200 = n := ⟨_, rfl⟩
        have hnI : (if (200 : Int) < (p.length : Int) then (200 : Int) else (p.length : Int)) = (n : Int) := by
          split <;> omega
        have htl : (p.take 200).length = n := by rw [List.length_take, ← hn, Nat.min_comm]
        have hnp : p.take n = p.take 200 := by
          rw [← hn]
          rcases Nat.le_total p.length 200 with h | h
          · rw [Nat.min_eq_left h, List.take_of_length_le (Nat.le_refl _), List.take_of_length_le h]
          · rw [Nat.min_eq_right h]
        have hr2 : RdB w (.slice A' n c') (p.take 200) := by
          have h := Rd.take hrd n (by omega)
          rw [hnp] at h
          exact h
        have hn0 : (0 : Int) ≤ (n : Int) := by omega
        have hnc : (n : Int) ≤ (c' : Int) := by omega
        have hnpi : (n : Int) ≤ (p.length : Int) := by omega
        have hflat := js_flat (ps.take j)
        rw [List.length_flatten] at hflat
        have HO := Aside0.mk ho; have HR2 := Aside0.mk hr2; have HJS := Aside0.mk hjs; have HSL := Aside0.mk hsl; have HSS := Aside0.mk hss; have HTL := Aside0.mk htl
        have hssl : ss.length ≤ 8 := by rw [hsl]; exact js_length _
        clear ho hr2 hjs hsl hss htl hnp hn hrd hcw hp
        go_wp2_with (at_builtin; refine ap1 (f := vsl) rfl (.tmp 22) (.tmp 24) 30 23 (.slice Option.none 0 0) 24 rfl Try.underlying30 vinfo rfl Nat.one_pos (by decide) _ ss ⟨A', n, c'⟩ [.slice A' n c'] rfl rfl rfl HO.out (by omega) ?_; intro v1 w1 h1 h2 h3 h4; have q := str_of_rd ((HR2.out.no HF.out).fr h2 (fun hl b hb hk => HN.out b ((HR2.out.lt Nat.one_pos hl) b hb) hk)))
        rw [← List.flatten_concat, ← HJS.out]
        have hold : ¬ ∃ k, k < w.heap.size ∧ blk v1 k := fun ⟨k, hk, hb⟩ => HN.out k hk (h3.back hb (Nat.lt_of_lt_of_le hk HF.out.size))
        have hl2 : (js (ps.take (j + 1))).length = ss.length + 1 := by rw [HJS.out, List.length_append, ← HSL.out]; rfl
        have HX2 : Aside0 (∃ ss, Ow vsl 23 w1 v1 ss ∧ ss.length = (js (ps.take (j + 1))).length ∧ ∀ i s, ss[i]? = some s → RdB w s.v ((js (ps.take (j + 1))).getD i [])) := ⟨ss ++ [⟨A', n, c'⟩], h1, by rw [hl2]; simp, fun i s hs => by
          rw [HJS.out]
          rcases Nat.lt_trichotomy i ss.length with hi | hi | hi
          · rw [List.getElem?_append_left hi] at hs
            have h := HSS.out i s hs
            rw [HSL.out] at hi
            simpa [List.getD, List.getElem?_append_left hi] using h
          · subst hi
            have hs' : (⟨A', n, c'⟩ : Sl) = s := by simpa using hs
            subst hs'
            rw [HSL.out]
            have h9 : (js (ps.take j) ++ [p.take 200]).getD (js (ps.take j)).length [] = p.take 200 := by simp [List.getD]
            rw [h9]
            exact HR2.out
          · have := (List.getElem?_eq_some_iff.1 hs).1
            simp at this
            omega⟩
        have HN2 : Aside0 (∀ k, k < w.heap.size → ¬ blk v1 k) := ⟨fun k hk hb => hold ⟨k, hk, hb⟩⟩
        have HF2 : Aside0 (Fr No w w1) := ⟨HF.out.trans h2 (fun k hk hb => HN.out k hk hb)⟩
        clear h1 h2 h3 h4 q hold hl2 HX HN HF HO
        go_roundw
        case rel => exact ⟨j + 1, by go_num, by omega, rfl, HX2, HN2, HF2⟩
        case measure => simp [intOf]; omega
      · have h8I : ¬ (j : Int) < 8 := by omega
        have hst := js_stay ps j (by omega)
        have HST := Aside0.mk hst
        clear hst hrd hcw hp
        go_wp2
        go_roundw
        case rel => exact ⟨j + 1, by go_num, by omega, by rw [HST.out], by rw [HST.out]; exact HX, HN, HF⟩
        case measure => simp [intOf]; omega
    · have hJ : ¬ (j : Int) < (ps.length : Int) := by omega
      obtain rfl : j = ps.length := by omega
      obtain ⟨ss, ho, hsl, hss⟩ := HX.out
      rw [List.take_length] at hsl hss ⊢
      have HR : Aside0 (RdV wr _ (js ps)) := ⟨⟨ss, ho.rd, hsl, fun i s hs => (hss i s hs).no HF.out⟩⟩
      clear ho hsl hss HX HN
      go_wp2
      (try simp only [Exit.inBlock, Exit.then]); refine bodyPost_ret (results_list (rs := [.tmp 2, .tmp 3]) rfl (by simp) (.tmp (.tmp .nil))) rfl ?_
      exact ⟨_, rfl, HR.out, HF.out⟩
end Go.Proofs.Ytdicjcpcohclaaa.Sha
