/- The walks of package code's Text, of chapter 03's reference (Num, Text), and of the head 'reads'. -/
import Derived.Test.YtdicjcpcohclaaaReader
import Derived.Deep.DeepCutAuto
import Derived.Deep.CutBlock
set_option linter.unusedVariables false
set_option linter.unusedSimpArgs false
namespace Go.Proofs.Ytdicjcpcohclaaa.CodeR
open Go.RowKit Go.Proofs.YtdicjcpcohclaaaW.PrintWords Go.Proofs.Ytdicjcpcohclaaa.B Go.Proofs.Ytdicjcpcohclaaa.PB Go.Proofs.Ytdicjcpcohclaaa.SCode Go.Proofs.Ytdicjcpcohclaaa.Rdr
attribute [local go_sem] B.max2_int B.min2_int B.max_two B.min_two

set_option maxHeartbeats 2000000 in
set_option maxRecDepth 100000 in
theorem reads_calls (w : World) : Calls Try.prog 20 #[] w fun en w' => en = .returned (.bool true) ∧ Fr No w w' := by
  go_enter Try.func20, Try.ntmps20
  go_wp2_with fail
  refine (CodeW.num_calls _ [] 300 w (Ow.nil _ _ _) (by simp)).mono ?_
  rintro e w1 ⟨v1, rfl, h1, h2, h3, h4⟩
  have e300 : numI 300 = [172, 2] := by
    rw [numI, show clampN 300 = 300 from rfl, numB_big 300 (by omega), numB_small (300 / 128) (by omega)]; rfl
  rw [e300, List.nil_append] at h1
  have F1 := Aside0.mk (h2.mono (T := No) (fun k _ hk => by simp [blk, Value.ownBlock] at hk))
  have O1 := Aside0.mk h1
  clear h1 h2 h3 h4 e300
  go_wp2_with fail
  refine (read_calls O1.out.rd).mono ?_
  rintro e w2 ⟨rfl, hs, hf⟩
  have F2 := Aside0.mk (F1.out.none hf)
  have S2 := Aside0.mk hs
  have hconv := str_of_rd (O1.out.rd.no hf)
  clear hs hf
  go_wp2_with fail
  refine (Rdr.num_calls S2.out).mono ?_
  rw [show rNum [172, 2] ⟨0, none⟩ = (⟨2, none⟩, 300) by decide]
  rintro e w3 ⟨rfl, hs, hf⟩
  have F3 := Aside0.mk (F2.out.trans hf (fun k hk hk' => absurd hk (by have := F1.out.size; rw [show k = w1.heap.size from hk']; omega)))
  have S3 := Aside0.mk hs
  clear hs hf hconv
  go_wp2_with fail
  refine (end_calls S3.out).mono ?_
  rw [show rEnd [172, 2] ⟨2, none⟩ = ⟨2, none⟩ by decide]
  rintro e w4 ⟨⟨ev, rfl, rfl⟩, hs, hf⟩
  have F4 := Aside0.mk (F3.out.trans hf (fun k hk hk' => absurd hk (by have := F1.out.size; rw [show k = w1.heap.size from hk']; omega)))
  clear hs hf
  go_wp2
  go_ret
  exact ⟨rfl, F4.out⟩

theorem digit_more (j : Nat) : b8 (((j : Int) % 128 + 128) % 256) = UInt8.ofNat (j % 128 + 128) := by
  unfold b8; congr 1; omega
theorem digit_more' (j : Nat) : b8 ((j : Int) % 128 + 128) = UInt8.ofNat (j % 128 + 128) := by
  unfold b8; congr 1
theorem digit_last (j : Nat) (h : j < 128) : b8 ((j : Int) % 256) = UInt8.ofNat j := by
  unfold b8; congr 1; omega

set_option maxHeartbeats 2000000 in
set_option maxRecDepth 100000 in
theorem refNum_calls (n : Int) (w : World) : Calls Try.prog 22 #[.int .i64 n] w fun en w' => en = .returned (.string (bstr (numI n))) ∧ Fr No w w' := by
  have hc := clampN_le n
  obtain ⟨m, hm⟩ : ∃ m, clampN n = m := ⟨_, rfl⟩
  rw [numI, hm]
  rw [hm] at hc
  have h3 : (n < 0 ∧ m = 0) ∨ (0 ≤ n ∧ 1099511627776 < n ∧ m = 1099511627776) ∨ (0 ≤ n ∧ n ≤ 1099511627776 ∧ n = (m : Int)) := by
    subst hm; unfold clampN; repeat' split
    all_goals omega
  clear hm
  obtain ⟨T, hT⟩ : ∃ T, numB m = T := ⟨_, rfl⟩
  rw [hT]
  have HT := Aside0.mk hT; clear hT
  have hT6 : Aside0 (T.length ≤ 6) := ⟨by rw [← HT.out]; exact numB_length_six m hc⟩
  have sb := str_box
  have h4 : (n < 0 ∧ Aside0 ((0 : Int) = (m : Int))) ∨ (0 ≤ n ∧ 1099511627776 < n ∧ Aside0 ((1099511627776 : Int) = (m : Int))) ∨ (0 ≤ n ∧ n ≤ 1099511627776 ∧ Aside0 (n = (m : Int))) := by
    rcases h3 with ⟨a1, e⟩ | ⟨a1, a2, e⟩ | ⟨a1, a2, e⟩
    · exact .inl ⟨a1, ⟨by omega⟩⟩
    · exact .inr (.inl ⟨a1, a2, ⟨by omega⟩⟩)
    · exact .inr (.inr ⟨a1, a2, ⟨e⟩⟩)
  clear h3
  rcases h4 with ⟨a1, E⟩ | ⟨a1, a2, E⟩ | ⟨a1, a2, E⟩
  all_goals
    go_enter Try.func22, Try.ntmps22
    go_wp2
    go_loopw [0, 3] (fun v0 v3 wr => ∃ (j : Nat) (ys : List UInt8), v0 = .int .i64 (j : Int) ∧ j ≤ 1099511627776 ∧ v3 = .string (bstr ys) ∧ Aside0 (ys ++ numB j = T) ∧ Aside0 (Fr No w wr)) (fun v0 _ _ => (intOf v0).toNat)
    case atStart => exact ⟨m, [], congrArg (Value.int .i64) E.out, hc, rfl, ⟨HT.out⟩, ⟨Fr.refl _ _⟩⟩
    case round =>
      clear hc HT
      obtain ⟨j, ys, rfl, hj, rfl, HY, HF⟩ := hrel
      have hlen : ys.length ≤ 6 := by have h1 := hT6.out; rw [← HY.out] at h1; simp at h1; omega
      by_cases hb : 128 ≤ j
      · have hbI : (128 : Int) ≤ (j : Int) := by omega
        go_wp2
        go_roundw
        case rel => exact ⟨j / 128, ys ++ [UInt8.ofNat (j % 128 + 128)], by go_num, by omega, by first | rw [digit_more] | rw [digit_more'], ⟨by rw [← HY.out, numB_big j (by omega)]; simp⟩, ⟨HF.out.alloc _⟩⟩
        case measure => simp [intOf]; omega
      · have hbI : ¬ (128 : Int) ≤ (j : Int) := by omega
        go_wp2
        go_ret
        exact ⟨by rw [← HY.out, numB_small j (by omega)]; (first | rw [digit_last j (by omega)] | rw [b8_nat]); rfl, HF.out.alloc _⟩

set_option maxHeartbeats 2000000 in
set_option maxRecDepth 100000 in
theorem text_calls (v : Value) (xs : List UInt8) (sv : Value) (s : List UInt8) (w : World) (ho : OwB w v xs) (hs : RdB w sv s) (hl : xs.length ≤ 140737488350000) (ha' : 0 < s.length → ∀ b, sv.ownBlock = some b → ¬ blk v b) :
    Calls Try.prog 23 #[v, sv] w fun en w' => ∃ v', en = .returned v' ∧ OwB w' v' (xs ++ textB s) ∧ Fr (blk v) w w' ∧ At w v v' ∧ OwB w' v xs := by
  obtain ⟨A, c, rfl, hc, hm, _⟩ := id hs
  simp only [maxLen] at hm
  obtain ⟨k, hk⟩ : ∃ k, (s.take 4096).length = k := ⟨_, rfl⟩
  have hk2 : (if 4096 < (s.length : Int) then 4096 else (s.length : Int)) = (k : Int) := by
    rw [List.length_take] at hk
    split <;> omega
  have hks : k ≤ s.length := by simp at hk; omega
  have hk4 : k ≤ 4096 := by simp at hk; omega
  have HT : Aside0 (RdB w (.slice A k c) (s.take 4096)) := ⟨by
    have e : s.take 4096 = s.take k := by rw [← hk, List.length_take, List.take_eq_take_iff]; omega
    rw [e]; exact hs.take k hks⟩
  have HK := Aside0.mk hk
  have HO := Aside0.mk ho; have HL := Aside0.mk hl; clear ho hs hl hk
  go_enter Try.func23, Try.ntmps23
  go_wp2_with fail
  refine (CodeW.num_calls _ xs k w HO.out (by have := HL.out; omega)).mono ?_
  rintro e w1 ⟨v1, rfl, h1, h2, h3, h4⟩
  have H1 := Aside0.mk h1; have H2 := Aside0.mk h2; have H3 := Aside0.mk h3; have H4 := Aside0.mk h4; clear h1 h2 h3 h4
  have hnl := numI_length k
  go_wp2_with (at_builtin; refine apBs v1 (xs ++ numI k) (.slice A k c) (s.take 4096) rfl (.tmp 13) (.tmp 14) rfl rfl rfl H1.out ?c1 ?c2 ?_; (case c1 => exact HT.out.fr H2.out (fun hn b hb => ha' (by have := HK.out; omega) b (by cases A <;> exact hb))); (case c2 => have := HL.out; have := HK.out; simp only [List.length_append]; omega); intro v2 w2 h1 h2 h3 h4; have G1 := Aside0.mk h1; have G2 := Aside0.mk h2; have G3 := Aside0.mk h3; have G4 := Aside0.mk h4; clear h1 h2 h3 h4)
  go_ret
  refine ⟨v2, rfl, ?_, H2.out.trans G2.out (fun k hk hb => At.back H3.out hb hk), H3.out.trans G3.out H2.out.size, Ow.keep H4.out H1.out G2.out G4.out⟩
  rw [textB, HK.out]
  have : numI k = numB k := by rw [numI, clampN_nat k (by omega)]
  rw [← this, ← List.append_assoc]
  exact G1.out

set_option maxHeartbeats 2000000 in
set_option maxRecDepth 100000 in
theorem refText_calls (s : List UInt8) (w : World) (hl : s.length ≤ 9223372036854775000) : Calls Try.prog 24 #[.string (bstr s)] w fun en w' => en = .returned (.string (bstr (textB s))) ∧ Fr No w w' := by
  by_cases h : s.length ≤ 4096
  · have ht : s.take 4096 = s := List.take_of_length_le h
    rw [textB, ht]
    have hn : ¬ (4096 : Int) < (s.length : Int) := by omega
    have e : Aside0 (numI s.length = numB s.length) := ⟨by rw [numI, clampN_nat s.length (by omega)]⟩
    clear ht
    go_enter Try.func24, Try.ntmps24
    go_wp2_with fail
    refine (refNum_calls s.length w).mono ?_
    rintro e' w1 ⟨rfl, h1⟩
    rw [e.out]
    have h6 : (numB s.length).length ≤ 6 := by rw [← e.out]; exact numI_length _
    have H1 := Aside0.mk h1; clear h1
    go_wp2
    go_ret
    exact ⟨rfl, H1.out⟩
  · have hn : (4096 : Int) < (s.length : Int) := by omega
    go_enter Try.func24, Try.ntmps24
    go_wp2_with fail
    refine (refNum_calls _ w).mono ?_
    rintro e' w1 ⟨rfl, h1⟩
    have e : Aside0 (numI ((min 4096 s.length : Nat) : Int) = numB (s.take 4096).length) := ⟨by rw [numI, clampN_nat _ (by omega), List.length_take]⟩
    have h6 : (numI ((min 4096 s.length : Nat) : Int)).length ≤ 6 := numI_length _
    have H1 := Aside0.mk h1; clear h1
    go_wp2
    go_ret
    exact ⟨by rw [textB, ← e.out]; rfl, H1.out⟩
end Go.Proofs.Ytdicjcpcohclaaa.CodeR
