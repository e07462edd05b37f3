/- The walks of package code's Text and of the head 'reads'. -/
import Derived.Test.YtdicjcpcohclaaaDoorReader
import Derived.Deep.DeepCutAuto
import Derived.Deep.CutBlock
set_option linter.unusedVariables false
set_option linter.unusedSimpArgs false
namespace Go.Proofs.YtdicjcpcohclaaaDoor.CodeR
open Go.RowKit Go.Proofs.YtdicjcpcohclaaaDoorW.PrintWords Go.Proofs.YtdicjcpcohclaaaDoor.B Go.Proofs.YtdicjcpcohclaaaDoor.PB Go.Proofs.YtdicjcpcohclaaaDoor.SCode Go.Proofs.YtdicjcpcohclaaaDoor.Rdr
attribute [local go_sem] B.max2_int B.min2_int B.max_two B.min_two

set_option maxHeartbeats 2000000 in
set_option maxRecDepth 100000 in
theorem reads_calls (w : World) : Calls Tryd.prog 17 #[] w fun en w' => en = .returned (.bool true) ∧ Fr No w w' := by
  go_enter Tryd.func17, Tryd.ntmps17
  go_wp2_with fail
  refine (CodeW.num_calls _ [] 300 w (Ow.nil _ _ _) (by simp)).mono ?_
  rintro e w1 ⟨v1, rfl, h1, h2, h3, h4⟩
  have e300 : numI 300 = [172, 2] := by
    rw [numI, show clampN 300 = 300 from rfl, numB_big 300 (by omega), numB_small (300 / 128) (by omega)]; rfl
  rw [e300, List.nil_append] at h1
  have F1 := Aside0.mk (h2.mono (T := No) (fun k _ hk => by simp [blk, Value.ownBlock] at hk))
  have O1 := Aside0.mk h1
  clear h1 h2 h3 h4 e300
  go_wp2_with fail
  refine (read_calls O1.out.rd).mono ?_
  rintro e w2 ⟨rfl, hs, hf⟩
  have F2 := Aside0.mk (F1.out.none hf)
  have S2 := Aside0.mk hs
  have hconv := str_of_rd (O1.out.rd.no hf)
  clear hs hf
  go_wp2_with fail
  refine (Rdr.num_calls S2.out).mono ?_
  rw [show rNum [172, 2] ⟨0, none⟩ = (⟨2, none⟩, 300) by decide]
  rintro e w3 ⟨rfl, hs, hf⟩
  have F3 := Aside0.mk (F2.out.trans hf (fun k hk hk' => absurd hk (by have := F1.out.size; rw [show k = w1.heap.size from hk']; omega)))
  have S3 := Aside0.mk hs
  clear hs hf hconv
  go_wp2_with fail
  refine (end_calls S3.out).mono ?_
  rw [show rEnd [172, 2] ⟨2, none⟩ = ⟨2, none⟩ by decide]
  rintro e w4 ⟨⟨ev, rfl, rfl⟩, hs, hf⟩
  have F4 := Aside0.mk (F3.out.trans hf (fun k hk hk' => absurd hk (by have := F1.out.size; rw [show k = w1.heap.size from hk']; omega)))
  clear hs hf
  go_wp2
  go_ret
  exact ⟨rfl, F4.out⟩

set_option maxHeartbeats 2000000 in
set_option maxRecDepth 100000 in
theorem text_calls (v : Value) (xs : List UInt8) (sv : Value) (s : List UInt8) (w : World) (ho : OwB w v xs) (hs : RdB w sv s) (hl : xs.length ≤ 140737488350000) (ha' : 0 < s.length → ∀ b, sv.ownBlock = some b → ¬ blk v b) :
    Calls Tryd.prog 18 #[v, sv] w fun en w' => ∃ v', en = .returned v' ∧ OwB w' v' (xs ++ textB s) ∧ Fr (blk v) w w' ∧ At w v v' ∧ OwB w' v xs := by
  obtain ⟨A, c, rfl, hc, hm, _⟩ := id hs
  simp only [maxLen] at hm
  obtain ⟨k, hk⟩ : ∃ k, (s.take 4096).length = k := ⟨_, rfl⟩
  have hk2 : (if 4096 < (s.length : Int) then 4096 else (s.length : Int)) = (k : Int) := by
    rw [List.length_take] at hk
    split <;> omega
  have hks : k ≤ s.length := by simp at hk; omega
  have hk4 : k ≤ 4096 := by simp at hk; omega
  have HT : Aside0 (RdB w (.slice A k c) (s.take 4096)) := ⟨by
    have e : s.take 4096 = s.take k := by rw [← hk, List.length_take, List.take_eq_take_iff]; omega
    rw [e]; exact hs.take k hks⟩
  have HK := Aside0.mk hk
  have HO := Aside0.mk ho; have HL := Aside0.mk hl; clear ho hs hl hk
  go_enter Tryd.func18, Tryd.ntmps18
  go_wp2_with fail
  refine (CodeW.num_calls _ xs k w HO.out (by have := HL.out; omega)).mono ?_
  rintro e w1 ⟨v1, rfl, h1, h2, h3, h4⟩
  have H1 := Aside0.mk h1; have H2 := Aside0.mk h2; have H3 := Aside0.mk h3; have H4 := Aside0.mk h4; clear h1 h2 h3 h4
  have hnl := numI_length k
  go_wp2_with (at_builtin; refine apBs v1 (xs ++ numI k) (.slice A k c) (s.take 4096) rfl (.tmp 13) (.tmp 14) rfl rfl rfl H1.out ?c1 ?c2 ?_; (case c1 => exact HT.out.fr H2.out (fun hn b hb => ha' (by have := HK.out; omega) b (by cases A <;> exact hb))); (case c2 => have := HL.out; have := HK.out; simp only [List.length_append]; omega); intro v2 w2 h1 h2 h3 h4; have G1 := Aside0.mk h1; have G2 := Aside0.mk h2; have G3 := Aside0.mk h3; have G4 := Aside0.mk h4; clear h1 h2 h3 h4)
  go_ret
  refine ⟨v2, rfl, ?_, H2.out.trans G2.out (fun k hk hb => At.back H3.out hb hk), H3.out.trans G3.out H2.out.size, Ow.keep H4.out H1.out G2.out G4.out⟩
  rw [textB, HK.out]
  have : numI k = numB k := by rw [numI, clampN_nat k (by omega)]
  rw [← this, ← List.append_assoc]
  exact G1.out

end Go.Proofs.YtdicjcpcohclaaaDoor.CodeR
