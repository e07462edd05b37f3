/- The head 'reads' of the frame's laws. -/
import Derived.Test.YtdicjcpcohclaaaDoorFrameD
import Derived.Lib.SlBytesConst
set_option linter.unusedVariables false
set_option linter.unusedSimpArgs false
namespace Go.Proofs.YtdicjcpcohclaaaDoor.Frm
open Go.RowKit Go.Proofs.YtdicjcpcohclaaaDoorW.PrintWords Go.Proofs.YtdicjcpcohclaaaDoor.B Go.Proofs.YtdicjcpcohclaaaDoor.PB Go.Proofs.YtdicjcpcohclaaaDoor.SCode Go.Proofs.YtdicjcpcohclaaaDoor.Rdr
attribute [local go_sem] B.max2_int B.min2_int B.max_two B.min_two

theorem frame_x : frameB 3 2 [120] = [26, 1, 120] := by
  rw [frameB, numI, show clampN (([120] : List UInt8).length : Int) = 1 from rfl, numB_small 1 (by omega)]; rfl
theorem read_x : readS [26, 1, 120] = (3, 2, [120], 3, none) := by decide +kernel

/-- A literal's row, marked or not. -/
theorem rd_lit (W : World) (xs : List UInt8) (e : Nat) (fz : Nat × Nat) (hm : xs.length ≤ maxLen) : RdB (W.alloc (.cells (xs.map vu8).toArray e fz)) (.slice (some ⟨W.heap.size, 0, none⟩) xs.length xs.length) xs := by
  refine ⟨_, xs.length, rfl, Nat.le_refl _, hm, fun _ => ⟨_, rfl, fun i u hu => ?_⟩⟩
  rw [u8_cells] at hu
  rw [add_plain]
  have := (List.getElem?_eq_some_iff.1 hu).1
  simpa [World.cell?, World.alloc, -World.alloc_eq] using hu

set_option maxHeartbeats 1000000 in
set_option maxRecDepth 100000 in
theorem readsF_calls (w : World) : Calls Tryd.prog 36 #[] w fun en w' => en = .returned (.bool true) ∧ Fr No w w' := by
  have RB : Aside0 (RdB (w.alloc (.cells #[.int .u8 120] 5 (1, 2))) (.slice (some ⟨w.heap.size, 0, none⟩) 1 1) [120]) := ⟨rd_lit w [120] 5 (1, 2) (by simp [maxLen])⟩
  have hid : (convert 22 22 (.slice (some ⟨w.heap.size, 0, none⟩) 1 1)).run Tryd.prog (w.alloc (.cells #[.int .u8 120] 5)) = .ok (.slice (some ⟨w.heap.size, 0, none⟩) 1 1) (w.alloc (.cells #[.int .u8 120] 5 (1, 2))) := Lib.run_convert_bytes_const (P := Tryd.prog) w 22 5 #[.int .u8 120] 1 1 Tryd.underlying22 Tryd.underlying5
  go_enter Tryd.func36, Tryd.ntmps36
  go_wp2_with fail
  refine (append_calls 3 2 _ _ [120] [] _ (by decide) (Ow.nil _ _ _) RB.out (by simp) (fun _ b hb h => by cases h)).mono ?_
  rw [frame_x]
  rintro e w1 ⟨v1, rfl, h1⟩
  have F1 : Aside0 (Fr No w w1) := ⟨((Fr.refl No w).alloc _).trans h1.fr (fun k _ hk => by cases hk)⟩
  have R1 : Aside0 (RdB w1 v1 [26, 1, 120]) := ⟨by simpa using h1.own.rd⟩
  clear h1
  go_wp2_with fail
  refine (readF_calls v1 _ _ R1.out (by simp)).mono ?_
  rw [read_x]
  rintro e w2 ⟨d, ev, rfl, rfl, h1, h2, _⟩
  have F2 : Aside0 (Fr No w w2) := ⟨F1.out.none h1⟩
  have q1 : ∀ o, (convert 22 9 v1).run Tryd.prog (w2.alloc o) = .ok (.string (bstr [26, 1, 120])) (w2.alloc o) := fun o => str_of_rd ((R1.out.no h1).no ((Fr.refl _ _).alloc _))
  have q2 : ∀ o, (convert 22 9 d).run Tryd.prog (w2.alloc o) = .ok (.string (bstr [120])) (w2.alloc o) := fun o => str_of_rd (h2.rd.no ((Fr.refl _ _).alloc _))
  obtain ⟨Ad, cd, rfl⟩ := h2.form
  clear h1 h2
  simp only [List.length_cons, List.length_nil, Nat.zero_add] at q2
  go_wp2
  go_ret
  exact ⟨rfl, F2.out.alloc _⟩
end Go.Proofs.YtdicjcpcohclaaaDoor.Frm
