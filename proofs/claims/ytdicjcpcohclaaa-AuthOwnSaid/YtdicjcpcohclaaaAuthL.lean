/- The head of the laws of auth. -/
import Derived.Test.YtdicjcpcohclaaaAuth
set_option linter.unusedVariables false
set_option linter.unusedSimpArgs false
namespace Go.Proofs.Ytdicjcpcohclaaa.Auth
open Go.RowKit Go.Proofs.YtdicjcpcohclaaaW.PrintWords Go.Proofs.Ytdicjcpcohclaaa.B Go.Proofs.Ytdicjcpcohclaaa.PB Go.Proofs.Ytdicjcpcohclaaa.Sha

def letT : List UInt8 := mac [120] ([7, 0, 0, 0, 0, 0, 0, 0, 0, 0, 0, 0, 0, 0, 0, 0] ++ [104, 111, 109, 101])
theorem letT_length : letT.length = 32 := mac_length _ _
set_option maxRecDepth 100000 in
theorem letT_ne : letT ≠ List.replicate 32 0 := by decide +kernel
def letM (g : Nat) : MD := ⟨[104, 111, 109, 101], [], false, 0, 0, some ⟨g, 0, none⟩, 1, [⟨[97, 110, 110], [120]⟩]⟩
theorem letC_ann (g : Nat) : checkP (letM g).us (letM g).nm [97, 110, 110] [7, 0, 0, 0, 0, 0, 0, 0, 0, 0, 0, 0, 0, 0, 0, 0] letT = 0 := by
  show (if letT = letT then (0 : Int) else 140) = 0
  rw [if_pos rfl]
theorem letC_bob (g : Nat) : checkP (letM g).us (letM g).nm [98, 111, 98] [7, 0, 0, 0, 0, 0, 0, 0, 0, 0, 0, 0, 0, 0, 0, 0] letT = 140 := rfl
set_option maxHeartbeats 4000000 in
set_option maxRecDepth 100000 in
theorem lets_calls (w : World) : Calls Try.prog 41 #[] w fun e w' => e = .returned (.bool true) ∧ Fr No w w' := by
  go_enter Try.func41, Try.ntmps41
  go_wp2_with fail
  refine (answer_calls [120] [104, 111, 109, 101] [7, 0, 0, 0, 0, 0, 0, 0, 0, 0, 0, 0, 0, 0, 0, 0] _ (by decide) (by decide) rfl).mono ?_
  rintro e w1 ⟨rfl, hf1⟩
  change Fr No (((w.alloc (.cells #[.string (bstr [97, 110, 110]), .string (bstr [120])] 80)).alloc (.cells (letM w.heap.size).cells.toArray 75)).alloc (.cells #[.int .u8 7, .int .u8 0, .int .u8 0, .int .u8 0, .int .u8 0, .int .u8 0, .int .u8 0, .int .u8 0, .int .u8 0, .int .u8 0, .int .u8 0, .int .u8 0, .int .u8 0, .int .u8 0, .int .u8 0, .int .u8 0] 69)) w1 at hf1
  have U0 : Ow fU 80 (w.alloc (.cells #[.string (bstr [97, 110, 110]), .string (bstr [120])] 80)) (.slice (some ⟨w.heap.size, 0, none⟩) 1 1) [⟨[97, 110, 110], [120]⟩] := ow_lit fU _ w _ rfl [⟨[97, 110, 110], [120]⟩] _ rfl (by simp [maxLen])
  have f2 : Fr No (w.alloc (.cells #[.string (bstr [97, 110, 110]), .string (bstr [120])] 80)) w1 := (((Fr.refl _ _).alloc _).alloc _).none hf1
  have M0 : (letM w.heap.size).ok w1 := U0.rd.no f2
  have F1 : Aside0 (Fr No w w1) := ⟨((Fr.refl _ _).alloc _).none f2⟩
  have B1 : w1.heap[w.heap.size + 1]? = some (.cells (letM w.heap.size).cells.toArray 75 (0, 0)) := hf1.heap (blk_alloc (heap_alloc2_new w _ _) _) id
  have B2 : w1.heap[w.heap.size + 1 + 1]? = some (.cells #[.int .u8 7, .int .u8 0, .int .u8 0, .int .u8 0, .int .u8 0, .int .u8 0, .int .u8 0, .int .u8 0, .int .u8 0, .int .u8 0, .int .u8 0, .int .u8 0, .int .u8 0, .int .u8 0, .int .u8 0, .int .u8 0] 69 (0, 0)) := hf1.heap (by
    have h := heap_alloc_new ((w.alloc (.cells #[.string (bstr [97, 110, 110]), .string (bstr [120])] 80)).alloc (.cells (letM w.heap.size).cells.toArray 75)) (.cells #[.int .u8 7, .int .u8 0, .int .u8 0, .int .u8 0, .int .u8 0, .int .u8 0, .int .u8 0, .int .u8 0, .int .u8 0, .int .u8 0, .int .u8 0, .int .u8 0, .int .u8 0, .int .u8 0, .int .u8 0, .int .u8 0] 69)
    simpa using h) id
  have MM := Aside0.mk M0
  rw [show mac [120] ([7, 0, 0, 0, 0, 0, 0, 0, 0, 0, 0, 0, 0, 0, 0, 0] ++ [104, 111, 109, 101]) = letT from rfl]
  have qe : ∀ W, (binOp .neq 34 (.agg (letT.map vu8).toArray) (.agg #[.int .u8 0, .int .u8 0, .int .u8 0, .int .u8 0, .int .u8 0, .int .u8 0, .int .u8 0, .int .u8 0, .int .u8 0, .int .u8 0, .int .u8 0, .int .u8 0, .int .u8 0, .int .u8 0, .int .u8 0, .int .u8 0, .int .u8 0, .int .u8 0, .int .u8 0, .int .u8 0, .int .u8 0, .int .u8 0, .int .u8 0, .int .u8 0, .int .u8 0, .int .u8 0, .int .u8 0, .int .u8 0, .int .u8 0, .int .u8 0, .int .u8 0, .int .u8 0])).run Try.prog W = .ok (.bool true) W := fun W => by
    have h := Arr.run_neq Try.underlying34 W letT (List.replicate 32 0) letT_length rfl
    rw [decide_eq_false letT_ne] at h
    exact h
  have qg := fun x y W => run_eqGuard_agg (P := Try.prog) W .neq 34 x y (letT.map vu8).toArray #[.int .u8 0, .int .u8 0, .int .u8 0, .int .u8 0, .int .u8 0, .int .u8 0, .int .u8 0, .int .u8 0, .int .u8 0, .int .u8 0, .int .u8 0, .int .u8 0, .int .u8 0, .int .u8 0, .int .u8 0, .int .u8 0, .int .u8 0, .int .u8 0, .int .u8 0, .int .u8 0, .int .u8 0, .int .u8 0, .int .u8 0, .int .u8 0, .int .u8 0, .int .u8 0, .int .u8 0, .int .u8 0, .int .u8 0, .int .u8 0, .int .u8 0, .int .u8 0] (by kernel_rfl)
  have hsz : (letT.map vu8).toArray.size = 32 := by simp [letT_length]
  have HSZ := Aside0.mk hsz
  have CC := fun u W h hs => check_calls (letM w.heap.size) u [7, 0, 0, 0, 0, 0, 0, 0, 0, 0, 0, 0, 0, 0, 0, 0] letT W h rfl letT_length (by show 4 ≤ 100000; decide) hs
  unfold MD.v at CC
  obtain ⟨va, hva⟩ : ∃ va, (letT.map vu8).toArray = va := ⟨_, rfl⟩
  obtain ⟨vm, hvm⟩ : ∃ vm, (letM w.heap.size).cells.toArray = vm := ⟨_, rfl⟩
  unfold Arr.av at CC ⊢
  simp only [hva, hvm] at qe qg hsz HSZ CC B1 ⊢
  simp only [List.map_cons, List.map_nil] at CC
  have hmc : vm.size = 6 := by rw [← hvm]; rfl
  have LM0 := ld_all (P := Try.prog) (ty := 75) B1 Try.underlying75 rfl (by rw [hmc]; kernel_rfl)
  have LN0 := ld_all (P := Try.prog) (ty := 69) B2 Try.underlying69 rfl (by kernel_rfl)
  have GT : (w1.alloc (.cells va 34)).heap[w1.heap.size]? = some (.cells va 34 (0, 0)) := heap_alloc_new w1 _
  have fa : Fr No w1 (w1.alloc (.cells va 34)) := (Fr.refl _ _).alloc _
  have LM : ∀ x, Fr No (w1.alloc (.cells va 34)) x → _ := fun x hx => LM0 x (fa.none hx)
  have LN : ∀ x, Fr No (w1.alloc (.cells va 34)) x → _ := fun x hx => LN0 x (fa.none hx)
  have LT := ld_all (P := Try.prog) (ty := 34) GT Try.underlying34 rfl (by rw [hsz]; kernel_rfl)
  have MA := Aside0.mk (M0.no fa)
  have FA := Aside0.mk (F1.out.none fa)
  have HVM := Aside0.mk hvm
  clear M0 B1 B2 LM0 LN0 GT fa hf1 U0 f2 hsz hmc
  go_wp2_with (first
    | (refine PB.stRow (.tmp 3) (.tmp 9) 34 w1.heap.size 34 _ va rfl rfl rfl rfl (heap_alloc_new w1 _) (by rw [HSZ.out]; kernel_rfl) (by rw [HSZ.out]; rfl) (by rw [← hva, Array.all_eq_true]; intro i hi; simp [Value.oneCell']) ?_; rw [World.setRow_alloc_new])
    | (refine ldG (.tmp 1) 75 _ _ rfl rfl (LM _ (Fr.refl _ _)) (by first | rfl | (go_simp; done)) ?_)
    | (refine ldG (.tmp 2) 69 _ _ rfl rfl (LN _ (Fr.refl _ _)) (by first | rfl | (go_simp; done)) ?_)
    | (refine ldG (.tmp 3) 34 _ _ rfl rfl (LT _ (Fr.refl _ _)) (by first | rfl | (go_simp; done)) ?_))
  refine (CC [97, 110, 110] _ MA.out (by simp [sec, letM])).mono ?_
  rintro e w2 ⟨rfl, hf2⟩
  rw [letC_ann]
  have F2 := Aside0.mk hf2
  clear hf2
  go_wp2_with (first
    | (refine ldG (.tmp 1) 75 _ _ rfl rfl (LM _ F2.out) (by first | rfl | (go_simp; done)) ?_)
    | (refine ldG (.tmp 2) 69 _ _ rfl rfl (LN _ F2.out) (by first | rfl | (go_simp; done)) ?_)
    | (refine ldG (.tmp 3) 34 _ _ rfl rfl (LT _ F2.out) (by first | rfl | (go_simp; done)) ?_))
  refine (CC [98, 111, 98] _ (MA.out.no F2.out) (by simp [sec, letM])).mono ?_
  rintro e w3 ⟨rfl, hf3⟩
  rw [letC_bob]
  have F3 : Aside0 (Fr No w w3) := ⟨(FA.out.none F2.out).none hf3⟩
  clear hf3
  go_wp2
  go_ret
  exact ⟨rfl, F3.out⟩
end Go.Proofs.Ytdicjcpcohclaaa.Auth
