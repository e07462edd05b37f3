/- SHA-256, plain: what the two programs' loops come to. No program. -/
import Derived.Test.YtanbddaecojijaaDoorSha
set_option linter.unusedVariables false
set_option linter.unusedSimpArgs false
namespace Go.Proofs.YtanbddaecojijaaDoor.Sha

theorem run_next (j : Nat) (s : St) (m : List UInt8) : run (j + 1) s m = block (run j s m) ((m.drop (64 * j)).take 64) := by
  rw [run_add j 1]; rfl
theorem bytes_get (s : St) (i : Nat) (hi : i < 32) : (bytes s).getD i 0 = ((s.list.getD (i / 4) 0) >>> UInt32.ofNat (24 - 8 * (i % 4))).toUInt8 := by
  have h : i = 0 ∨ i = 1 ∨ i = 2 ∨ i = 3 ∨ i = 4 ∨ i = 5 ∨ i = 6 ∨ i = 7 ∨ i = 8 ∨ i = 9 ∨ i = 10 ∨ i = 11 ∨ i = 12 ∨ i = 13 ∨ i = 14 ∨ i = 15 ∨ i = 16 ∨ i = 17 ∨ i = 18 ∨ i = 19 ∨ i = 20 ∨ i = 21 ∨ i = 22 ∨ i = 23 ∨ i = 24 ∨ i = 25 ∨ i = 26 ∨ i = 27 ∨ i = 28 ∨ i = 29 ∨ i = 30 ∨ i = 31 := by omega
  rcases h with rfl | rfl | rfl | rfl | rfl | rfl | rfl | rfl | rfl | rfl | rfl | rfl | rfl | rfl | rfl | rfl | rfl | rfl | rfl | rfl | rfl | rfl | rfl | rfl | rfl | rfl | rfl | rfl | rfl | rfl | rfl | rfl
  all_goals first | rfl | (simp [bytes, St.list])
theorem sched_next (b : List UInt8) (i : Nat) (hi : i < 64) (x : UInt32) (hx : x = next b (sched b i) i) : (sched b i ++ List.replicate (64 - i) 0).set i x = sched b (i + 1) ++ List.replicate (64 - (i + 1)) 0 := by
  subst hx
  rw [show 64 - i = (64 - (i + 1)) + 1 by omega, List.set_append_right _ _ (by rw [sched_length]; exact Nat.le_refl _), sched_length, Nat.sub_self, List.replicate_succ, List.set_cons_zero]
  show _ = (sched b i ++ [next b (sched b i) i]) ++ _
  rw [List.append_assoc]
  rfl
theorem sched_len64 (b : List UInt8) (i : Nat) (hi : i ≤ 64) : (sched b i ++ List.replicate (64 - i) 0).length = 64 := by
  simp [sched_length]; omega
theorem sched_zero (b : List UInt8) (i : Nat) (hi : i < 64) : (sched b i ++ List.replicate (64 - i) (0 : UInt32)).set i 0 = sched b i ++ List.replicate (64 - i) 0 := by
  rw [show 64 - i = (64 - (i + 1)) + 1 by omega, List.set_append_right _ _ (by rw [sched_length]; exact Nat.le_refl _), sched_length, Nat.sub_self, List.replicate_succ, List.set_cons_zero]
theorem sched_get (b : List UInt8) (i k : Nat) (hk : k < i) : (sched b i ++ List.replicate (64 - i) (0 : UInt32)).getD k 0 = (sched b i).getD k 0 := by
  simp only [List.getD]
  rw [List.getElem?_append_left (by rw [sched_length]; exact hk)]
theorem rounds_len (s : St) : s.list.length = 8 := rfl
theorem zeros_lt (n : Nat) : zeros n < 64 := Nat.mod_lt _ (by decide)
theorem zeros_end (n z : Nat) (hz : z ≤ zeros n) : (n + 1 + z) % 64 = 56 ↔ z = zeros n := by
  unfold zeros at *; omega
theorem lenB_len (n : Nat) : (lenB n).length = 8 := rfl
theorem lenB_get (n t : Nat) (ht : t < 8) : ((lenB n).getD t 0).toNat = (8 * n / 2 ^ (56 - 8 * t)) % 256 := by
  rcases (by omega : t = 0 ∨ t = 1 ∨ t = 2 ∨ t = 3 ∨ t = 4 ∨ t = 5 ∨ t = 6 ∨ t = 7) with rfl | rfl | rfl | rfl | rfl | rfl | rfl | rfl <;> simp [lenB]
theorem pad_pre (m : List UInt8) : pad m = m ++ ([128] ++ List.replicate (zeros m.length) 0 ++ lenB m.length) := by simp [pad]
theorem pad_mod (m : List UInt8) : (pad m).length % 64 = 0 := by rw [pad_length]; omega
end Go.Proofs.YtanbddaecojijaaDoor.Sha
