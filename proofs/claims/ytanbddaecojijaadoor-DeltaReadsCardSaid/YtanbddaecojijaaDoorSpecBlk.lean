/- A file's blocks and their sums: plain. No program. -/
import Derived.Test.YtanbddaecojijaaDoorSpecWeak
import Derived.Test.YtanbddaecojijaaDoorBk
import Derived.Test.YtanbddaecojijaaDoorShaC
set_option linter.unusedVariables false
namespace Go.Proofs.YtanbddaecojijaaDoor.SBlk
open Go.Proofs.YtanbddaecojijaaDoor.SWeak Go.Proofs.YtanbddaecojijaaDoor.Bk

/-- How many blocks. -/
def countI (n s : Int) : Int := if s < 1 ∨ n < 0 then 0 else if n % s = 0 then n / s else n / s + 1
def cnt (n s : Nat) : Nat := if n % s = 0 then n / s else n / s + 1
theorem countI_nat (n s : Nat) (h : 0 < s) : countI (n : Int) (s : Int) = (cnt n s : Int) := by
  unfold countI cnt
  rw [if_neg (by omega)]
  have e : ((n : Int) % (s : Int) = 0) ↔ n % s = 0 := by
    rw [← Int.natCast_emod]; omega
  by_cases h0 : n % s = 0
  · rw [if_pos (e.2 h0), if_pos h0, ← Int.natCast_ediv]
  · rw [if_neg (fun h => h0 (e.1 h)), if_neg h0, ← Int.natCast_ediv]; rfl
theorem cnt_spec (n s : Nat) (h : 0 < s) (i : Nat) : i < cnt n s ↔ i * s < n := by
  have hd := Nat.div_add_mod n s
  have hm := Nat.mod_lt n h
  unfold cnt
  constructor
  · intro hi
    have hle : i ≤ n / s := by split at hi <;> omega
    by_cases h0 : n % s = 0
    · rw [if_pos h0] at hi
      have : (i + 1) * s ≤ n / s * s := Nat.mul_le_mul_right _ hi
      rw [Nat.add_mul, Nat.mul_comm (n / s)] at this
      omega
    · have : i * s ≤ n / s * s := Nat.mul_le_mul_right _ hle
      rw [Nat.mul_comm (n / s)] at this
      omega
  · intro hi
    have hle : i ≤ n / s := (Nat.le_div_iff_mul_le h).2 (by omega)
    by_cases h0 : n % s = 0
    · rw [if_pos h0]
      rcases Nat.lt_or_ge i (n / s) with h1 | h1
      · exact h1
      · have e : i = n / s := by omega
        rw [e, Nat.mul_comm] at hi
        omega
    · rw [if_neg h0]; omega
theorem cnt_le (n s : Nat) (h : 0 < s) : cnt n s ≤ n := by
  rcases Nat.eq_zero_or_pos (cnt n s) with h0 | h0
  · omega
  · have := (cnt_spec n s h (cnt n s - 1)).1 (by omega)
    have h2 : cnt n s - 1 ≤ (cnt n s - 1) * s := Nat.le_mul_of_pos_right _ h
    omega
/-- The i-th block of bytes. -/
def piece (s : Nat) (d : List UInt8) (i : Nat) : List UInt8 := (d.drop (i * s)).take s
theorem piece_length (s : Nat) (d : List UInt8) (i : Nat) : (piece s d i).length = min s (d.length - i * s) := by simp [piece]
/-- A block's sums. -/
def sums (cut : Int) (p : List UInt8) : BK := ⟨weak p, Sha.cut cut p, Sha.cut_length cut p, weak_lt p⟩
def blocks (s : Nat) (cut : Int) (d : List UInt8) (n : Nat) : List BK := (List.range n).map fun i => sums cut (piece s d i)
theorem blocks_length (s : Nat) (cut : Int) (d : List UInt8) (n : Nat) : (blocks s cut d n).length = n := by simp [blocks]
theorem blocks_succ (s : Nat) (cut : Int) (d : List UInt8) (n : Nat) : blocks s cut d (n + 1) = blocks s cut d n ++ [sums cut (piece s d n)] := by simp [blocks, List.range_succ]
theorem blocks_get (s : Nat) (cut : Int) (d : List UInt8) (n i : Nat) (h : i < n) : (blocks s cut d n)[i]? = some (sums cut (piece s d i)) := by simp [blocks, h]
/-- The sums of a file's blocks, as told. -/
structure Sg where
  size : Int
  cut : Int
  len : Int
  bs : List BK
def nilS : Sg := ⟨0, 0, 0, []⟩
/-- The error's number of what is asked. -/
def makeE (n : Nat) (size cut : Int) : Int := if size < 1 ∨ 4096 < size ∨ cut < 0 ∨ 32 < cut then 1 else if 4096 < countI n size then 2 else 0
def makeS (d : List UInt8) (size cut : Int) : Sg := if makeE d.length size cut = 0 then ⟨size, cut, d.length, blocks size.toNat cut d (cnt d.length size.toNat)⟩ else nilS
theorem makeE_cases (n : Nat) (size cut : Int) : (size < 1 ∧ makeE n size cut = 1) ∨ (¬ size < 1 ∧ 4096 < size ∧ makeE n size cut = 1) ∨ (¬ size < 1 ∧ ¬ 4096 < size ∧ cut < 0 ∧ makeE n size cut = 1) ∨
    (¬ size < 1 ∧ ¬ 4096 < size ∧ ¬ cut < 0 ∧ 32 < cut ∧ makeE n size cut = 1) ∨ (¬ size < 1 ∧ ¬ 4096 < size ∧ ¬ cut < 0 ∧ ¬ 32 < cut ∧ 4096 < countI n size ∧ makeE n size cut = 2) ∨
    (¬ size < 1 ∧ ¬ 4096 < size ∧ ¬ cut < 0 ∧ ¬ 32 < cut ∧ ¬ 4096 < countI n size ∧ makeE n size cut = 0) := by
  unfold makeE
  by_cases h1 : size < 1
  · exact .inl ⟨h1, by rw [if_pos (.inl h1)]⟩
  by_cases h2 : 4096 < size
  · exact .inr (.inl ⟨h1, h2, by rw [if_pos (.inr (.inl h2))]⟩)
  by_cases h3 : cut < 0
  · exact .inr (.inr (.inl ⟨h1, h2, h3, by rw [if_pos (.inr (.inr (.inl h3)))]⟩))
  by_cases h4 : 32 < cut
  · exact .inr (.inr (.inr (.inl ⟨h1, h2, h3, h4, by rw [if_pos (.inr (.inr (.inr h4)))]⟩)))
  have hn : ¬ (size < 1 ∨ 4096 < size ∨ cut < 0 ∨ 32 < cut) := by omega
  by_cases h5 : 4096 < countI n size
  · exact .inr (.inr (.inr (.inr (.inl ⟨h1, h2, h3, h4, h5, by rw [if_neg hn, if_pos h5]⟩))))
  · exact .inr (.inr (.inr (.inr (.inr ⟨h1, h2, h3, h4, h5, by rw [if_neg hn, if_neg h5]⟩))))
end Go.Proofs.YtanbddaecojijaaDoor.SBlk
