/- The weak sum, as numbers. No program. -/
import Derived.Test.YtanbddaecojijaaDoorSpecCode
set_option linter.unusedVariables false
namespace Go.Proofs.YtanbddaecojijaaDoor.SWeak
def wa : List UInt8 → Nat
  | [] => 0
  | x :: l => x.toNat + wa l
def wb : List UInt8 → Nat
  | [] => 0
  | x :: l => (l.length + 1) * x.toNat + wb l
/-- The weak sum of a window. -/
def weak (l : List UInt8) : Nat := wb l % 65536 * 65536 + wa l % 65536
theorem weak_lt (l : List UInt8) : weak l < 4294967296 := by unfold weak; omega
theorem wa_snoc (l : List UInt8) (x : UInt8) : wa (l ++ [x]) = wa l + x.toNat := by
  induction l with
  | nil => simp [wa]
  | cons y l ih => simp only [List.cons_append, wa, ih]; omega
theorem wb_snoc (l : List UInt8) (x : UInt8) : wb (l ++ [x]) = wb l + wa (l ++ [x]) := by
  induction l with
  | nil => simp [wa, wb]
  | cons y l ih =>
    simp only [List.cons_append, wa, wb, ih, List.length_append, List.length_cons, List.length_nil]
    have : (l.length + (0 + 1) + 1) * y.toNat = (l.length + 1) * y.toNat + y.toNat := by rw [← Nat.succ_mul]
    omega
theorem wa_le (l : List UInt8) : wa l ≤ 255 * l.length := by
  induction l with
  | nil => simp [wa]
  | cons y l ih => have := y.toNat_lt; simp only [wa, List.length_cons]; omega
theorem wb_le (l : List UInt8) : wb l ≤ 255 * (l.length * l.length) := by
  induction l with
  | nil => simp [wb]
  | cons y l ih =>
    have h1 := y.toNat_lt
    have h2 : (l.length + 1) * y.toNat ≤ (l.length + 1) * 255 := Nat.mul_le_mul_left _ (by omega)
    have h3 : (l.length + 1) * (l.length + 1) = l.length * l.length + l.length + l.length + 1 := by
      rw [Nat.mul_succ, Nat.succ_mul]; omega
    simp only [wb, List.length_cons]
    rw [h3]
    generalize l.length * l.length = z at ih
    omega
end Go.Proofs.YtanbddaecojijaaDoor.SWeak
