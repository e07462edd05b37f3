/- What tokens make of a file: plain. No program. -/
import Derived.Test.YtnfneokmiopieaaDoorSpecTell
set_option linter.unusedVariables false
namespace Go.Proofs.YtnfneokmiopieaaDoor.SJoin
open Go.RowKit Go.Proofs.YtnfneokmiopieaaDoor.SBlk Go.Proofs.YtnfneokmiopieaaDoor.STell

/-- So many blocks from one on. -/
def blkB (old : List UInt8) (size F C : Int) : List UInt8 := (old.drop (F * size).toNat).take (C * size).toNat
/-- One token more: the error's number, and what is there then. -/
def stepJ (old : List UInt8) (size : Int) (out : List UInt8) (t : Tok) : Int × List UInt8 :=
  if t.2.1 < 0 ∨ t.1 < 0 ∨ (0 < t.2.1 ∧ t.2.2 ≠ []) then (80, [])
  else if 0 < t.2.1 then
    if countI old.length size ≤ t.1 ∨ countI old.length size - t.1 < t.2.1 then (1, [])
    else if 65536 < out.length + (blkB old size t.1 t.2.1).length then (2, []) else (0, out ++ blkB old size t.1 t.2.1)
  else if 65536 < out.length + t.2.2.length then (2, []) else (0, out ++ t.2.2)
def joinL (old : List UInt8) (size : Int) : Nat → List UInt8 → List Tok → List UInt8 × Int × Nat
  | _, out, [] => (out, 0, 0)
  | i, out, t :: ts => if (stepJ old size out t).1 = 0 then joinL old size (i + 1) (stepJ old size out t).2 ts else ([], (stepJ old size out t).1, i)
def joinR (old : List UInt8) (size : Int) (L : List Tok) : List UInt8 × Int × Nat := joinL old size 0 [] L
/-- As the program tells it: the place, the number. -/
def errJ (r : List UInt8 × Int × Nat) : Option (Nat × Nat) := if r.2.1 = 0 then none else some (r.2.2, r.2.1.toNat)
theorem joinL_ok {old : List UInt8} {size : Int} {L : List Tok} {i : Nat} {t : Tok} {out o : List UInt8} (h : L[i]? = some t) (hs : stepJ old size out t = (0, o)) : joinL old size i out (L.drop i) = joinL old size (i + 1) o (L.drop (i + 1)) := by
  obtain ⟨hi, rfl⟩ := List.getElem?_eq_some_iff.1 h
  rw [List.drop_eq_getElem_cons hi, joinL, hs, if_pos rfl]
theorem joinL_err {old : List UInt8} {size e : Int} {L : List Tok} {i : Nat} {t : Tok} {out o : List UInt8} (h : L[i]? = some t) (hs : stepJ old size out t = (e, o)) (he : e ≠ 0) : joinL old size i out (L.drop i) = ([], e, i) := by
  obtain ⟨hi, rfl⟩ := List.getElem?_eq_some_iff.1 h
  rw [List.drop_eq_getElem_cons hi, joinL, hs, if_neg he]
theorem joinL_end {old : List UInt8} {size : Int} {L : List Tok} {out : List UInt8} : joinL old size L.length out (L.drop L.length) = (out, 0, 0) := by
  rw [List.drop_length]; rfl
/-- In numbers. -/
theorem blk_facts {n : Nat} {size F C : Int} (h1 : 0 ≤ F) (h2 : 0 < C) (h3 : F < countI n size) (h4 : C ≤ countI n size - F) (hn : n ≤ 100000) (hs : size ≤ 9223372036854775807) :
    ∃ s f c m1 m3 k : Nat, size = s ∧ F = f ∧ C = c ∧ 1 ≤ s ∧ f < cnt n s ∧ f + c ≤ cnt n s ∧ f * s = m1 ∧ F * size = m1 ∧ (F + C) * size = m3 ∧ (m3 : Int) ≤ 9223372036854775807 ∧ m1 < n ∧ m1 + k ≤ n ∧ (if (n : Int) < (m3 : Int) then (n : Int) else (m3 : Int)) = (m1 : Int) + (k : Int) ∧ F + C ≤ 1000000 ∧ ∀ old : List UInt8, old.length = n → blkB old size F C = (old.drop m1).take k := by
  have hsz : 1 ≤ size := by
    unfold countI at h3
    by_cases h : size < 1 ∨ (n : Int) < 0
    · rw [if_pos h] at h3; omega
    · omega
  obtain ⟨s, rfl⟩ := Int.eq_ofNat_of_zero_le (show 0 ≤ size by omega)
  obtain ⟨f, rfl⟩ := Int.eq_ofNat_of_zero_le h1
  obtain ⟨c, rfl⟩ := Int.eq_ofNat_of_zero_le (show 0 ≤ C by omega)
  rw [countI_nat _ _ (by omega)] at h3 h4
  have hspec := cnt_spec n s (by omega)
  have hcn := cnt_le n s (by omega)
  have hf : f * s < n := (hspec f).1 (by omega)
  have hadd : (f + c) * s = f * s + c * s := Nat.add_mul f c s
  have hcs : s ≤ c * s := Nat.le_mul_of_pos_left s (by omega)
  have hbig : (f + c) * s ≤ 9223372036854775807 := by
    rcases Nat.lt_or_ge 1 (f + c) with h | h
    · have h5 : (f + c - 1) * s < n := (hspec (f + c - 1)).1 (by omega)
      have h6 : (f + c) * s = (f + c - 1) * s + s := by
        conv => lhs; rw [show f + c = (f + c - 1) + 1 by omega, Nat.add_mul, Nat.one_mul]
      have h7 : s ≤ (f + c - 1) * s := Nat.le_mul_of_pos_left s (by omega)
      omega
    · have : f + c = 1 := by omega
      rw [this, Nat.one_mul]; omega
  have e1 : (f : Int) * (s : Int) = ((f * s : Nat) : Int) := (Int.natCast_mul f s).symm
  have e2 : ((f : Int) + (c : Int)) * (s : Int) = (((f + c) * s : Nat) : Int) := by rw [Int.natCast_mul]; rfl
  have e3 : (c : Int) * (s : Int) = ((c * s : Nat) : Int) := (Int.natCast_mul c s).symm
  refine ⟨s, f, c, f * s, (f + c) * s, min ((f + c) * s) n - f * s, rfl, rfl, rfl, by omega, by omega, by omega, rfl, e1, e2, by omega, hf, by omega, by split <;> omega, by omega, fun old ho => ?_⟩
  unfold blkB
  rw [e1, e3, Int.toNat_natCast, Int.toNat_natCast]
  by_cases h : (f + c) * s ≤ n
  · rw [Nat.min_eq_left h, hadd, Nat.add_sub_cancel_left]
  · rw [Nat.min_eq_right (by omega), List.take_of_length_le (by rw [List.length_drop]; omega), List.take_of_length_le (by rw [List.length_drop]; omega)]
end Go.Proofs.YtnfneokmiopieaaDoor.SJoin
