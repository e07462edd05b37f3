/- Where a block is found: plain. -/
import Derived.Test.YtinjkebhamhenaaTab
set_option linter.unusedVariables false
namespace Go.Proofs.Ytinjkebhamhenaa.Blk
open Go.Proofs.Ytinjkebhamhenaa.Bk Go.Proofs.Ytinjkebhamhenaa.SBlk

/-- Whether the i-th block is the one with these sums and so many bytes. -/
def hit (s L : Nat) (t : BK) (m : Nat) (i : Nat) (b : BK) : Bool := decide (min s (L - i * s) = m) && decide (b = t)
def findL (p : Nat → BK → Bool) : Nat → List BK → Option Nat
  | _, [] => none
  | i, b :: bs => if p i b = true then some i else findL p (i + 1) bs
def hitZ (p : Nat → BK → Bool) (bs : List BK) (z : Int) : Bool := match bs[z.toNat]? with | some b => p z.toNat b | none => false
theorem find_idxL (p : Nat → BK → Bool) (n : Nat) (hp : ∀ i b, p i b = true → b.w = n) : ∀ (bs pre : List BK), (idxL pre.length bs n).find? (hitZ p (pre ++ bs)) = (findL p pre.length bs).map (fun i : Nat => (i : Int))
  | [], pre => rfl
  | b :: bs, pre => by
    have ih := find_idxL p n hp bs (pre ++ [b])
    rw [List.length_append, List.length_singleton, List.append_assoc, List.singleton_append] at ih
    have hz : hitZ p (pre ++ b :: bs) (pre.length : Int) = p pre.length b := by unfold hitZ; simp
    rw [idxL, findL]
    by_cases hb : b.w = n
    · rw [if_pos hb, List.find?_cons, hz]
      cases h : p pre.length b
      · simp only [Bool.false_eq_true, if_false]; exact ih
      · simp
    · rw [if_neg hb, ih, if_neg (fun h => hb (hp _ _ h))]
theorem find_idx (p : Nat → BK → Bool) (n : Nat) (hp : ∀ i b, p i b = true → b.w = n) (bs : List BK) : (idx bs n).find? (hitZ p bs) = (findL p 0 bs).map (fun i : Nat => (i : Int)) := find_idxL p n hp bs []
theorem hit_w {s L : Nat} {t : BK} {m i : Nat} {b : BK} (h : hit s L t m i b = true) : b.w = t.w := by
  unfold hit at h
  simp at h
  rw [h.2]
/-- In steps over the places. -/
theorem find_none {α : Type} {q : α → Bool} {zs : List α} (h : ∀ (j : Nat) (z : α), zs[j]? = some z → q z = false) : zs.find? q = none := by
  rw [List.find?_eq_none]
  intro z hz
  obtain ⟨j, hj⟩ := List.getElem?_of_mem hz
  simp [h j z hj]
theorem find_some {α : Type} {q : α → Bool} {zs : List α} {j : Nat} {z : α} (hz : zs[j]? = some z) (hq : q z = true) (h : ∀ (k : Nat) (y : α), k < j → zs[k]? = some y → q y = false) : zs.find? q = some z := by
  induction zs generalizing j with
  | nil => simp at hz
  | cons x xs ih =>
    cases j with
    | zero => simp at hz; subst hz; simp [hq]
    | succ j =>
      rw [List.find?_cons, h 0 x (by omega) rfl]
      simp only [List.getElem?_cons_succ] at hz
      exact ih hz (fun k y hk hy => h (k + 1) y (by omega) hy)
/-- What is told of a place that may be none. -/
def fnd (r : Option Nat) : Int × Bool := match r with | some i => ((i : Int), true) | none => (0, false)
theorem findL_lt (p : Nat → BK → Bool) : ∀ (bs : List BK) (i j : Nat), findL p i bs = some j → i ≤ j ∧ j < i + bs.length
  | [], _, _, h => by cases h
  | b :: bs, i, j, h => by
    rw [findL] at h
    split at h
    · injection h with h; subst h; simp
    · have := findL_lt p bs (i + 1) j h
      simp only [List.length_cons]
      omega
end Go.Proofs.Ytinjkebhamhenaa.Blk
