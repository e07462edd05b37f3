/- What raw sums of blocks are refused for: plain. -/
import Derived.Test.YtanbddaecojijaaDoorSpecBlk
set_option linter.unusedVariables false
namespace Go.Proofs.YtanbddaecojijaaDoor.SBlk
open Go.Proofs.YtanbddaecojijaaDoor.Bk

/-- Noughts behind the cut. -/
def clean (cut : Nat) (b : BK) : Bool := (b.st.drop cut).all (· == 0)
def chkE (size cut len : Int) (bs : List BK) : Int :=
  if size < 1 ∨ 4096 < size ∨ cut < 0 ∨ 32 < cut ∨ len < 0 then 1 else if 4096 < countI len size then 2 else if (bs.length : Int) ≠ countI len size then 31 else if bs.all (clean cut.toNat) = true then 0 else 31
theorem chk_cases (size cut len : Int) (bs : List BK) : (size < 1 ∧ chkE size cut len bs = 1) ∨ (¬ size < 1 ∧ 4096 < size ∧ chkE size cut len bs = 1) ∨ (¬ size < 1 ∧ ¬ 4096 < size ∧ cut < 0 ∧ chkE size cut len bs = 1) ∨
    (¬ size < 1 ∧ ¬ 4096 < size ∧ ¬ cut < 0 ∧ 32 < cut ∧ chkE size cut len bs = 1) ∨ (¬ size < 1 ∧ ¬ 4096 < size ∧ ¬ cut < 0 ∧ ¬ 32 < cut ∧ len < 0 ∧ chkE size cut len bs = 1) ∨
    (¬ size < 1 ∧ ¬ 4096 < size ∧ ¬ cut < 0 ∧ ¬ 32 < cut ∧ ¬ len < 0 ∧ 4096 < countI len size ∧ chkE size cut len bs = 2) ∨
    (¬ size < 1 ∧ ¬ 4096 < size ∧ ¬ cut < 0 ∧ ¬ 32 < cut ∧ ¬ len < 0 ∧ ¬ 4096 < countI len size ∧ (bs.length : Int) ≠ countI len size ∧ chkE size cut len bs = 31) ∨
    (¬ size < 1 ∧ ¬ 4096 < size ∧ ¬ cut < 0 ∧ ¬ 32 < cut ∧ ¬ len < 0 ∧ ¬ 4096 < countI len size ∧ (bs.length : Int) = countI len size ∧ chkE size cut len bs = if bs.all (clean cut.toNat) = true then 0 else 31) := by
  unfold chkE
  by_cases h1 : size < 1
  · exact .inl ⟨h1, by rw [if_pos (.inl h1)]⟩
  by_cases h2 : 4096 < size
  · exact .inr (.inl ⟨h1, h2, by rw [if_pos (.inr (.inl h2))]⟩)
  by_cases h3 : cut < 0
  · exact .inr (.inr (.inl ⟨h1, h2, h3, by rw [if_pos (.inr (.inr (.inl h3)))]⟩))
  by_cases h4 : 32 < cut
  · exact .inr (.inr (.inr (.inl ⟨h1, h2, h3, h4, by rw [if_pos (.inr (.inr (.inr (.inl h4))))]⟩)))
  by_cases h5 : len < 0
  · exact .inr (.inr (.inr (.inr (.inl ⟨h1, h2, h3, h4, h5, by rw [if_pos (.inr (.inr (.inr (.inr h5))))]⟩))))
  have hn : ¬ (size < 1 ∨ 4096 < size ∨ cut < 0 ∨ 32 < cut ∨ len < 0) := by omega
  rw [if_neg hn]
  by_cases h6 : 4096 < countI len size
  · exact .inr (.inr (.inr (.inr (.inr (.inl ⟨h1, h2, h3, h4, h5, h6, by rw [if_pos h6]⟩)))))
  by_cases h7 : (bs.length : Int) ≠ countI len size
  · exact .inr (.inr (.inr (.inr (.inr (.inr (.inl ⟨h1, h2, h3, h4, h5, h6, h7, by rw [if_neg h6, if_pos h7]⟩))))))
  · exact .inr (.inr (.inr (.inr (.inr (.inr (.inr ⟨h1, h2, h3, h4, h5, h6, by omega, by rw [if_neg h6, if_neg h7]⟩))))))
/-- In steps over the places. -/
theorem clean_true {cut : Nat} {b : BK} (h : ∀ (k : Nat) (x : UInt8), cut ≤ k → b.st[k]? = some x → x = 0) : clean cut b = true := by
  unfold clean
  rw [List.all_eq_true]
  intro x hx
  obtain ⟨j, hj⟩ := List.getElem?_of_mem hx
  rw [List.getElem?_drop] at hj
  simp [h _ x (by omega) hj]
theorem clean_false {cut k : Nat} {b : BK} {x : UInt8} (hk : cut ≤ k) (hx : b.st[k]? = some x) (h0 : x ≠ 0) : clean cut b = false := by
  unfold clean
  rw [List.all_eq_false]
  exact ⟨x, List.mem_of_getElem? (i := k - cut) (by rw [List.getElem?_drop, show cut + (k - cut) = k by omega]; exact hx), by simpa using h0⟩
theorem all_true {p : BK → Bool} {bs : List BK} (h : ∀ (k : Nat) (b : BK), bs[k]? = some b → p b = true) : bs.all p = true := by
  rw [List.all_eq_true]
  intro b hb
  obtain ⟨j, hj⟩ := List.getElem?_of_mem hb
  exact h j b hj
theorem all_false {p : BK → Bool} {bs : List BK} {k : Nat} {b : BK} (hb : bs[k]? = some b) (h : p b = false) : bs.all p = false := by
  rw [List.all_eq_false]
  exact ⟨b, List.mem_of_getElem? hb, by simp [h]⟩
end Go.Proofs.YtanbddaecojijaaDoor.SBlk
