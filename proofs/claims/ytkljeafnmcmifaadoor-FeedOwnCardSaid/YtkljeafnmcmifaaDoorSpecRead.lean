/- What is written is read: numbers, frames. No program. -/
import Derived.Test.YtkljeafnmcmifaaDoorFrameD
set_option linter.unusedVariables false
set_option linter.unusedSimpArgs false
namespace Go.Proofs.YtkljeafnmcmifaaDoor.Frm
open Go.Proofs.YtkljeafnmcmifaaDoor.SCode

theorem rByte_ok (b : List UInt8) (at_ : Nat) (x : UInt8) (h : b[at_]? = some x) : rByte b ⟨at_, none⟩ = (⟨at_ + 1, none⟩, x) := by
  obtain ⟨hl, he⟩ := List.getElem?_eq_some_iff.1 h
  unfold rByte
  simp [hl, he]

theorem rNumL_numB (b : List UInt8) (from_ : Nat) (rest : List UInt8) : ∀ (fuel k m acc at_ : Nat), b.drop at_ = numB m ++ rest → fuel + k = 7 → k ≤ 5 → m < 128 ^ (6 - k) → (0 < k → 0 < m) → acc + m * 128 ^ k ≤ 1099511627776 →
    rNumL b from_ fuel k acc ⟨at_, none⟩ = (⟨at_ + (numB m).length, none⟩, acc + m * 128 ^ k) := by
  intro fuel
  induction fuel with
  | zero => intro k m acc at_ _ h _; omega
  | succ fuel ih =>
    intro k m acc at_ hd hf hk hm hz hb
    have hget : ∀ (x : UInt8) (t : List UInt8), numB m = x :: t → b[at_]? = some x := by
      intro x t hx
      have h0 : (b.drop at_)[0]? = some x := by rw [hd, hx]; rfl
      rw [List.getElem?_drop, Nat.add_zero] at h0
      exact h0
    by_cases h128 : m < 128
    · have hs := numB_small m h128
      have hbt := rByte_ok b at_ _ (hget _ _ hs)
      have hm2 : (UInt8.ofNat m).toNat = m := by rw [UInt8.toNat_ofNat']; omega
      have hne : ¬ (UInt8.ofNat m = 0 ∧ 0 < k) := by
        rintro ⟨h1, h2⟩
        have := congrArg UInt8.toNat h1
        rw [hm2] at this
        have h0 : (0 : UInt8).toNat = 0 := rfl
        rw [h0] at this
        have := hz h2
        omega
      unfold rNumL
      simp only [hbt]
      rw [if_neg (by rintro (h | h); omega; exact hne h), hm2, if_pos h128, if_neg (by omega), hs]
      rfl
    · have hs := numB_big m h128
      have hbt := rByte_ok b at_ _ (hget _ _ hs)
      have hm2 : (UInt8.ofNat (m % 128 + 128)).toNat = m % 128 + 128 := by rw [UInt8.toNat_ofNat']; omega
      have hne : ¬ (UInt8.ofNat (m % 128 + 128) = 0 ∧ 0 < k) := by
        rintro ⟨h1, h2⟩
        have := congrArg UInt8.toNat h1
        rw [hm2] at this
        have h0 : (0 : UInt8).toNat = 0 := rfl
        rw [h0] at this
        omega
      unfold rNumL
      simp only [hbt]
      have hk5 : k ≠ 5 := by
        rintro rfl
        simp at hm
        omega
      have hp : 128 ^ (6 - k) = 128 * 128 ^ (6 - (k + 1)) := by
        rw [show 6 - k = (6 - (k + 1)) + 1 by omega, Nat.pow_succ, Nat.mul_comm]
      have e1 : acc + (m % 128 + 128) % 128 * 128 ^ k + m / 128 * 128 ^ (k + 1) = acc + m * 128 ^ k := by
        have h1 : (m % 128 + 128) % 128 = m % 128 := by omega
        have h2 : m = m % 128 + 128 * (m / 128) := by omega
        rw [h1, Nat.pow_succ]
        conv => rhs; rw [h2, Nat.add_mul]
        rw [Nat.add_assoc, Nat.mul_assoc, Nat.mul_comm 128 (m / 128 * 128 ^ k), Nat.mul_assoc]
      rw [if_neg (by rintro (h | h); omega; exact hne h), hm2, if_neg (by omega)]
      rw [ih (k + 1) (m / 128) _ (at_ + 1) ?_ (by omega) (by omega) (by rw [hp] at hm; exact Nat.div_lt_of_lt_mul hm) (fun _ => by omega) (by rw [e1]; exact hb), e1, hs]
      · simp [Nat.add_assoc, Nat.add_comm]
      · rw [← List.drop_drop, hd, hs]; rfl

theorem rNum_numB (b : List UInt8) (rest : List UInt8) (m at_ : Nat) (hd : b.drop at_ = numB m ++ rest) (hm : m ≤ 1099511627776) : rNum b ⟨at_, none⟩ = (⟨at_ + (numB m).length, none⟩, m) := by
  unfold rNum
  simp only []
  rw [rNumL_numB b at_ rest 7 0 m 0 at_ hd rfl (by omega) (by simp; omega) (fun h => by omega) (by simp; omega)]
  simp

theorem headB_toNat (k s : Int) (h1 : 1 ≤ k) (h2 : k ≤ 31) (h3 : 0 ≤ s) (h4 : s ≤ 7) : (((headB k s).toNat / 8 : Nat) : Int) = k ∧ (((headB k s).toNat % 8 : Nat) : Int) = s := by
  have : (headB k s).toNat = (k * 8 + s).toNat := by unfold headB PB.b8; rw [UInt8.toNat_ofNat']; omega
  rw [this]
  omega

/-- A frame that is written is read as it was, whatever lies behind it. -/
theorem readS_frameB (k s : Int) (xs rest : List UInt8) (h : checkE k s xs.length = 0) : ∃ a c : Nat, (a : Int) = k ∧ (c : Int) = s ∧ readS (frameB k s xs ++ rest) = (a, c, xs, (frameB k s xs).length, none) := by
  obtain ⟨h1, h2, h3, h4, h5⟩ := checkE_ok h
  obtain ⟨e1, e2⟩ := headB_toNat k s h1 h2 h3 h4
  refine ⟨_, _, e1, e2, ?_⟩
  have hI : numI (xs.length : Int) = numB xs.length := by rw [numI, clampN_nat _ (by omega)]
  have hb : frameB k s xs ++ rest = headB k s :: (numB xs.length ++ (xs ++ rest)) := by simp [frameB, hI]
  have hlen : (frameB k s xs).length = 1 + (numB xs.length).length + xs.length := by simp [frameB, hI]; omega
  rw [hlen, hb]
  have r1 : rByte (headB k s :: (numB xs.length ++ (xs ++ rest))) ⟨0, none⟩ = (⟨1, none⟩, headB k s) := rByte_ok _ 0 _ rfl
  have r2 : rNum (headB k s :: (numB xs.length ++ (xs ++ rest))) ⟨1, none⟩ = (⟨1 + (numB xs.length).length, none⟩, xs.length) := rNum_numB _ (xs ++ rest) _ 1 rfl (by omega)
  have hh : headS (headB k s :: (numB xs.length ++ (xs ++ rest))) = ((headB k s).toNat / 8, (headB k s).toNat % 8, 1 + (numB xs.length).length, xs.length, none) := by
    unfold headS
    simp only [r1, r2]
    rw [if_neg (by omega), if_neg (by omega)]
  unfold readS
  simp only [hh]
  rw [if_neg (by simp; omega)]
  congr 3
  rw [show 1 + (numB xs.length).length = (numB xs.length).length + 1 by omega, List.drop_succ_cons, List.drop_left, List.take_left]
end Go.Proofs.YtkljeafnmcmifaaDoor.Frm
