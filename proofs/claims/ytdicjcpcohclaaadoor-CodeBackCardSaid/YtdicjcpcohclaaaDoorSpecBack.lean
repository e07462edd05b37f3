/- Plain law, no program: what is written is read as it was; cut anywhere it is short there. -/
import Derived.Test.YtdicjcpcohclaaaDoorSpecRd
set_option linter.unusedVariables false
namespace Go.Proofs.YtdicjcpcohclaaaDoor.SCode
/-- Numbers, one behind the other. -/
def nums (l : List Int) : List UInt8 := l.flatMap numI
theorem nums_snoc (l : List Int) (n : Int) : nums (l ++ [n]) = nums l ++ numI n := by simp [nums]
theorem nums_append (l m : List Int) : nums (l ++ m) = nums l ++ nums m := by simp [nums]
theorem nums_take (l : List Int) (j : Nat) (n : Int) (h : l[j]? = some n) : nums (l.take (j + 1)) = nums (l.take j) ++ numI n := by
  rw [List.take_add_one, h]; exact nums_snoc _ _
theorem nums_length (l : List Int) : (nums l).length ≤ 6 * l.length := by
  induction l with
  | nil => simp [nums]
  | cons n l ih =>
    have := numI_length n
    have e : nums (n :: l) = numI n ++ nums l := by simp [nums]
    rw [e, List.length_append, List.length_cons]
    omega
theorem nums_split (l : List Int) (j : Nat) (n : Int) (h : l[j]? = some n) : nums l = nums (l.take j) ++ numI n ++ nums (l.drop (j + 1)) := by
  rw [← nums_take l j n h, ← nums_append, List.take_append_drop]
theorem back_num (l : List Int) (s : List UInt8) (j : Nat) (n : Int) (h : l[j]? = some n) : rNum (nums l ++ textB s) ⟨(nums (l.take j)).length, none⟩ = (⟨(nums (l.take (j + 1))).length, none⟩, clampN n) := by
  rw [rNum_numB (nums l ++ textB s) (nums (l.drop (j + 1)) ++ textB s) (clampN n) _ ?_ (clampN_le n), nums_take l j n h, List.length_append]
  · rfl
  · rw [nums_split l j n h, List.append_assoc, List.append_assoc, List.drop_left]
    rfl
theorem back_text (l : List Int) (s : List UInt8) (hs : s.length ≤ 4096) : rText (nums l ++ textB s) ⟨(nums l).length, none⟩ = (⟨(nums l ++ textB s).length, none⟩, s) := by
  rw [rText_textB (nums l ++ textB s) [] s (nums l).length (by simp) hs, List.length_append]
theorem clamp_int (n : Int) : max 0 (min n 1099511627776) = (clampN n : Int) := by
  unfold clampN
  split
  · omega
  · split <;> omega
/-- Where a reader of the first 'c' bytes is, after j numbers. -/
def cutR (l : List Int) (c j : Nat) : R := if (nums (l.take j)).length ≤ c then ⟨(nums (l.take j)).length, none⟩ else ⟨c, some (c, 30)⟩
theorem take_ge (x y : List UInt8) (k : Nat) (h : x.length ≤ k) : (x ++ y).take k = x ++ y.take (k - x.length) := by
  rw [List.take_append, List.take_of_length_le h]
theorem cut_num (l : List Int) (s : List UInt8) (c j : Nat) (n : Int) (hc : c ≤ (nums l ++ textB s).length) (h : l[j]? = some n) : (rNum ((nums l ++ textB s).take c) (cutR l c j)).1 = cutR l c (j + 1) := by
  have hcl : ((nums l ++ textB s).take c).length = c := by rw [List.length_take]; omega
  have hle : (nums (l.take j)).length ≤ (nums (l.take (j + 1))).length := by rw [nums_take l j n h, List.length_append]; omega
  unfold cutR
  by_cases h1 : (nums (l.take j)).length ≤ c
  · rw [if_pos h1]
    have hd : (nums l ++ textB s).drop (nums (l.take j)).length = numI n ++ (nums (l.drop (j + 1)) ++ textB s) := by
      rw [nums_split l j n h, List.append_assoc, List.append_assoc, List.drop_left]
    have hdt : ((nums l ++ textB s).take c).drop (nums (l.take j)).length = (numI n ++ (nums (l.drop (j + 1)) ++ textB s)).take (c - (nums (l.take j)).length) := by
      rw [List.drop_take, hd]
    have hl : (nums (l.take (j + 1))).length = (nums (l.take j)).length + (numI n).length := by rw [nums_take l j n h, List.length_append]
    by_cases h2 : (nums (l.take (j + 1))).length ≤ c
    · rw [if_pos h2]
      rw [take_ge (numI n) _ _ (by omega)] at hdt
      rw [rNum_numB _ _ (clampN n) _ hdt (clampN_le n), hl]
      rfl
    · rw [if_neg h2]
      rw [List.take_append_of_le_length (l₁ := numI n) (l₂ := nums (l.drop (j + 1)) ++ textB s) (by omega)] at hdt
      have := rNum_cut ((nums l ++ textB s).take c) ((numI n).drop (c - (nums (l.take j)).length)) (clampN n) (nums (l.take j)).length (by rw [hcl]; exact h1) (by rw [hdt, List.take_append_drop]; rfl) (by rw [List.length_drop]; omega) (clampN_le n)
      rw [this, hcl]
  · rw [if_neg h1, if_neg (by omega)]
    rfl
theorem cut_text (l : List Int) (s : List UInt8) (c : Nat) (hs : s.length ≤ 4096) (hc : c < (nums l ++ textB s).length) : (rText ((nums l ++ textB s).take c) (cutR l c l.length)).1.err = some (c, 30) := by
  have hcl : ((nums l ++ textB s).take c).length = c := by rw [List.length_take]; omega
  unfold cutR
  rw [List.take_length]
  by_cases h1 : (nums l).length ≤ c
  · rw [if_pos h1]
    have hdt : ((nums l ++ textB s).take c).drop (nums l).length = (numB s.length ++ s).take (c - (nums l).length) := by
      rw [List.drop_take, List.drop_left, textB_eq s hs]
    rw [textB_eq s hs, List.length_append, List.length_append] at hc
    by_cases h2 : (nums l).length + (numB s.length).length ≤ c
    · rw [take_ge (numB s.length) s _ (by omega)] at hdt
      have hn := rNum_numB _ _ s.length _ hdt (by omega)
      unfold rText
      simp only [hn]
      rw [if_neg (by omega), if_pos (by rw [hcl]; omega), hcl]
      rfl
    · rw [List.take_append_of_le_length (l₁ := numB s.length) (l₂ := s) (by omega)] at hdt
      have hn := rNum_cut ((nums l ++ textB s).take c) ((numB s.length).drop (c - (nums l).length)) s.length (nums l).length (by rw [hcl]; exact h1) (by rw [hdt, List.take_append_drop]) (by rw [List.length_drop]; omega) (by omega)
      unfold rText
      simp only [hn]
      rw [hcl]
  · rw [if_neg h1]
    rfl
end Go.Proofs.YtdicjcpcohclaaaDoor.SCode
