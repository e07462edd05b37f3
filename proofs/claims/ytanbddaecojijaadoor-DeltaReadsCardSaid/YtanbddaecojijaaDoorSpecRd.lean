/- Plain law, no program: how the reader goes on. -/
import Derived.Test.YtanbddaecojijaaDoorSpecCode
set_option linter.unusedVariables false
namespace Go.Proofs.YtanbddaecojijaaDoor.SCode
/-- What went wrong is a number above 0. -/
def pos (r : R) : Prop := ∀ q, r.err = some q → 0 < q.2
theorem pos_none (a : Nat) : pos ⟨a, none⟩ := fun q h => by cases h
theorem pos_fail {r : R} (h : pos r) (a e : Nat) (he : 0 < e) : pos (r.fail a e) := by
  obtain ⟨ra, er⟩ := r
  unfold R.fail
  cases er with
  | some q => exact h
  | none => exact fun q hq => by injection hq with hq; subst hq; exact he
theorem pos_byte {r : R} (h : pos r) (b : List UInt8) : pos (rByte b r).1 := by
  obtain ⟨a, er⟩ := r
  cases er with
  | some q => exact h
  | none =>
    unfold rByte
    dsimp only
    split
    · exact fun q hq => by cases hq
    · exact fun q hq => by injection hq with hq; subst hq; show 0 < 30; decide
theorem pos_numL (b : List UInt8) (f : Nat) : ∀ (fuel k n : Nat) (r : R), pos r → pos (rNumL b f fuel k n r).1 := by
  intro fuel
  induction fuel with
  | zero => intro k n r h; exact h
  | succ m ih =>
    intro k n r h
    have hb := pos_byte h b
    unfold rNumL
    dsimp only
    split
    · exact hb
    · split
      · exact pos_fail hb _ _ (by decide)
      · split
        · split
          · exact pos_fail hb _ _ (by decide)
          · exact hb
        · exact ih _ _ _ hb
theorem pos_num {r : R} (h : pos r) (b : List UInt8) : pos (rNum b r).1 := by
  unfold rNum
  split
  · exact h
  · exact pos_numL _ _ _ _ _ _ h
theorem byte_at {b : List UInt8} {r : R} (h : (rByte b r).1.err = none) : (rByte b r).1.at_ = r.at_ + 1 := by
  obtain ⟨a, er⟩ := r
  cases er with
  | some q => cases h
  | none =>
    unfold rByte at h ⊢
    dsimp only at h ⊢
    split at h
    · rename_i hl; rw [dif_pos hl]
    · cases h
theorem fail_err {r : R} {a e : Nat} : (r.fail a e).err ≠ none := by
  obtain ⟨ra, er⟩ := r
  unfold R.fail
  cases er <;> simp
theorem numL_at (b : List UInt8) (f : Nat) : ∀ (fuel k n : Nat) (r : R), (rNumL b f fuel k n r).1.err = none → r.at_ + (if fuel = 0 then 0 else 1) ≤ (rNumL b f fuel k n r).1.at_ := by
  intro fuel
  induction fuel with
  | zero => intro k n r h; exact Nat.le_refl _
  | succ m ih =>
    intro k n r h
    rw [if_neg (by omega)]
    unfold rNumL at h ⊢
    dsimp only at h ⊢
    split at h
    · rename_i q hq; rw [hq] at h; cases h
    · rename_i hq
      have ha := byte_at hq
      split at h
      · exact absurd h fail_err
      · rename_i hf
        rw [if_neg hf]
        split at h
        · rename_i hx
          rw [if_pos hx]
          split at h
          · exact absurd h fail_err
          · rename_i hm
            rw [if_neg hm]
            dsimp only
            omega
        · rename_i hx
          rw [if_neg hx]
          have := ih _ _ _ h
          omega
theorem num_at {b : List UInt8} {r : R} (h : (rNum b r).1.err = none) : r.at_ + 1 ≤ (rNum b r).1.at_ := by
  unfold rNum at h ⊢
  split at h
  · rename_i q hq; rw [hq] at h; cases h
  · have := numL_at b r.at_ 7 0 0 r h
    exact this
theorem rByte_ok (b : List UInt8) (at_ : Nat) (x : UInt8) (h : b[at_]? = some x) : rByte b ⟨at_, none⟩ = (⟨at_ + 1, none⟩, x) := by
  obtain ⟨hl, he⟩ := List.getElem?_eq_some_iff.1 h
  unfold rByte
  simp [hl, he]

theorem rNumL_numB (b : List UInt8) (from_ : Nat) (rest : List UInt8) : ∀ (fuel k m acc at_ : Nat), b.drop at_ = numB m ++ rest → fuel + k = 7 → k ≤ 5 → m < 128 ^ (6 - k) → (0 < k → 0 < m) → acc + m * 128 ^ k ≤ 1099511627776 →
    rNumL b from_ fuel k acc ⟨at_, none⟩ = (⟨at_ + (numB m).length, none⟩, acc + m * 128 ^ k) := by
  intro fuel
  induction fuel with
  | zero => intro k m acc at_ _ h _; omega
  | succ fuel ih =>
    intro k m acc at_ hd hf hk hm hz hb
    have hget : ∀ (x : UInt8) (t : List UInt8), numB m = x :: t → b[at_]? = some x := by
      intro x t hx
      have h0 : (b.drop at_)[0]? = some x := by rw [hd, hx]; rfl
      rw [List.getElem?_drop, Nat.add_zero] at h0
      exact h0
    by_cases h128 : m < 128
    · have hs := numB_small m h128
      have hbt := rByte_ok b at_ _ (hget _ _ hs)
      have hm2 : (UInt8.ofNat m).toNat = m := by rw [UInt8.toNat_ofNat']; omega
      have hne : ¬ (UInt8.ofNat m = 0 ∧ 0 < k) := by
        rintro ⟨h1, h2⟩
        have := congrArg UInt8.toNat h1
        rw [hm2] at this
        have h0 : (0 : UInt8).toNat = 0 := rfl
        rw [h0] at this
        have := hz h2
        omega
      unfold rNumL
      simp only [hbt]
      rw [if_neg (by rintro (h | h); omega; exact hne h), hm2, if_pos h128, if_neg (by omega), hs]
      rfl
    · have hs := numB_big m h128
      have hbt := rByte_ok b at_ _ (hget _ _ hs)
      have hm2 : (UInt8.ofNat (m % 128 + 128)).toNat = m % 128 + 128 := by rw [UInt8.toNat_ofNat']; omega
      have hne : ¬ (UInt8.ofNat (m % 128 + 128) = 0 ∧ 0 < k) := by
        rintro ⟨h1, h2⟩
        have := congrArg UInt8.toNat h1
        rw [hm2] at this
        have h0 : (0 : UInt8).toNat = 0 := rfl
        rw [h0] at this
        omega
      unfold rNumL
      simp only [hbt]
      have hk5 : k ≠ 5 := by
        rintro rfl
        simp at hm
        omega
      have hp : 128 ^ (6 - k) = 128 * 128 ^ (6 - (k + 1)) := by
        rw [show 6 - k = (6 - (k + 1)) + 1 by omega, Nat.pow_succ, Nat.mul_comm]
      have e1 : acc + (m % 128 + 128) % 128 * 128 ^ k + m / 128 * 128 ^ (k + 1) = acc + m * 128 ^ k := by
        have h1 : (m % 128 + 128) % 128 = m % 128 := by omega
        have h2 : m = m % 128 + 128 * (m / 128) := by omega
        rw [h1, Nat.pow_succ]
        conv => rhs; rw [h2, Nat.add_mul]
        rw [Nat.add_assoc, Nat.mul_assoc, Nat.mul_comm 128 (m / 128 * 128 ^ k), Nat.mul_assoc]
      rw [if_neg (by rintro (h | h); omega; exact hne h), hm2, if_neg (by omega)]
      rw [ih (k + 1) (m / 128) _ (at_ + 1) ?_ (by omega) (by omega) (by rw [hp] at hm; exact Nat.div_lt_of_lt_mul hm) (fun _ => by omega) (by rw [e1]; exact hb), e1, hs]
      · simp [Nat.add_assoc, Nat.add_comm]
      · rw [← List.drop_drop, hd, hs]; rfl

theorem rNum_numB (b : List UInt8) (rest : List UInt8) (m at_ : Nat) (hd : b.drop at_ = numB m ++ rest) (hm : m ≤ 1099511627776) : rNum b ⟨at_, none⟩ = (⟨at_ + (numB m).length, none⟩, m) := by
  unfold rNum
  simp only []
  rw [rNumL_numB b at_ rest 7 0 m 0 at_ hd rfl (by omega) (by simp; omega) (fun h => by omega) (by simp; omega)]
  simp

theorem textB_eq (s : List UInt8) (h : s.length ≤ 4096) : textB s = numB s.length ++ s := by
  unfold textB; rw [List.take_of_length_le h]
/-- A text that was written is read. -/
theorem rText_textB (b rest s : List UInt8) (at_ : Nat) (hd : b.drop at_ = textB s ++ rest) (hs : s.length ≤ 4096) : rText b ⟨at_, none⟩ = (⟨at_ + (textB s).length, none⟩, s) := by
  rw [textB_eq s hs] at hd ⊢
  rw [List.append_assoc] at hd
  have hn := rNum_numB b (s ++ rest) s.length at_ hd (by omega)
  have hd2 : b.drop (at_ + (numB s.length).length) = s ++ rest := by rw [← List.drop_drop, hd, List.drop_left]
  have hl := congrArg List.length hd2
  simp only [List.length_drop, List.length_append] at hl
  unfold rText
  simp only [hn]
  rw [if_neg (by omega), if_neg (by omega), hd2, List.take_left]
  simp [Nat.add_assoc]
/-- One that is too long. -/
theorem rText_long (b rest : List UInt8) (n at_ : Nat) (hd : b.drop at_ = numB n ++ rest) (h1 : 4096 < n) (h2 : n ≤ 1099511627776) : rText b ⟨at_, none⟩ = (⟨at_ + (numB n).length, some (at_, 2)⟩, []) := by
  have hn := rNum_numB b rest n at_ hd h2
  unfold rText
  simp only [hn]
  rw [if_pos h1]
  rfl
/-- A number that is cut. -/
theorem rNumL_cut (b : List UInt8) (from_ : Nat) (rest : List UInt8) : ∀ (fuel k m acc at_ : Nat) (p : List UInt8), at_ ≤ b.length → numB m = b.drop at_ ++ p → 0 < p.length → fuel + k = 7 → m < 128 ^ (6 - k) → k ≤ 5 →
    rNumL b from_ fuel k acc ⟨at_, none⟩ = (⟨b.length, some (b.length, 30)⟩, 0) := by
  intro fuel
  induction fuel with
  | zero => intro k m acc at_ p _ _ _ h _ _; omega
  | succ fuel ih =>
    intro k m acc at_ p hat hd hp hf hm hk
    by_cases hlt : at_ < b.length
    · have hx : b.drop at_ = b[at_] :: b.drop (at_ + 1) := List.drop_eq_getElem_cons hlt
      have hbt := rByte_ok b at_ _ (List.getElem?_eq_getElem hlt)
      have h128 : ¬ m < 128 := by
        intro h
        rw [numB_small m h, hx] at hd
        have := congrArg List.length hd
        simp at this
        omega
      rw [numB_big m h128, hx, List.cons_append] at hd
      obtain ⟨e1, e2⟩ := List.cons.inj hd
      have hm2 : (UInt8.ofNat (m % 128 + 128)).toNat = m % 128 + 128 := by rw [UInt8.toNat_ofNat']; omega
      rw [← e1] at hbt
      have hne : ¬ (UInt8.ofNat (m % 128 + 128) = 0 ∧ 0 < k) := by
        rintro ⟨h1, h2⟩
        have := congrArg UInt8.toNat h1
        rw [hm2] at this
        have h0 : (0 : UInt8).toNat = 0 := rfl
        rw [h0] at this
        omega
      unfold rNumL
      simp only [hbt]
      have hk5 : k ≠ 5 := by
        rintro rfl
        simp at hm
        omega
      have hpw : 128 ^ (6 - k) = 128 * 128 ^ (6 - (k + 1)) := by
        rw [show 6 - k = (6 - (k + 1)) + 1 by omega, Nat.pow_succ, Nat.mul_comm]
      rw [if_neg (by rintro (h | h); omega; exact hne h), hm2, if_neg (by omega)]
      exact ih (k + 1) (m / 128) _ (at_ + 1) p (by omega) e2 hp (by omega) (by rw [hpw] at hm; exact Nat.div_lt_of_lt_mul hm) (by omega)
    · have hb : rByte b ⟨at_, none⟩ = (⟨at_, some (at_, 30)⟩, 0) := by
        unfold rByte
        simp only []
        rw [dif_neg hlt]
      obtain rfl : at_ = b.length := by omega
      unfold rNumL
      simp only [hb]
theorem rNum_cut (b p : List UInt8) (m at_ : Nat) (hat : at_ ≤ b.length) (hd : numB m = b.drop at_ ++ p) (hp : 0 < p.length) (hm : m ≤ 1099511627776) : rNum b ⟨at_, none⟩ = (⟨b.length, some (b.length, 30)⟩, 0) := by
  unfold rNum
  simp only []
  exact rNumL_cut b at_ [] 7 0 m 0 at_ p hat hd hp rfl (by simp; omega) (by omega)
end Go.Proofs.YtanbddaecojijaaDoor.SCode
