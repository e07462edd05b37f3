/- Plain law, no program: how the reader goes on. -/
import Derived.Test.YtdicjcpcohclaaaDoorSpecCode
set_option linter.unusedVariables false
namespace Go.Proofs.YtdicjcpcohclaaaDoor.SCode
/-- What went wrong is a number above 0. -/
def pos (r : R) : Prop := ∀ q, r.err = some q → 0 < q.2
theorem pos_none (a : Nat) : pos ⟨a, none⟩ := fun q h => by cases h
theorem pos_fail {r : R} (h : pos r) (a e : Nat) (he : 0 < e) : pos (r.fail a e) := by
  obtain ⟨ra, er⟩ := r
  unfold R.fail
  cases er with
  | some q => exact h
  | none => exact fun q hq => by injection hq with hq; subst hq; exact he
theorem pos_byte {r : R} (h : pos r) (b : List UInt8) : pos (rByte b r).1 := by
  obtain ⟨a, er⟩ := r
  cases er with
  | some q => exact h
  | none =>
    unfold rByte
    dsimp only
    split
    · exact fun q hq => by cases hq
    · exact fun q hq => by injection hq with hq; subst hq; show 0 < 30; decide
theorem pos_numL (b : List UInt8) (f : Nat) : ∀ (fuel k n : Nat) (r : R), pos r → pos (rNumL b f fuel k n r).1 := by
  intro fuel
  induction fuel with
  | zero => intro k n r h; exact h
  | succ m ih =>
    intro k n r h
    have hb := pos_byte h b
    unfold rNumL
    dsimp only
    split
    · exact hb
    · split
      · exact pos_fail hb _ _ (by decide)
      · split
        · split
          · exact pos_fail hb _ _ (by decide)
          · exact hb
        · exact ih _ _ _ hb
theorem pos_num {r : R} (h : pos r) (b : List UInt8) : pos (rNum b r).1 := by
  unfold rNum
  split
  · exact h
  · exact pos_numL _ _ _ _ _ _ h
theorem byte_at {b : List UInt8} {r : R} (h : (rByte b r).1.err = none) : (rByte b r).1.at_ = r.at_ + 1 := by
  obtain ⟨a, er⟩ := r
  cases er with
  | some q => cases h
  | none =>
    unfold rByte at h ⊢
    dsimp only at h ⊢
    split at h
    · rename_i hl; rw [dif_pos hl]
    · cases h
theorem fail_err {r : R} {a e : Nat} : (r.fail a e).err ≠ none := by
  obtain ⟨ra, er⟩ := r
  unfold R.fail
  cases er <;> simp
theorem numL_at (b : List UInt8) (f : Nat) : ∀ (fuel k n : Nat) (r : R), (rNumL b f fuel k n r).1.err = none → r.at_ + (if fuel = 0 then 0 else 1) ≤ (rNumL b f fuel k n r).1.at_ := by
  intro fuel
  induction fuel with
  | zero => intro k n r h; exact Nat.le_refl _
  | succ m ih =>
    intro k n r h
    rw [if_neg (by omega)]
    unfold rNumL at h ⊢
    dsimp only at h ⊢
    split at h
    · rename_i q hq; rw [hq] at h; cases h
    · rename_i hq
      have ha := byte_at hq
      split at h
      · exact absurd h fail_err
      · rename_i hf
        rw [if_neg hf]
        split at h
        · rename_i hx
          rw [if_pos hx]
          split at h
          · exact absurd h fail_err
          · rename_i hm
            rw [if_neg hm]
            dsimp only
            omega
        · rename_i hx
          rw [if_neg hx]
          have := ih _ _ _ h
          omega
theorem num_at {b : List UInt8} {r : R} (h : (rNum b r).1.err = none) : r.at_ + 1 ≤ (rNum b r).1.at_ := by
  unfold rNum at h ⊢
  split at h
  · rename_i q hq; rw [hq] at h; cases h
  · have := numL_at b r.at_ 7 0 0 r h
    exact this
end Go.Proofs.YtdicjcpcohclaaaDoor.SCode
