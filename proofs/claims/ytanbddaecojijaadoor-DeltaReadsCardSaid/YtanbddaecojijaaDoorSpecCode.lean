/- Plain law, no program: how numbers and texts are written as bytes and read (chapter 03). -/
set_option linter.unusedVariables false
namespace Go.Proofs.YtanbddaecojijaaDoor.SCode

/-- A number's digits to the base 128. -/
def numB (n : Nat) : List UInt8 := if n < 128 then [UInt8.ofNat n] else UInt8.ofNat (n % 128 + 128) :: numB (n / 128)
termination_by n
decreasing_by omega

/-- What a number is cut to. -/
def clampN (n : Int) : Nat := if n < 0 then 0 else if 1099511627776 < n then 1099511627776 else n.toNat
def numI (n : Int) : List UInt8 := numB (clampN n)
theorem clampN_le (n : Int) : clampN n ≤ 1099511627776 := by unfold clampN; split; omega; split <;> omega
theorem clampN_nat (n : Nat) (h : n ≤ 1099511627776) : clampN n = n := by unfold clampN; rw [if_neg (by omega), if_neg (by omega)]; simp

theorem numB_small (n : Nat) (h : n < 128) : numB n = [UInt8.ofNat n] := by rw [numB, if_pos h]
theorem numB_big (n : Nat) (h : ¬ n < 128) : numB n = UInt8.ofNat (n % 128 + 128) :: numB (n / 128) := by rw [numB, if_neg h]

theorem numB_length_le (k : Nat) : ∀ n, n < 128 ^ (k + 1) → (numB n).length ≤ k + 1 := by
  induction k with
  | zero => intro n h; rw [numB_small n (by simpa using h)]; simp
  | succ k ih =>
    intro n h
    by_cases hn : n < 128
    · rw [numB_small n hn]; simp
    · rw [numB_big n hn, List.length_cons]
      have := ih (n / 128) (by rw [Nat.div_lt_iff_lt_mul (by omega)]; rw [Nat.pow_succ] at h; exact h)
      omega
theorem numB_length_six (n : Nat) (h : n ≤ 1099511627776) : (numB n).length ≤ 6 := numB_length_le 5 n (by omega)
theorem numI_length (n : Int) : (numI n).length ≤ 6 := numB_length_six _ (clampN_le n)
theorem numB_pos (n : Nat) : 0 < (numB n).length := by
  by_cases hn : n < 128
  · rw [numB_small n hn]; simp
  · rw [numB_big n hn]; simp

/-- Its last digit alone is below 128. -/
theorem numB_last (n : Nat) : ∀ (i : Nat) (h : i < (numB n).length), ((numB n)[i].toNat < 128 ↔ i + 1 = (numB n).length) := by
  induction n using Nat.strongRecOn with
  | _ n ih =>
    by_cases hn : n < 128
    · intro i h
      have e := numB_small n hn
      have hl : (numB n).length = 1 := by rw [e]; rfl
      have hi : i = 0 := by omega
      subst hi
      have : (numB n)[0] = UInt8.ofNat n := by simp [e]
      rw [this, UInt8.toNat_ofNat', hl]
      omega
    · intro i h
      have e := numB_big n hn
      have hp := numB_pos (n / 128)
      have hl : (numB n).length = (numB (n / 128)).length + 1 := by rw [e]; rfl
      cases i with
      | zero =>
        have : (numB n)[0] = UInt8.ofNat (n % 128 + 128) := by simp [e]
        rw [this, UInt8.toNat_ofNat']
        omega
      | succ i =>
        have hi : i < (numB (n / 128)).length := by omega
        have : (numB n)[i + 1] = (numB (n / 128))[i] := by simp [e]
        rw [this, ih (n / 128) (by omega) i hi, hl]
        omega
theorem numB_mono (a : Nat) : ∀ b, a ≤ b → (numB a).length ≤ (numB b).length := by
  induction a using Nat.strongRecOn with
  | _ a ih =>
    intro b hab
    by_cases ha : a < 128
    · rw [numB_small a ha]
      have := numB_pos b
      show 1 ≤ _
      omega
    · rw [numB_big a ha, numB_big b (by omega)]
      have := ih (a / 128) (by omega) (b / 128) (Nat.div_le_div_right hab)
      simpa using this
theorem numB_inj (a : Nat) : ∀ b, numB a = numB b → a = b := by
  induction a using Nat.strongRecOn with
  | _ a ih =>
    intro b h
    by_cases ha : a < 128
    · by_cases hb : b < 128
      · rw [numB_small a ha, numB_small b hb] at h
        have h2 := congrArg UInt8.toNat (List.head_eq_of_cons_eq h)
        rw [UInt8.toNat_ofNat', UInt8.toNat_ofNat'] at h2
        omega
      · rw [numB_small a ha, numB_big b hb] at h
        have h2 := List.tail_eq_of_cons_eq h
        have := numB_pos (b / 128)
        rw [← h2] at this
        simp at this
    · by_cases hb : b < 128
      · rw [numB_big a ha, numB_small b hb] at h
        have h2 := List.tail_eq_of_cons_eq h
        have := numB_pos (a / 128)
        rw [h2] at this
        simp at this
      · rw [numB_big a ha, numB_big b hb] at h
        have h1 := congrArg UInt8.toNat (List.head_eq_of_cons_eq h)
        have h2 := ih (a / 128) (by omega) (b / 128) (List.tail_eq_of_cons_eq h)
        rw [UInt8.toNat_ofNat', UInt8.toNat_ofNat'] at h1
        omega

/-- Text: its length, and its first 4096 bytes. -/
def textB (s : List UInt8) : List UInt8 := numB (s.take 4096).length ++ s.take 4096

/-! ### the reader: where it is, and what went wrong (place, number) -/
structure R where
  at_ : Nat
  err : Option (Nat × Nat)
deriving DecidableEq

def R.fail (r : R) (a e : Nat) : R := match r.err with | none => { r with err := some (a, e) } | some _ => r

def rByte (b : List UInt8) (r : R) : R × UInt8 :=
  match r.err with
  | some _ => (r, 0)
  | none => if h : r.at_ < b.length then ({ r with at_ := r.at_ + 1 }, b[r.at_]) else ({ r with err := some (r.at_, 30) }, 0)

/-- The digits of a number from digit k on, 'n' what was read of it, the number's first place 'from_'. -/
def rNumL (b : List UInt8) (from_ : Nat) : (fuel : Nat) → (k : Nat) → (n : Nat) → R → R × Nat
  | 0, _, _, r => (r, 0)
  | fuel + 1, k, n, r =>
    let q := rByte b r
    match q.1.err with
    | some _ => (q.1, 0)
    | none =>
      if k = 6 ∨ (q.2 = 0 ∧ 0 < k) then (q.1.fail from_ 31, 0)
      else if q.2.toNat < 128 then
        (if n + q.2.toNat * 128 ^ k > 1099511627776 then (q.1.fail from_ 1, 0) else (q.1, n + q.2.toNat * 128 ^ k))
      else rNumL b from_ fuel (k + 1) (n + q.2.toNat % 128 * 128 ^ k) q.1
def rNum (b : List UInt8) (r : R) : R × Nat := match r.err with | some _ => (r, 0) | none => rNumL b r.at_ 7 0 0 r

def rText (b : List UInt8) (r : R) : R × List UInt8 :=
  let q := rNum b r
  match q.1.err with
  | some _ => (q.1, [])
  | none =>
    if q.2 > 4096 then (q.1.fail r.at_ 2, [])
    else if q.2 > b.length - q.1.at_ then (q.1.fail b.length 30, [])
    else ({ q.1 with at_ := q.1.at_ + q.2 }, (b.drop q.1.at_).take q.2)

def rSum (b : List UInt8) (r : R) : R × List UInt8 :=
  match r.err with
  | some _ => (r, List.replicate 32 0)
  | none => if b.length - r.at_ < 32 then (r.fail b.length 30, List.replicate 32 0) else ({ r with at_ := r.at_ + 32 }, (b.drop r.at_).take 32)

def rEnd (b : List UInt8) (r : R) : R :=
  match r.err with
  | some _ => r
  | none => if r.at_ < b.length then r.fail r.at_ 31 else r
end Go.Proofs.YtanbddaecojijaaDoor.SCode
