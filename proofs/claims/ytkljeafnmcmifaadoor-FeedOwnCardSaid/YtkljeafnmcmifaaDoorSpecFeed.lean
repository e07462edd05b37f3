/- Frames of bytes that come in pieces: what they are, and that more bytes behind turn nothing. No program. -/
import Derived.Test.YtkljeafnmcmifaaDoorSpecRead
set_option linter.unusedVariables false
set_option linter.unusedSimpArgs false
namespace Go.Proofs.YtkljeafnmcmifaaDoor.Frm
open Go.Proofs.YtkljeafnmcmifaaDoor.B Go.Proofs.YtkljeafnmcmifaaDoor.PB Go.Proofs.YtkljeafnmcmifaaDoor.SCode

/-! ### a reader with more bytes behind -/
theorem rByte_more {b : List UInt8} {r : R} (y : List UInt8) (h : (rByte b r).1.err = none) : rByte (b ++ y) r = rByte b r := by
  obtain ⟨a, e⟩ := r
  cases e with
  | some q => rfl
  | none =>
    by_cases hl : a < b.length
    · have hl2 : a < (b ++ y).length := by rw [List.length_append]; omega
      have e1 : rByte b ⟨a, none⟩ = (⟨a + 1, none⟩, b[a]) := by simp only [rByte, hl, dif_pos]
      have e2 : rByte (b ++ y) ⟨a, none⟩ = (⟨a + 1, none⟩, (b ++ y)[a]) := by simp only [rByte, hl2, dif_pos]
      rw [e1, e2, List.getElem_append_left hl]
    · have e1 : rByte b ⟨a, none⟩ = (⟨a, some (a, 30)⟩, 0) := by simp only [rByte, hl, dif_neg, not_false_eq_true]
      rw [e1] at h
      cases h
theorem rByte_err {b : List UInt8} {r : R} (hr : r.err = none) {q : Nat × Nat} (h : (rByte b r).1.err = some q) : q.2 = 30 := by
  obtain ⟨a, e⟩ := r
  obtain rfl : e = none := hr
  by_cases hl : a < b.length
  · have e1 : rByte b ⟨a, none⟩ = (⟨a + 1, none⟩, b[a]) := by simp only [rByte, hl, dif_pos]
    rw [e1] at h
    cases h
  · have e1 : rByte b ⟨a, none⟩ = (⟨a, some (a, 30)⟩, 0) := by simp only [rByte, hl, dif_neg, not_false_eq_true]
    rw [e1] at h
    injection h with h
    rw [← h]
def notShort (r : R) : Prop := ∀ q, r.err = some q → q.2 ≠ 30
theorem rNumL_more (b y : List UInt8) (f : Nat) : ∀ (fuel k n : Nat) (r : R), r.err = none → notShort (rNumL b f fuel k n r).1 → rNumL (b ++ y) f fuel k n r = rNumL b f fuel k n r := by
  intro fuel
  induction fuel with
  | zero => intro k n r _ _; rfl
  | succ fuel ih =>
    intro k n r hr h
    cases he : (rByte b r).1.err with
    | some q =>
      exfalso
      have e1 : rNumL b f (fuel + 1) k n r = ((rByte b r).1, 0) := by
        simp only [rNumL, he]
      rw [e1] at h
      exact h q he (rByte_err hr he)
    | none =>
      have e1 := rByte_more y he
      have E : ∀ c, rNumL c f (fuel + 1) k n r = (match (rByte c r).1.err with
        | some _ => ((rByte c r).1, 0)
        | none =>
          if k = 6 ∨ ((rByte c r).2 = 0 ∧ 0 < k) then ((rByte c r).1.fail f 31, 0)
          else if (rByte c r).2.toNat < 128 then
            (if n + (rByte c r).2.toNat * 128 ^ k > 1099511627776 then ((rByte c r).1.fail f 1, 0) else ((rByte c r).1, n + (rByte c r).2.toNat * 128 ^ k))
          else rNumL c f fuel (k + 1) (n + (rByte c r).2.toNat % 128 * 128 ^ k) (rByte c r).1) := fun c => rfl
      rw [E] at h
      rw [E, E, e1]
      simp only [he] at h ⊢
      split
      · rfl
      · split
        · rfl
        · rename_i h1 h2
          rw [if_neg h1, if_neg h2] at h
          exact ih _ _ _ he h
theorem rNum_more {b : List UInt8} {r : R} (y : List UInt8) (hr : r.err = none) (h : notShort (rNum b r).1) : rNum (b ++ y) r = rNum b r := by
  unfold rNum at *
  simp only [hr] at h ⊢
  exact rNumL_more b y _ _ _ _ _ hr h

/-! ### a frame with more bytes behind -/
theorem headS_more (b y : List UInt8) (h : ∀ q, (headS b).2.2.2.2 = some q → q.2 ≠ 30) : headS (b ++ y) = headS b := by
  cases he : (rByte b ⟨0, none⟩).1.err with
  | some q =>
    exfalso
    have : (headS b).2.2.2.2 = some q := by unfold headS; simp only [he]
    exact h q this (rByte_err rfl he)
  | none =>
    have e1 := rByte_more y he
    by_cases h8 : (rByte b ⟨0, none⟩).2.toNat / 8 = 0
    · unfold headS
      simp only [e1, he, if_pos h8]
    · have hn : notShort (rNum b (rByte b ⟨0, none⟩).1).1 := fun q hq => h q (by
        unfold headS; simp only [he, if_neg h8, hq])
      have e2 := rNum_more y he hn
      unfold headS
      simp only [e1, he, if_neg h8, e2]
theorem readS_more (b y : List UInt8) (h : ∀ q, (readS b).2.2.2.2 = some q → q.2 ≠ 30) : readS (b ++ y) = readS b := by
  have hh : ∀ q, (headS b).2.2.2.2 = some q → q.2 ≠ 30 := fun q hq => h q (by unfold readS; simp only [hq])
  have e1 := headS_more b y hh
  cases he : (headS b).2.2.2.2 with
  | some q => unfold readS; simp only [e1, he]
  | none =>
    have hl := headS_le b he
    by_cases hs : b.length - (headS b).2.2.1 < (headS b).2.2.2.1
    · exact absurd rfl (h (b.length, 30) (by unfold readS; simp only [he, if_pos hs]))
    · have hs2 : ¬ (b ++ y).length - (headS b).2.2.1 < (headS b).2.2.2.1 := by rw [List.length_append]; omega
      unfold readS
      simp only [e1, he, if_neg hs, if_neg hs2]
      rw [List.drop_append_of_le_length hl, List.take_append_of_le_length (by rw [List.length_drop]; omega)]
theorem rNumL_at (b : List UInt8) (f : Nat) : ∀ (fuel k n : Nat) (r : R), r.at_ ≤ (rNumL b f fuel k n r).1.at_ := by
  have hb : ∀ r, r.at_ ≤ (rByte b r).1.at_ := by
    intro r
    unfold rByte
    split
    · exact Nat.le_refl _
    · split
      · exact Nat.le_succ _
      · exact Nat.le_refl _
  intro fuel
  induction fuel with
  | zero => intro k n r; exact Nat.le_refl _
  | succ fuel ih =>
    intro k n r
    have h1 := hb r
    unfold rNumL
    simp only []
    split
    · exact h1
    · split
      · rw [fail_at]; exact h1
      · repeat' split
        all_goals first | (rw [fail_at]; exact h1) | exact h1 | exact Nat.le_trans h1 (ih _ _ _)
/-- A frame has bytes, and no more than there are; and no more than one may have. -/
theorem headS_ok (b : List UInt8) (h : (headS b).2.2.2.2 = none) : 1 ≤ (headS b).2.2.1 ∧ (headS b).2.2.2.1 ≤ 16384 := by
  cases he : (rByte b ⟨0, none⟩).1.err with
  | some q => unfold headS at h; simp only [he] at h; cases h
  | none =>
    have ha : (rByte b ⟨0, none⟩).1.at_ = 1 := by
      unfold rByte at he ⊢
      simp only [] at he ⊢
      split
      · rfl
      · rename_i h1; rw [dif_neg h1] at he; cases he
    by_cases h8 : (rByte b ⟨0, none⟩).2.toNat / 8 = 0
    · unfold headS at h; simp only [he, if_pos h8] at h; cases h
    · cases he2 : (rNum b (rByte b ⟨0, none⟩).1).1.err with
      | some q => unfold headS at h; simp only [he, if_neg h8, he2] at h; cases h
      | none =>
        by_cases hm : 16384 < (rNum b (rByte b ⟨0, none⟩).1).2
        · unfold headS at h; simp only [he, if_neg h8, he2, if_pos hm] at h; cases h
        · unfold headS
          simp only [he, if_neg h8, he2, if_neg hm]
          refine ⟨?_, by omega⟩
          unfold rNum
          simp only [he]
          have := rNumL_at b (rByte b ⟨0, none⟩).1.at_ 7 0 0 (rByte b ⟨0, none⟩).1
          omega
theorem readS_ok (b : List UInt8) (h : (readS b).2.2.2.2 = none) : 1 ≤ (readS b).2.2.2.1 ∧ (readS b).2.2.2.1 ≤ b.length ∧ (readS b).2.2.1.length ≤ 16384 := by
  cases he : (headS b).2.2.2.2 with
  | some q => unfold readS at h; simp only [he] at h; cases h
  | none =>
    have h1 := headS_ok b he
    have h2 := headS_le b he
    by_cases hs : b.length - (headS b).2.2.1 < (headS b).2.2.2.1
    · unfold readS at h; simp only [he, if_pos hs] at h; cases h
    · unfold readS
      simp only [he, if_neg hs]
      refine ⟨by omega, by omega, ?_⟩
      rw [List.length_take]
      omega

/-! ### where it goes wrong -/
theorem rByte_plc (b : List UInt8) (r : R) (hr : r.at_ ≤ b.length) (h : ∀ q, r.err = some q → q.1 ≤ b.length) : ∀ q, (rByte b r).1.err = some q → q.1 ≤ b.length := by
  intro q hq
  unfold rByte at hq
  split at hq
  · exact h q hq
  · split at hq
    · rename_i h1 _; dsimp only at hq; rw [h1] at hq; cases hq
    · injection hq with hq; subst hq; exact hr
theorem fail_plc (b : List UInt8) (r : R) (a e : Nat) (ha : a ≤ b.length) (h : ∀ q, r.err = some q → q.1 ≤ b.length) : ∀ q, (r.fail a e).err = some q → q.1 ≤ b.length := by
  intro q hq
  unfold R.fail at hq
  split at hq
  · injection hq with hq; subst hq; exact ha
  · exact h q hq
theorem rNumL_plc (b : List UInt8) (f : Nat) (hf : f ≤ b.length) : ∀ (fuel k n : Nat) (r : R), r.at_ ≤ b.length → (∀ q, r.err = some q → q.1 ≤ b.length) → ∀ q, (rNumL b f fuel k n r).1.err = some q → q.1 ≤ b.length := by
  intro fuel
  induction fuel with
  | zero => intro k n r _ h; exact h
  | succ fuel ih =>
    intro k n r hr h
    have h1 := rByte_plc b r hr h
    have h2 := rByte_le b r hr
    unfold rNumL
    simp only []
    split
    · exact h1
    · split
      · exact fail_plc b _ _ _ hf h1
      · split
        · split
          · exact fail_plc b _ _ _ hf h1
          · exact h1
        · exact ih _ _ _ h2 h1
theorem readS_plc (b : List UInt8) : ∀ q, (readS b).2.2.2.2 = some q → q.1 ≤ b.length := by
  intro q h
  unfold readS at h
  cases hh : (headS b).2.2.2.2 with
  | some p =>
    simp only [hh] at h
    injection h with h
    subst h
    unfold headS at hh
    have h0 := rByte_plc b ⟨0, none⟩ (Nat.zero_le _) (fun q h => by cases h)
    have hl := rByte_le b ⟨0, none⟩ (Nat.zero_le _)
    cases he : (rByte b ⟨0, none⟩).1.err with
    | some e => simp only [he] at hh; injection hh with hh; subst hh; exact h0 _ he
    | none =>
      simp only [he] at hh
      have hb : 1 ≤ b.length := by
        rcases Nat.eq_zero_or_pos b.length with h9 | h9
        · have : b = [] := List.eq_nil_of_length_eq_zero h9
          subst this
          cases he
        · exact h9
      split at hh
      · injection hh with hh; subst hh; exact Nat.zero_le _
      · cases he2 : (rNum b (rByte b ⟨0, none⟩).1).1.err with
        | some e =>
          simp only [he2] at hh
          injection hh with hh
          subst hh
          unfold rNum at he2
          simp only [he] at he2
          exact rNumL_plc b _ hl _ _ _ _ hl (fun q h => by rw [he] at h; cases h) _ he2
        | none =>
          simp only [he2] at hh
          split at hh
          · injection hh with hh; subst hh; exact hb
          · cases hh
  | none =>
    simp only [hh] at h
    split at h
    · injection h with h; subst h; exact Nat.le_refl _
    · cases h

/-! ### the frames of a text -/
abbrev F3 := Nat × Nat × List UInt8
def parseL : Nat → List UInt8 → List F3 × Nat × Option (Nat × Nat)
  | 0, _ => ([], 0, none)
  | fuel + 1, b => match (readS b).2.2.2.2 with
    | some q => ([], 0, if q.2 = 30 then none else some q)
    | none =>
      let r := parseL fuel (b.drop (readS b).2.2.2.1)
      (((readS b).1, (readS b).2.1, (readS b).2.2.1) :: r.1, (readS b).2.2.2.1 + r.2.1, r.2.2.map fun q => ((readS b).2.2.2.1 + q.1, q.2))
theorem parseL_more : ∀ (f g : Nat) (b : List UInt8), b.length < f → b.length < g → parseL f b = parseL g b := by
  intro f
  induction f with
  | zero => intro g b h; omega
  | succ f ih =>
    intro g b h1 h2
    cases g with
    | zero => omega
    | succ g =>
      cases he : (readS b).2.2.2.2 with
      | some q => simp only [parseL, he]
      | none =>
        have hok := readS_ok b he
        have := ih g (b.drop (readS b).2.2.2.1) (by rw [List.length_drop]; omega) (by rw [List.length_drop]; omega)
        simp only [parseL, he, this]
/-- The frames of a text, how many bytes they are, and what is wrong behind them. -/
def parse (b : List UInt8) : List F3 × Nat × Option (Nat × Nat) := parseL (b.length + 1) b
theorem parse_err {b : List UInt8} {q : Nat × Nat} (h : (readS b).2.2.2.2 = some q) : parse b = ([], 0, if q.2 = 30 then none else some q) := by
  simp only [parse, parseL, h]
theorem parse_ok {b : List UInt8} (h : (readS b).2.2.2.2 = none) : parse b = (((readS b).1, (readS b).2.1, (readS b).2.2.1) :: (parse (b.drop (readS b).2.2.2.1)).1, (readS b).2.2.2.1 + (parse (b.drop (readS b).2.2.2.1)).2.1, (parse (b.drop (readS b).2.2.2.1)).2.2.map fun q => ((readS b).2.2.2.1 + q.1, q.2)) := by
  have hok := readS_ok b h
  have : parse (b.drop (readS b).2.2.2.1) = parseL b.length (b.drop (readS b).2.2.2.1) := parseL_more _ _ _ (by omega) (by rw [List.length_drop]; omega)
  rw [this]
  simp only [parse, parseL, h]
/-- Induction over the frames. -/
theorem parse_ind {P : List UInt8 → Prop} (h1 : ∀ b q, (readS b).2.2.2.2 = some q → P b) (h2 : ∀ b, (readS b).2.2.2.2 = none → P (b.drop (readS b).2.2.2.1) → P b) : ∀ b, P b := by
  have : ∀ (n : Nat) (b : List UInt8), b.length < n → P b := by
    intro n
    induction n with
    | zero => intro b h; omega
    | succ n ih =>
      intro b h
      cases he : (readS b).2.2.2.2 with
      | some q => exact h1 b q he
      | none =>
        have hok := readS_ok b he
        exact h2 b he (ih _ (by rw [List.length_drop]; omega))
  exact fun b => this _ b (Nat.lt_succ_self _)
theorem parse_le (b : List UInt8) : (parse b).2.1 ≤ b.length := by
  refine parse_ind (P := fun b => (parse b).2.1 ≤ b.length) ?_ ?_ b
  · intro b q h; rw [parse_err h]; exact Nat.zero_le _
  · intro b h ih
    have hok := readS_ok b h
    rw [List.length_drop] at ih
    rw [parse_ok h]
    dsimp only
    omega
theorem parse_len (b : List UInt8) : (parse b).1.length ≤ (parse b).2.1 := by
  refine parse_ind (P := fun b => (parse b).1.length ≤ (parse b).2.1) ?_ ?_ b
  · intro b q h; rw [parse_err h]; exact Nat.le_refl _
  · intro b h ih
    have hok := readS_ok b h
    rw [parse_ok h]
    simp only [List.length_cons]
    omega
/-- More bytes: what was wrong is wrong still. -/
theorem parse_bad (b y : List UInt8) (h : (parse b).2.2 ≠ none) : parse (b ++ y) = parse b := by
  revert h
  refine parse_ind (P := fun b => (parse b).2.2 ≠ none → parse (b ++ y) = parse b) ?_ ?_ b
  · intro b q he h
    rw [parse_err he] at h ⊢
    have hq : q.2 ≠ 30 := fun e => h (by simp [e])
    have e1 := readS_more b y (fun q' h' => by rw [he] at h'; injection h' with h'; rw [← h']; exact hq)
    rw [parse_err (q := q) (by rw [e1]; exact he)]
  · intro b he ih h
    have e1 := readS_more b y (fun q' h' => by rw [he] at h'; cases h')
    have hok := readS_ok b he
    have he2 : (readS (b ++ y)).2.2.2.2 = none := by rw [e1]; exact he
    rw [parse_ok he] at h
    have h' : (parse (b.drop (readS b).2.2.2.1)).2.2 ≠ none := fun e => h (by simp [e])
    rw [parse_ok he2, parse_ok he, e1, List.drop_append_of_le_length hok.2.1, ih h']
/-- More bytes: the frames go on behind those that there were. -/
theorem parse_more (b y : List UInt8) (h : (parse b).2.2 = none) : parse (b ++ y) = ((parse b).1 ++ (parse (b.drop (parse b).2.1 ++ y)).1, (parse b).2.1 + (parse (b.drop (parse b).2.1 ++ y)).2.1, (parse (b.drop (parse b).2.1 ++ y)).2.2.map fun q => ((parse b).2.1 + q.1, q.2)) := by
  revert h
  refine parse_ind (P := fun b => (parse b).2.2 = none → parse (b ++ y) = ((parse b).1 ++ (parse (b.drop (parse b).2.1 ++ y)).1, (parse b).2.1 + (parse (b.drop (parse b).2.1 ++ y)).2.1, (parse (b.drop (parse b).2.1 ++ y)).2.2.map fun q => ((parse b).2.1 + q.1, q.2))) ?_ ?_ b
  · intro b q he h
    rw [parse_err he]
    simp only [List.drop_zero, List.nil_append, Nat.zero_add, Option.map_id']
  · intro b he ih h
    have e1 := readS_more b y (fun q' h' => by rw [he] at h'; cases h')
    have hok := readS_ok b he
    have he2 : (readS (b ++ y)).2.2.2.2 = none := by rw [e1]; exact he
    rw [parse_ok he] at h
    have h' : (parse (b.drop (readS b).2.2.2.1)).2.2 = none := by simpa using h
    have e2 := ih h'
    have hd : b.drop (parse b).2.1 = (b.drop (readS b).2.2.2.1).drop (parse (b.drop (readS b).2.2.2.1)).2.1 := by
      rw [parse_ok he, List.drop_drop]
    rw [hd, parse_ok he2, parse_ok he, e1, List.drop_append_of_le_length hok.2.1, e2]
    simp only [List.cons_append, Nat.add_assoc, Option.map_map]
    rfl
end Go.Proofs.YtkljeafnmcmifaaDoor.Frm
