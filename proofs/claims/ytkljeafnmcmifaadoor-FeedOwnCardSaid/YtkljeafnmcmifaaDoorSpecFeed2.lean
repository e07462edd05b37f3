/- What the statements of chapter 05 say without the document: plain. -/
import Derived.Test.YtkljeafnmcmifaaDoorSpecFeed
import Derived.Test.YtkljeafnmcmifaaDoorFeedA
set_option linter.unusedVariables false
namespace Go.Proofs.YtkljeafnmcmifaaDoor.Fee
open Go.Proofs.YtkljeafnmcmifaaDoor.B Go.Proofs.YtkljeafnmcmifaaDoor.PB Go.Proofs.YtkljeafnmcmifaaDoor.SCode Go.Proofs.YtkljeafnmcmifaaDoor.Frm

/-- In whatever pieces. -/
theorem addS_nil (P : List UInt8) : addS [] 0 none P = (match (parse P).2.2 with | some q => ⟨(parse P).1, [], (parse P).2.1, some q⟩ | none => ⟨(parse P).1, P.drop (parse P).2.1, (parse P).2.1, none⟩) := by
  unfold addS
  simp only [List.nil_append, Nat.zero_add]
  cases (parse P).2.2 <;> rfl
theorem addS_more (P p : List UInt8) : (addS [] 0 none (P ++ p)).out = (addS [] 0 none P).out ++ (addS (addS [] 0 none P).held (addS [] 0 none P).rd (addS [] 0 none P).er p).out ∧
    (addS [] 0 none (P ++ p)).held = (addS (addS [] 0 none P).held (addS [] 0 none P).rd (addS [] 0 none P).er p).held ∧ (addS [] 0 none (P ++ p)).rd = (addS (addS [] 0 none P).held (addS [] 0 none P).rd (addS [] 0 none P).er p).rd ∧
    (addS [] 0 none (P ++ p)).er = (addS (addS [] 0 none P).held (addS [] 0 none P).rd (addS [] 0 none P).er p).er := by
  rw [addS_nil, addS_nil]
  cases h : (parse P).2.2 with
  | some q =>
    have := parse_bad P p (by rw [h]; simp)
    rw [this, h]
    simp [addS]
  | none =>
    have hm := parse_more P p h
    have hl := parse_le P
    rw [hm]
    simp only [addS]
    have hd : (P ++ p).drop ((parse P).2.1 + (parse (P.drop (parse P).2.1 ++ p)).2.1) = (P.drop (parse P).2.1 ++ p).drop (parse (P.drop (parse P).2.1 ++ p)).2.1 := by
      rw [← List.drop_drop, List.drop_append_of_le_length hl]
    cases (parse (P.drop (parse P).2.1 ++ p)).2.2 with
    | some q => simp
    | none => simp [hd]

/-! ### how much is held -/
theorem rNumL_in (b : List UInt8) (f : Nat) : ∀ (fuel k n : Nat) (r : R), r.err = none → fuel + k = 7 → (rNumL b f fuel k n r).1.err = none → (rNumL b f fuel k n r).1.at_ ≤ r.at_ + (6 - k) := by
  intro fuel
  induction fuel with
  | zero => intro k n r _ _ _; simp [rNumL]
  | succ fuel ih =>
    intro k n r hr hk h
    have hb : (rByte b r).1.err = none → (rByte b r).1.at_ = r.at_ + 1 := by
      intro he
      unfold rByte at he ⊢
      rw [hr] at he ⊢
      simp only at he ⊢
      split
      · rfl
      · rename_i h1; rw [dif_neg h1] at he; cases he
    unfold rNumL at h ⊢
    simp only [] at h ⊢
    cases he : (rByte b r).1.err with
    | some q => simp only [he] at h; cases h
    | none =>
      simp only [he] at h ⊢
      by_cases h1 : k = 6 ∨ ((rByte b r).2 = 0 ∧ 0 < k)
      · rw [if_pos h1] at h
        simp only [R.fail, he] at h
        cases h
      · rw [if_neg h1] at h ⊢
        by_cases h2 : (rByte b r).2.toNat < 128
        · rw [if_pos h2] at h ⊢
          split
          · rename_i h3; rw [if_pos h3] at h; simp only [R.fail, he] at h; cases h
          · simp only; have := hb he; omega
        · rw [if_neg h2] at h ⊢
          have := ih (k + 1) _ (rByte b r).1 he (by omega) h
          have := hb he
          omega
theorem rNumL_short (b : List UInt8) (f : Nat) : ∀ (fuel k n : Nat) (r : R), r.err = none → fuel + k = 7 → ∀ a, (rNumL b f fuel k n r).1.err = some (a, 30) → b.length ≤ r.at_ + (6 - k) := by
  intro fuel
  induction fuel with
  | zero => intro k n r hr _ a h; simp only [rNumL] at h; rw [hr] at h; cases h
  | succ fuel ih =>
    intro k n r hr hk a h
    have hb : (rByte b r).1.err = none → (rByte b r).1.at_ = r.at_ + 1 := by
      intro he
      unfold rByte at he ⊢
      rw [hr] at he ⊢
      simp only at he ⊢
      split
      · rfl
      · rename_i h1; rw [dif_neg h1] at he; cases he
    unfold rNumL at h
    simp only [] at h
    cases he : (rByte b r).1.err with
    | some q =>
      unfold rByte at he
      rw [hr] at he
      simp only at he
      split at he
      · simp only at he; cases he
      · omega
    | none =>
      simp only [he] at h
      by_cases h1 : k = 6 ∨ ((rByte b r).2 = 0 ∧ 0 < k)
      · rw [if_pos h1] at h
        simp only [R.fail, he] at h
        injection h with h; injection h with _ h; cases h
      · rw [if_neg h1] at h
        by_cases h2 : (rByte b r).2.toNat < 128
        · rw [if_pos h2] at h
          split at h
          · simp only [R.fail, he] at h; injection h with h; injection h with _ h; cases h
          · simp only at h; rw [he] at h; cases h
        · rw [if_neg h2] at h
          have := ih (k + 1) _ (rByte b r).1 he (by omega) a h
          have := hb he
          omega
theorem short_len (b : List UInt8) (a : Nat) (h : (readS b).2.2.2.2 = some (a, 30)) : b.length ≤ 16391 := by
  unfold readS at h
  have r0 : (rByte b ⟨0, none⟩).1.err = none → (rByte b ⟨0, none⟩).1.at_ = 1 := by
    intro he
    unfold rByte at he ⊢
    simp only at he ⊢
    split
    · rfl
    · rename_i h1; rw [dif_neg h1] at he; cases he
  cases hh : (headS b).2.2.2.2 with
  | some p =>
    simp only [hh] at h
    injection h with h
    subst h
    unfold headS at hh
    cases he : (rByte b ⟨0, none⟩).1.err with
    | some e =>
      unfold rByte at he
      simp only at he
      split at he
      · cases he
      · omega
    | none =>
      simp only [he] at hh
      split at hh
      · injection hh with hh; injection hh with _ hh; cases hh
      · cases he2 : (rNum b (rByte b ⟨0, none⟩).1).1.err with
        | some e =>
          simp only [he2] at hh
          injection hh with hh
          subst hh
          unfold rNum at he2
          simp only [he] at he2
          have := rNumL_short b _ 7 0 0 _ he (by omega) a he2
          have := r0 he
          omega
        | none =>
          simp only [he2] at hh
          split at hh
          · injection hh with hh; injection hh with _ hh; cases hh
          · cases hh
  | none =>
    simp only [hh] at h
    split at h
    · rename_i hlt
      unfold headS at hh hlt
      cases he : (rByte b ⟨0, none⟩).1.err with
      | some e => simp only [he] at hh; cases hh
      | none =>
        simp only [he] at hh hlt
        split at hh
        · cases hh
        · rename_i h3
          rw [if_neg h3] at hlt
          cases he2 : (rNum b (rByte b ⟨0, none⟩).1).1.err with
          | some e => simp only [he2] at hh; cases hh
          | none =>
            simp only [he2] at hh hlt
            split at hh
            · cases hh
            · rename_i h4
              rw [if_neg h4] at hlt
              simp only at hlt
              have h6 : (rNum b (rByte b ⟨0, none⟩).1).1.at_ ≤ 7 := by
                have e : rNum b (rByte b ⟨0, none⟩).1 = rNumL b (rByte b ⟨0, none⟩).1.at_ 7 0 0 (rByte b ⟨0, none⟩).1 := by unfold rNum; simp only [he]
                rw [e] at he2 ⊢
                have := rNumL_in b _ 7 0 0 _ he (by omega) he2
                have := r0 he
                omega
              omega
    · cases h
theorem parse_rest : ∀ b : List UInt8, (parse b).2.2 = none → ∃ a, (readS (b.drop (parse b).2.1)).2.2.2.2 = some (a, 30) := by
  refine parse_ind (fun b q h hn => ?_) (fun b h ih hn => ?_)
  · rw [parse_err h] at hn ⊢
    simp only at hn ⊢
    obtain ⟨a, e⟩ := q
    by_cases he : e = 30
    · subst he; exact ⟨a, by rw [List.drop_zero]; exact h⟩
    · rw [if_neg he] at hn; cases hn
  · rw [parse_ok h] at hn ⊢
    simp only [Option.map_eq_none_iff] at hn
    obtain ⟨a, ha⟩ := ih hn
    exact ⟨a, by simp only; rw [← List.drop_drop]; exact ha⟩
theorem held_le (P : List UInt8) : (addS [] 0 none P).held.length ≤ 16391 := by
  rw [addS_nil]
  cases h : (parse P).2.2 with
  | some q => exact Nat.zero_le _
  | none => obtain ⟨a, ha⟩ := parse_rest P h; exact short_len _ a ha

/-! ### what was written -/
structure Gd where
  k : Int
  s : Int
  xs : List UInt8
  h : checkE k s xs.length = 0
def Gd.b (f : Gd) : List UInt8 := frameB f.k f.s f.xs
def Gd.q (f : Gd) : F3 := (f.k.toNat, f.s.toNat, f.xs)
theorem parse_flat (rest : List UInt8) : ∀ fs : List Gd, parse (fs.flatMap Gd.b ++ rest) = (fs.map Gd.q ++ (parse rest).1, (fs.flatMap Gd.b).length + (parse rest).2.1, (parse rest).2.2.map fun q => ((fs.flatMap Gd.b).length + q.1, q.2))
  | [] => by simp
  | f :: fs => by
    obtain ⟨a, c, ha, hc, hr⟩ := readS_frameB f.k f.s f.xs (fs.flatMap Gd.b ++ rest) f.h
    have e : (f :: fs).flatMap Gd.b ++ rest = frameB f.k f.s f.xs ++ (fs.flatMap Gd.b ++ rest) := by
      rw [List.flatMap_cons, List.append_assoc]; rfl
    have hq : (f :: fs).map Gd.q = (a, c, f.xs) :: fs.map Gd.q := by
      rw [List.map_cons]
      congr 1
      unfold Gd.q
      rw [← ha, ← hc, Int.toNat_natCast, Int.toNat_natCast]
    have hl : ((f :: fs).flatMap Gd.b).length = (frameB f.k f.s f.xs).length + (fs.flatMap Gd.b).length := by
      rw [List.flatMap_cons, List.length_append]; rfl
    rw [e, parse_ok (by rw [hr]), hr, hq, hl]
    simp only
    rw [List.drop_left, parse_flat rest fs]
    simp only [List.cons_append, Option.map_map, Nat.add_assoc]
    refine congrArg _ (congrArg _ ?_)
    cases (parse rest).2.2 <;> simp [Nat.add_assoc]
theorem readS_bad (y : UInt8) (hy : y.toNat < 8) : readS [y] = (0, 0, [], 0, some (0, 40)) := by
  have r1 : rByte [y] ⟨0, none⟩ = (⟨1, none⟩, y) := rByte_ok _ 0 _ rfl
  have hh : headS [y] = (0, 0, 0, 0, some (0, 40)) := by
    unfold headS
    simp only [r1]
    rw [if_pos (by omega)]
  unfold readS
  simp only [hh]
theorem parse_bad1 (y : UInt8) (hy : y.toNat < 8) : parse [y] = ([], 0, some (0, 40)) := by
  rw [parse_err (q := (0, 40)) (by rw [readS_bad y hy])]
  simp
end Go.Proofs.YtkljeafnmcmifaaDoor.Fee
