/- What goes wrong with a frame has a number above 0. No program. -/
import Derived.Test.YtdicjcpcohclaaaDoorSpecFeed
import Derived.Test.YtdicjcpcohclaaaDoorSpecRd
set_option linter.unusedVariables false
namespace Go.Proofs.YtdicjcpcohclaaaDoor.Frm
open Go.Proofs.YtdicjcpcohclaaaDoor.B Go.Proofs.YtdicjcpcohclaaaDoor.PB Go.Proofs.YtdicjcpcohclaaaDoor.SCode
/-- What went wrong has a number. -/
theorem readS_pos (b : List UInt8) (q : Nat × Nat) (h : (readS b).2.2.2.2 = some q) : 0 < q.2 := by
  unfold readS at h
  cases hh : (headS b).2.2.2.2 with
  | some p =>
    simp only [hh] at h
    injection h with h
    subst h
    unfold headS at hh
    cases he : (rByte b ⟨0, none⟩).1.err with
    | some e =>
      simp only [he] at hh
      injection hh with hh
      subst hh
      unfold rByte at he
      simp only [] at he
      split at he
      · cases he
      · injection he with he; subst he; exact Nat.succ_pos _
    | none =>
      simp only [he] at hh
      split at hh
      · injection hh with hh; subst hh; exact Nat.succ_pos _
      · rename_i h8
        cases he2 : (rNum b (rByte b ⟨0, none⟩).1).1.err with
        | some e =>
          simp only [he2] at hh
          injection hh with hh
          subst hh
          exact pos_num (r := (rByte b ⟨0, none⟩).1) (fun q h => by rw [he] at h; cases h) b _ he2
        | none =>
          simp only [he2] at hh
          split at hh
          · injection hh with hh; subst hh; exact Nat.succ_pos _
          · cases hh
  | none =>
    simp only [hh] at h
    split at h
    · injection h with h; subst h; exact Nat.succ_pos _
    · cases h

theorem parse_pos (b : List UInt8) : ∀ q, (parse b).2.2 = some q → 0 < q.2 := by
  refine parse_ind (P := fun b => ∀ q, (parse b).2.2 = some q → 0 < q.2) ?_ ?_ b
  · intro b q h q' hq
    rw [parse_err h] at hq
    dsimp only at hq
    split at hq
    · cases hq
    · injection hq with hq; subst hq; exact readS_pos b q h
  · intro b h ih q hq
    rw [parse_ok h] at hq
    dsimp only at hq
    cases hp : (parse (b.drop (readS b).2.2.2.1)).2.2 with
    | none => rw [hp] at hq; cases hq
    | some q' =>
      rw [hp] at hq
      injection hq with hq
      subst hq
      exact ih q' hp
end Go.Proofs.YtdicjcpcohclaaaDoor.Frm
