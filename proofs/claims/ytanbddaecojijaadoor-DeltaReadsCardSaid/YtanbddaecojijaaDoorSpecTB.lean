/- Tokens as bytes: plain. No program. -/
import Derived.Test.YtanbddaecojijaaDoorSpecTell
import Derived.Test.YtanbddaecojijaaDoorSpecCode
set_option linter.unusedVariables false
namespace Go.Proofs.YtanbddaecojijaaDoor.STB
open Go.Proofs.YtanbddaecojijaaDoor.STell Go.Proofs.YtanbddaecojijaaDoor.SCode

def blkT (t : Tok) : Prop := 0 < t.2.1 ∧ 0 ≤ t.1 ∧ t.1 ≤ 1099511627776 ∧ t.2.1 ≤ 1099511627776 ∧ t.2.2 = []
def rawT (t : Tok) : Prop := t.2.1 = 0 ∧ t.1 = 0 ∧ t.2.2 ≠ []
instance (t : Tok) : Decidable (blkT t) := by unfold blkT; infer_instance
instance (t : Tok) : Decidable (rawT t) := by unfold rawT; infer_instance
def okB (t : Tok) : Bool := decide (blkT t) || decide (rawT t)
def encT (t : Tok) : List UInt8 := if 0 < t.2.1 then numI t.2.1 ++ numI t.1 else numI 0 ++ (numI t.2.2.length ++ t.2.2)
def encZ (L : List Tok) : List UInt8 := (L.map encT).flatten
def encL (L : List Tok) : List UInt8 := numI L.length ++ encZ L
def bytesE (L : List Tok) : Int := if 8192 < L.length then 2 else if L.all okB = true then 0 else 80
def bytesB (L : List Tok) : List UInt8 := if bytesE L = 0 then encL L else []
theorem encZ_snoc (L : List Tok) (t : Tok) : encZ (L ++ [t]) = encZ L ++ encT t := by simp [encZ]
theorem encZ_take (L : List Tok) (i : Nat) (t : Tok) (h : L[i]? = some t) : encZ (L.take (i + 1)) = encZ (L.take i) ++ encT t := by
  rw [List.take_add_one, h]
  exact encZ_snoc _ _
theorem encT_length (t : Tok) : (encT t).length ≤ 12 + t.2.2.length := by
  unfold encT
  have h1 := numI_length t.2.1; have h2 := numI_length t.1; have h3 := numI_length 0; have h4 := numI_length t.2.2.length
  split
  · rw [List.length_append]; omega
  · rw [List.length_append, List.length_append]; omega
theorem enc_blk {t : Tok} (h : blkT t) : okB t = true ∧ encT t = numI t.2.1 ++ numI t.1 := ⟨by unfold okB; rw [decide_eq_true h]; rfl, by unfold encT; rw [if_pos h.1]⟩
theorem enc_raw {t : Tok} (h : rawT t) : okB t = true ∧ encT t = numI 0 ++ (numI t.2.2.length ++ t.2.2) := ⟨by unfold okB; rw [decide_eq_true h, Bool.or_true], by unfold encT; rw [if_neg (by have := h.1; omega)]⟩
theorem bad_of {t : Tok} (h1 : ¬ blkT t) (h2 : ¬ rawT t) : okB t = false := by unfold okB; rw [decide_eq_false h1, decide_eq_false h2]; rfl
theorem bytes_bad {L : List Tok} {i : Nat} {t : Tok} (hL : ¬ 8192 < L.length) (h : L[i]? = some t) (ht : okB t = false) : bytesE L = 80 ∧ bytesB L = [] := by
  have h1 : L.all okB = false := by rw [List.all_eq_false]; exact ⟨t, List.mem_of_getElem? h, by simp [ht]⟩
  have h2 : bytesE L = 80 := by unfold bytesE; rw [if_neg hL, h1]; rfl
  exact ⟨h2, by unfold bytesB; rw [h2, if_neg (by decide)]⟩
theorem bytes_long {L : List Tok} (hL : 8192 < L.length) : bytesE L = 2 ∧ bytesB L = [] := by
  have h2 : bytesE L = 2 := by unfold bytesE; rw [if_pos hL]
  exact ⟨h2, by unfold bytesB; rw [h2, if_neg (by decide)]⟩
theorem bytes_good {L : List Tok} (hL : ¬ 8192 < L.length) (h : ∀ t ∈ L, okB t = true) : bytesE L = 0 ∧ bytesB L = encL L := by
  have h2 : bytesE L = 0 := by unfold bytesE; rw [if_neg hL, if_pos (List.all_eq_true.2 h)]
  exact ⟨h2, by unfold bytesB; rw [if_pos h2]⟩
theorem all_next {L : List Tok} {i : Nat} {t : Tok} (h : ∀ x ∈ L.take i, okB x = true) (ht : L[i]? = some t) (h2 : okB t = true) : ∀ x ∈ L.take (i + 1), okB x = true := fun x hx => by
  rw [List.take_add_one, ht] at hx
  rcases List.mem_append.1 hx with hx | hx
  · exact h x hx
  · simp at hx; subst hx; exact h2
end Go.Proofs.YtanbddaecojijaaDoor.STB
