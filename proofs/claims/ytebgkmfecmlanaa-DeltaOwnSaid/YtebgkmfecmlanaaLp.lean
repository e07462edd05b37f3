/- A loop in a wide frame: what the body writes is one function of the slot. -/
import Derived.Test.YtebgkmfecmlanaaPB
set_option linter.unusedVariables false
namespace Go.Proofs.Ytebgkmfecmlanaa.PB
open Go.RowKit Go.Proofs.YtebgkmfecmlanaaW.PrintWords Go.Proofs.Ytebgkmfecmlanaa.B

/-- The frame: what the body writes is f's. -/
def over : List (Option Nat) → (Nat → Value) → List Value → List Value
  | [], _, l => l
  | _ :: _, _, [] => []
  | none :: m, f, x :: xs => x :: over m f xs
  | some k :: m, f, _ :: xs => f k :: over m f xs
/-- The same from another frame. -/
def mix : List (Option Nat) → List Value → List Value → List Value
  | [], l, _ => l
  | _ :: _, [], _ => []
  | _ :: _, x :: xs, [] => x :: xs
  | none :: m, x :: xs, _ :: ys => x :: mix m xs ys
  | some _ :: m, _ :: xs, y :: ys => y :: mix m xs ys
def posB : List (Option Nat) → Nat → Bool
  | [], _ => true
  | none :: m, i => posB m (i + 1)
  | some k :: m, i => k == i && posB m (i + 1)
def keeps (m : List (Option Nat)) (l l' : List Value) : Prop := mix m l l' = l'
theorem mix_self : ∀ (m : List (Option Nat)) (l : List Value), mix m l l = l
  | [], _ => rfl
  | _ :: _, [] => rfl
  | none :: m, x :: xs => by rw [mix, mix_self m xs]
  | some _ :: m, x :: xs => by rw [mix, mix_self m xs]
theorem over_mix : ∀ (m : List (Option Nat)) (i : Nat) (l l' p : List Value), posB m i = true → p.length = i → mix m l l' = l' → over m (fun n => (p ++ l').getD n undef) l = l'
  | [], _, l, l', _, _, _, h => h
  | none :: _, _, [], _, _, _, _, h => h
  | some _ :: _, _, [], _, _, _, _, h => h
  | none :: m, _, x :: xs, [], _, _, _, h => by rw [mix] at h; cases h
  | some _ :: m, _, x :: xs, [], _, _, _, h => by rw [mix] at h; cases h
  | none :: m, i, x :: xs, y :: ys, p, hp, hl, h => by
    rw [mix] at h
    injection h with h1 h2
    have := over_mix m (i + 1) xs ys (p ++ [y]) hp (by simp [hl]) h2
    rw [over]
    simp only [List.append_assoc, List.cons_append, List.nil_append] at this
    rw [this, h1]
  | some k :: m, i, x :: xs, y :: ys, p, hp, hl, h => by
    rw [mix] at h
    injection h with h1 h2
    simp only [posB, Bool.and_eq_true, beq_iff_eq] at hp
    have := over_mix m (i + 1) xs ys (p ++ [y]) hp.2 (by simp [hl]) h2
    rw [over]
    simp only [List.append_assoc, List.cons_append, List.nil_append] at this
    rw [this, hp.1]
    congr 1
    subst hl
    simp [List.getD]
theorem wp_loopf {P : Program} {c : Code} {Q : Exit → Act → World → Prop} {l : List Value} {ds : List Deferred} {w : World} (m : List (Option Nat)) (R : (Nat → Value) → World → Prop) (μ : (Nat → Value) → World → Nat) (hm : posB m 0 = true)
    (h₀ : R (fun n => l.getD n undef) w)
    (round : ∀ (f : Nat → Value) (w : World) (K : Act → World → Prop), R f w → Aside0 (∀ (l' : List Value) (w' : World), keeps m l l' → R (fun n => l'.getD n undef) w' → μ (fun n => l'.getD n undef) w' < μ f w → K (Act.mk l'.toArray ds) w') → c.wp P (Exit.then K Q) (Act.mk (over m f l).toArray ds) w) : (Code.loop c).wp P Q (Act.mk l.toArray ds) w := by
  refine wp_loop (fun a w => ∃ l', a = Act.mk l'.toArray ds ∧ keeps m l l' ∧ R (fun n => l'.getD n undef) w) (fun a w => μ (fun n => a.tmps.toList.getD n undef) w) ⟨l, rfl, mix_self m l, h₀⟩ ?_
  rintro a w ⟨l', rfl, hk, hR⟩
  have h := round (fun n => l'.getD n undef) w (fun a' w' => (∃ l2, a' = Act.mk l2.toArray ds ∧ keeps m l l2 ∧ R (fun n => l2.getD n undef) w') ∧ μ (fun n => a'.tmps.toList.getD n undef) w' < μ (fun n => l'.getD n undef) w) hR ⟨fun l2 w2 h1 h2 h3 => ⟨⟨l2, rfl, h1, h2⟩, h3⟩⟩
  have ho := over_mix m 0 l l' [] hm rfl hk
  simp only [List.nil_append] at ho
  rw [ho] at h
  exact h
end Go.Proofs.Ytebgkmfecmlanaa.PB
