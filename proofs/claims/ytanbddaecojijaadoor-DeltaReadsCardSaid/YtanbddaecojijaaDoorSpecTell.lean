/- How a file is told by another one's blocks: plain. No program. -/
import Derived.Test.YtanbddaecojijaaDoorSpecBlk
set_option linter.unusedVariables false
namespace Go.Proofs.YtanbddaecojijaaDoor.STell
open Go.Proofs.YtanbddaecojijaaDoor.SBlk

/-- A token: First, Count, Data. -/
abbrev Tok := Int × Int × List UInt8
/-- The token that two are, where that can be. -/
def joins (a t : Tok) : Option Tok := if 0 < t.2.1 ∧ 0 < a.2.1 ∧ a.1 + a.2.1 = t.1 then some (a.1, a.2.1 + t.2.1, a.2.2) else if t.2.1 = 0 ∧ a.2.1 = 0 then some (a.1, a.2.1, a.2.2 ++ t.2.2) else none
def addT (l : List Tok) (t : Tok) : List Tok := match l.getLast? with
  | none => [t]
  | some a => match joins a t with
    | some b => l.dropLast ++ [b]
    | none => l ++ [t]
theorem addT_nil (t : Tok) : addT [] t = [t] := rfl
theorem addT_snoc (p : List Tok) (a t : Tok) : addT (p ++ [a]) t = match joins a t with | some b => p ++ [b] | none => p ++ [a] ++ [t] := by
  unfold addT
  rw [List.getLast?_concat, List.dropLast_concat]
def tellL (s : Nat) (f : List UInt8 → Option Nat) : Nat → List UInt8 → List Tok → List Tok
  | 0, _, out => out
  | n + 1, d, out => match d with
    | [] => out
    | x :: d' => match f ((x :: d').take s) with
      | some i => tellL s f n ((x :: d').drop s) (addT out ((i : Int), 1, []))
      | none => tellL s f n d' (addT out (0, 0, [x]))
theorem tellL_more (s : Nat) (hs : 0 < s) (f : List UInt8 → Option Nat) : ∀ (n m : Nat) (d : List UInt8) (out : List Tok), d.length ≤ n → d.length ≤ m → tellL s f n d out = tellL s f m d out
  | 0, m, d, out, h, _ => by
    have : d = [] := List.length_eq_zero_iff.1 (by omega)
    subst this
    cases m <;> rfl
  | n + 1, 0, d, out, _, h => by
    have : d = [] := List.length_eq_zero_iff.1 (by omega)
    subst this
    rfl
  | n + 1, m + 1, [], out, _, _ => rfl
  | n + 1, m + 1, x :: d, out, h1, h2 => by
    rw [List.length_cons] at h1 h2
    rw [tellL, tellL]
    cases f ((x :: d).take s) with
    | some i => exact tellL_more s hs f n m _ _ (by rw [List.length_drop, List.length_cons]; omega) (by rw [List.length_drop, List.length_cons]; omega)
    | none => exact tellL_more s hs f n m _ _ (by omega) (by omega)
def tell (s : Nat) (f : List UInt8 → Option Nat) (d : List UInt8) (out : List Tok) : List Tok := tellL s f d.length d out
theorem tell_nil (s : Nat) (f : List UInt8 → Option Nat) (out : List Tok) : tell s f [] out = out := rfl
theorem tell_hit {s : Nat} {f : List UInt8 → Option Nat} {d : List UInt8} (out : List Tok) (hs : 0 < s) (hd : d ≠ []) {i : Nat} (h : f (d.take s) = some i) : tell s f d out = tell s f (d.drop s) (addT out ((i : Int), 1, [])) := by
  cases d with
  | nil => exact absurd rfl hd
  | cons x d =>
    unfold tell
    rw [List.length_cons, tellL, h]
    exact tellL_more s hs f _ _ _ _ (by rw [List.length_drop, List.length_cons]; omega) (Nat.le_refl _)
theorem tell_miss {s : Nat} {f : List UInt8 → Option Nat} {x : UInt8} {d : List UInt8} (out : List Tok) (h : f ((x :: d).take s) = none) : tell s f (x :: d) out = tell s f d (addT out (0, 0, [x])) := by
  unfold tell
  rw [List.length_cons, tellL, h]
/-- By steps. -/
theorem tell_ind (s : Nat) (hs : 0 < s) (f : List UInt8 → Option Nat) {I : List Tok → List Tok → List UInt8 → Prop} (h0 : ∀ out, I out out []) (h1 : ∀ d out i, d ≠ [] → f (d.take s) = some i → I (addT out ((i : Int), 1, [])) (tell s f (d.drop s) (addT out ((i : Int), 1, []))) (d.drop s) → I out (tell s f (d.drop s) (addT out ((i : Int), 1, []))) d)
    (h2 : ∀ x d out, f ((x :: d).take s) = none → I (addT out (0, 0, [x])) (tell s f d (addT out (0, 0, [x]))) d → I out (tell s f d (addT out (0, 0, [x]))) (x :: d)) : ∀ (n : Nat) (d : List UInt8) (out : List Tok), d.length ≤ n → I out (tell s f d out) d
  | _, [], out, _ => h0 out
  | 0, x :: d, out, h => by simp at h
  | n + 1, x :: d, out, h => by
    rw [List.length_cons] at h
    cases hf : f ((x :: d).take s) with
    | some i =>
      rw [tell_hit out hs (by simp) hf]
      exact h1 _ _ _ (by simp) hf (tell_ind s hs f h0 h1 h2 n _ _ (by rw [List.length_drop, List.length_cons]; omega))
    | none =>
      rw [tell_miss out hf]
      exact h2 _ _ _ hf (tell_ind s hs f h0 h1 h2 n _ _ (by omega))

/-! ### what is known of each -/
structure okT (n : Nat) (t : Tok) : Prop where
  f0 : 0 ≤ t.1
  c0 : 0 ≤ t.2.1
  blk : 0 < t.2.1 → t.2.2 = [] ∧ t.1 + t.2.1 ≤ n
  raw : t.2.1 = 0 → t.1 = 0 ∧ t.2.2 ≠ []
def apart (l : List Tok) : Prop := ∀ (i : Nat) (a b : Tok), l[i]? = some a → l[i + 1]? = some b → joins a b = none
structure good (n : Nat) (l : List Tok) : Prop where
  ok : ∀ t ∈ l, okT n t
  ap : apart l
theorem good_nil (n : Nat) : good n [] := ⟨fun t h => (by cases h), fun i a b h => (by simp at h)⟩
theorem joins_same {p a b t : Tok} {n : Nat} (ha : okT n a) (hb : okT n b) (h : joins p a = none) (e1 : b.1 = a.1) (e2 : 0 < b.2.1 ↔ 0 < a.2.1) : joins p b = none := by
  have c1 := ha.c0; have c2 := hb.c0
  unfold joins at h ⊢
  rw [e1]
  split at h
  · cases h
  split at h
  · cases h
  rename_i h1 h2
  rw [if_neg (by omega), if_neg (by omega)]
theorem last_none {p : List Tok} {a t : Tok} : apart (p ++ [a]) → joins a t = none → apart (p ++ [a] ++ [t]) := fun h hj i x y hx hy => by
  have hl : i + 1 < (p ++ [a] ++ [t]).length := (List.getElem?_eq_some_iff.1 hy).1
  simp at hl
  rcases Nat.lt_or_ge (i + 1) (p ++ [a]).length with h1 | h1
  · rw [List.getElem?_append_left (by omega)] at hx
    rw [List.getElem?_append_left h1] at hy
    exact h i x y hx hy
  · simp at h1
    have hi : i = p.length := by omega
    subst hi
    rw [List.append_assoc, List.getElem?_append_right (Nat.le_refl _)] at hx
    rw [List.append_assoc, List.getElem?_append_right (by omega)] at hy
    simp at hx hy
    subst hx; subst hy
    exact hj
theorem last_turn {p : List Tok} {a b : Tok} (h : apart (p ++ [a])) (hb : ∀ q, joins q a = none → joins q b = none) : apart (p ++ [b]) := fun i x y hx hy => by
  have hl : i + 1 < (p ++ [b]).length := (List.getElem?_eq_some_iff.1 hy).1
  simp at hl
  rcases Nat.lt_or_ge (i + 1) p.length with h1 | h1
  · rw [List.getElem?_append_left (by omega)] at hx
    rw [List.getElem?_append_left h1] at hy
    exact h i x y (by rw [List.getElem?_append_left (by omega)]; exact hx) (by rw [List.getElem?_append_left h1]; exact hy)
  · have hi : i + 1 = p.length := by omega
    rw [List.getElem?_append_left (by omega)] at hx
    rw [hi, List.getElem?_append_right (Nat.le_refl _)] at hy
    simp at hy
    subst hy
    exact hb x (h i x a (by rw [List.getElem?_append_left (by omega)]; exact hx) (by rw [hi, List.getElem?_append_right (Nat.le_refl _)]; simp))
theorem snoc_or {α : Type} (l : List α) : l = [] ∨ ∃ p a, l = p ++ [a] := by
  rcases List.eq_nil_or_concat l with h | ⟨p, a, h⟩
  · exact .inl h
  · exact .inr ⟨p, a, by rw [h]; simp⟩
theorem good_add {n : Nat} {l : List Tok} {t : Tok} (h : good n l) (ht : okT n t) (h1 : t.2.1 = 0 ∨ t.2.1 = 1) : good n (addT l t) := by
  rcases snoc_or l with rfl | ⟨p, a, rfl⟩
  · rw [addT_nil]
    exact ⟨fun x hx => by simp at hx; subst hx; exact ht, fun i a b h1 h2 => by simp at h2⟩
  · rw [addT_snoc]
    have ha := h.ok a (by simp)
    cases hj : joins a t with
    | none =>
      refine ⟨fun x hx => ?_, last_none h.ap hj⟩
      rcases List.mem_append.1 hx with hx | hx
      · exact h.ok x hx
      · simp at hx; subst hx; exact ht
    | some b =>
      have hb : okT n b ∧ (b.1 = a.1) ∧ (0 < b.2.1 ↔ 0 < a.2.1) := by
        have q1 := ht.c0; have q2 := ha.c0; have q3 := ha.f0
        unfold joins at hj
        split at hj
        · rename_i h3
          injection hj with hj; subst hj
          have r1 := ht.blk h3.1; have r2 := ha.blk h3.2.1
          exact ⟨⟨q3, by simp only; omega, fun _ => ⟨r2.1, by simp only; omega⟩, fun h9 => by simp only at h9; omega⟩, rfl, by simp only; omega⟩
        · split at hj
          · rename_i h3
            injection hj with hj; subst hj
            have r1 := ht.raw h3.1; have r2 := ha.raw h3.2
            exact ⟨⟨q3, q2, fun h9 => by simp only at h9; omega, fun _ => ⟨r2.1, by simp [r1.2]⟩⟩, rfl, Iff.rfl⟩
          · cases hj
      refine ⟨fun x hx => ?_, last_turn h.ap fun q hq => joins_same (t := t) ha hb.1 hq hb.2.1 hb.2.2⟩
      rcases List.mem_append.1 hx with hx | hx
      · exact h.ok x (List.mem_append_left _ hx)
      · simp at hx; subst hx; exact hb.1
theorem good_tell {n s : Nat} (hs : 0 < s) {f : List UInt8 → Option Nat} (hf : ∀ p i, f p = some i → i < n) (d : List UInt8) (out : List Tok) (h : good n out) : good n (tell s f d out) := by
  refine tell_ind s hs f (I := fun out r d => good n out → good n r) (fun _ h => h) (fun d out i hd hi ih hg => ih (good_add hg ?_ (.inr rfl))) (fun x d out hx ih hg => ih (good_add hg ?_ (.inl rfl))) d.length d out (Nat.le_refl _) h
  · have := hf _ _ hi
    exact ⟨by simp, by simp, fun _ => ⟨rfl, by simp only; omega⟩, fun h9 => by simp at h9⟩
  · exact ⟨by simp, by simp, fun h9 => by simp at h9, fun _ => ⟨rfl, by simp⟩⟩

/-! ### how many -/
theorem addT_length (l : List Tok) (t : Tok) : (addT l t).length ≤ l.length + 1 ∧ 0 < (addT l t).length := by
  rcases snoc_or l with rfl | ⟨p, a, rfl⟩
  · simp [addT_nil]
  · rw [addT_snoc]
    cases joins a t <;> simp
theorem tell_length {s : Nat} (hs : 0 < s) (f : List UInt8 → Option Nat) (d : List UInt8) (out : List Tok) : (tell s f d out).length ≤ out.length + d.length := by
  refine tell_ind s hs f (I := fun out r d => r.length ≤ out.length + d.length) (fun _ => Nat.le_refl _) (fun d out i hd hi ih => ?_) (fun x d out hx ih => ?_) d.length d out (Nat.le_refl _)
  · have := (addT_length out ((i : Int), 1, [])).1
    have hp : 0 < d.length := List.length_pos_iff.2 hd
    rw [List.length_drop] at ih
    omega
  · have := (addT_length out ((0 : Int), (0 : Int), [x])).1
    rw [List.length_cons]
    omega
/-- How many bytes a token has at most. -/
def upto (k : Nat) (l : List Tok) : Prop := ∀ t ∈ l, t.2.2.length ≤ k
theorem upto_add {k : Nat} {l : List Tok} {t : Tok} (h : upto k l) : upto (k + t.2.2.length) (addT l t) := by
  rcases snoc_or l with rfl | ⟨p, a, rfl⟩
  · intro x hx; rw [addT_nil] at hx; simp at hx; subst hx; omega
  · rw [addT_snoc]
    have ha := h a (by simp)
    cases hj : joins a t with
    | none =>
      intro x hx
      rcases List.mem_append.1 hx with hx | hx
      · have := h x hx; omega
      · simp at hx; subst hx; omega
    | some b =>
      have hb : b.2.2.length ≤ k + t.2.2.length := by
        unfold joins at hj
        split at hj
        · injection hj with hj; subst hj; simp only; omega
        · split at hj
          · injection hj with hj; subst hj; simp only [List.length_append]; omega
          · cases hj
      intro x hx
      rcases List.mem_append.1 hx with hx | hx
      · have := h x (List.mem_append_left _ hx); omega
      · simp at hx; subst hx; exact hb
/-- How many blocks. -/
def sumC (l : List Tok) : Int := (l.map (·.2.1)).sum
theorem sumC_snoc (p : List Tok) (a : Tok) : sumC (p ++ [a]) = sumC p + a.2.1 := by simp [sumC]
theorem sumC_add (l : List Tok) (t : Tok) : sumC (addT l t) = sumC l + t.2.1 := by
  rcases snoc_or l with rfl | ⟨p, a, rfl⟩
  · simp [addT_nil, sumC]
  · rw [addT_snoc]
    cases hj : joins a t with
    | none => rw [sumC_snoc]
    | some b =>
      have hb : b.2.1 = a.2.1 + t.2.1 := by
        unfold joins at hj
        split at hj
        · injection hj with hj; subst hj; rfl
        · split at hj
          · rename_i h3; injection hj with hj; subst hj; simp only; omega
          · cases hj
      simp only [sumC_snoc, hb]
      omega
/-- Nothing but blocks. -/
def bare (l : List Tok) : Prop := ∀ t ∈ l, 0 < t.2.1 ∧ t.2.2 = []
theorem bare_add {l : List Tok} {t : Tok} (h : bare l) (ht : 0 < t.2.1 ∧ t.2.2 = []) : bare (addT l t) := by
  rcases snoc_or l with rfl | ⟨p, a, rfl⟩
  · intro x hx; rw [addT_nil] at hx; simp at hx; subst hx; exact ht
  · rw [addT_snoc]
    have ha := h a (by simp)
    cases hj : joins a t with
    | none =>
      intro x hx
      rcases List.mem_append.1 hx with hx | hx
      · exact h x hx
      · simp at hx; subst hx; exact ht
    | some b =>
      have hb : 0 < b.2.1 ∧ b.2.2 = [] := by
        unfold joins at hj
        split at hj
        · injection hj with hj; subst hj; exact ⟨by simp only; omega, ha.2⟩
        · split at hj
          · rename_i h3; omega
          · cases hj
      intro x hx
      rcases List.mem_append.1 hx with hx | hx
      · exact h x (List.mem_append_left _ hx)
      · simp at hx; subst hx; exact hb
/-- Bytes that are blocks, one behind the other. -/
inductive Told (s : Nat) (f : List UInt8 → Option Nat) : List UInt8 → Nat → Prop
  | nil : Told s f [] 0
  | cons (d : List UInt8) (m : Nat) (hd : d ≠ []) (hf : f (d.take s) ≠ none) (h : Told s f (d.drop s) m) : Told s f d (m + 1)
theorem tell_told {s : Nat} (hs : 0 < s) {f : List UInt8 → Option Nat} {d : List UInt8} {m : Nat} (h : Told s f d m) : ∀ out, bare out → bare (tell s f d out) ∧ sumC (tell s f d out) = sumC out + m := by
  induction h with
  | nil => intro out ho; rw [tell_nil]; exact ⟨ho, by simp⟩
  | cons d m hd hf h ih =>
    intro out ho
    obtain ⟨i, hi⟩ := Option.ne_none_iff_exists'.1 hf
    rw [tell_hit out hs hd hi]
    obtain ⟨q1, q2⟩ := ih (addT out ((i : Int), 1, [])) (bare_add ho ⟨show (0 : Int) < 1 by decide, rfl⟩)
    refine ⟨q1, ?_⟩
    rw [q2, sumC_add]
    simp only
    omega
/-- A file of its own blocks. -/
theorem told_own {s : Nat} (hs : 0 < s) {f : List UInt8 → Option Nat} {d : List UInt8} (hf : ∀ k, k < cnt d.length s → f (piece s d k) ≠ none) : ∀ (m k : Nat), k + m = cnt d.length s → Told s f (d.drop (k * s)) m
  | 0, k, hk => by
    have h1 : ¬ k * s < d.length := fun h => by have := (cnt_spec d.length s hs k).2 h; omega
    rw [List.drop_eq_nil_of_le (by omega)]
    exact .nil
  | m + 1, k, hk => by
    have h1 := (cnt_spec d.length s hs k).1 (by omega)
    refine .cons _ _ (fun h => ?_) (hf k (by omega)) ?_
    · have := congrArg List.length h; rw [List.length_drop] at this; simp at this; omega
    · rw [List.drop_drop, show k * s + s = (k + 1) * s by rw [Nat.add_mul]; omega]
      exact told_own hs hf m (k + 1) (by omega)
theorem told_flat {s : Nat} (hs : 0 < s) {f : List UInt8 → Option Nat} : ∀ cs : List (List UInt8), (∀ c ∈ cs, c.length = s ∧ f c ≠ none) → Told s f cs.flatten cs.length
  | [], _ => .nil
  | c :: cs, h => by
    obtain ⟨h1, h2⟩ := h c (by simp)
    have ht : (c :: cs).flatten.take s = c := by rw [List.flatten_cons, List.take_append_of_le_length (by omega), List.take_of_length_le (by omega)]
    have hd : (c :: cs).flatten.drop s = cs.flatten := by rw [List.flatten_cons, ← h1, List.drop_left]
    refine .cons _ _ (fun e => ?_) (by rw [ht]; exact h2) (by rw [hd]; exact told_flat hs cs fun x hx => h x (List.mem_cons_of_mem _ hx))
    have := congrArg List.length e
    rw [List.flatten_cons, List.length_append, List.length_nil] at this
    omega
end Go.Proofs.YtanbddaecojijaaDoor.STell
