/- Plain law, no program: what was read stands there, as it is written. Tokens that are read of any bytes: plain. No program. -/
import Derived.Test.YtanbddaecojijaaDoorSpecRd
import Derived.Test.YtanbddaecojijaaDoorSpecTB
set_option linter.unusedVariables false
namespace Go.Proofs.YtanbddaecojijaaDoor.SCode
theorem numL_inv (b : List UInt8) (from_ : Nat) : ∀ (fuel k acc at_ at2 n : Nat), fuel + k = 7 → k ≤ 6 → rNumL b from_ fuel k acc ⟨at_, none⟩ = (⟨at2, none⟩, n) →
    ∃ m, n = acc + m * 128 ^ k ∧ b.drop at_ = numB m ++ b.drop at2 ∧ at2 = at_ + (numB m).length ∧ (0 < k → 0 < m) ∧ n ≤ 1099511627776 := by
  intro fuel
  induction fuel with
  | zero => intro k acc at_ at2 n h1 h2 _; omega
  | succ f ih =>
    intro k acc at_ at2 n h1 h2 h
    by_cases hl : at_ < b.length
    · have hb := rByte_ok b at_ _ (List.getElem?_eq_getElem hl)
      have hd : b.drop at_ = b[at_] :: b.drop (at_ + 1) := List.drop_eq_getElem_cons hl
      obtain ⟨x, hx⟩ : ∃ x, b[at_] = x := ⟨_, rfl⟩
      rw [hx] at hb hd
      unfold rNumL at h
      simp only [hb] at h
      split at h
      · exact absurd (by rw [(Prod.mk.inj h).1]) (fail_err (r := ⟨at_ + 1, none⟩) (a := from_) (e := 31))
      · rename_i hk
        split at h
        · rename_i h3
          split at h
          · exact absurd (by rw [(Prod.mk.inj h).1]) (fail_err (r := ⟨at_ + 1, none⟩) (a := from_) (e := 1))
          · rename_i h4
            obtain ⟨e1, e2⟩ := Prod.mk.inj h
            injection e1 with e1 _
            have hnx : numB x.toNat = [x] := by rw [numB_small _ h3]; simp
            refine ⟨x.toNat, e2.symm, ?_, ?_, fun h5 => ?_, by omega⟩
            · rw [hnx, hd, ← e1]; rfl
            · rw [hnx, ← e1]; rfl
            · rcases Nat.eq_zero_or_pos x.toNat with h6 | h6
              · exact absurd (.inr ⟨UInt8.toNat_inj.1 (by rw [h6]; rfl), h5⟩) hk
              · exact h6
        · rename_i h3
          have hk5 : k ≤ 5 := by
            rcases Nat.lt_or_ge k 6 with h6 | h6
            · omega
            · exact absurd (.inl (by omega)) hk
          obtain ⟨m, e1, e2, e3, e4, e5⟩ := ih (k + 1) _ (at_ + 1) at2 n (by omega) (by omega) h
          have hm := e4 (by omega)
          have hx2 := x.toNat_lt
          have hdiv : (x.toNat % 128 + 128 * m) / 128 = m := by omega
          have hmod : UInt8.ofNat ((x.toNat % 128 + 128 * m) % 128 + 128) = x := by
            apply UInt8.toNat_inj.1
            rw [UInt8.toNat_ofNat']
            omega
          have hnb : numB (x.toNat % 128 + 128 * m) = x :: numB m := by rw [numB_big _ (by omega), hdiv, hmod]
          refine ⟨x.toNat % 128 + 128 * m, ?_, ?_, ?_, fun _ => by omega, e5⟩
          · rw [e1, Nat.add_mul, Nat.pow_succ, Nat.mul_comm 128 m, Nat.mul_assoc m 128, Nat.mul_comm 128 (128 ^ k), Nat.add_assoc]
          · rw [hnb, hd, e2]; rfl
          · rw [hnb, e3, List.length_cons]; omega
    · have hb : rByte b ⟨at_, none⟩ = (⟨at_, some (at_, 30)⟩, 0) := by
        unfold rByte
        simp only []
        rw [dif_neg hl]
      unfold rNumL at h
      simp only [hb] at h
      have := (Prod.mk.inj h).1
      injection this with _ h9
      cases h9
theorem num_inv {b : List UInt8} {at_ at2 n : Nat} (h : rNum b ⟨at_, none⟩ = (⟨at2, none⟩, n)) : b.drop at_ = numB n ++ b.drop at2 ∧ at2 = at_ + (numB n).length ∧ n ≤ 1099511627776 := by
  unfold rNum at h
  simp only [] at h
  obtain ⟨m, e1, e2, e3, _, e5⟩ := numL_inv b at_ 7 0 0 at_ at2 n rfl (by omega) h
  have : n = m := by simpa using e1
  subst this
  exact ⟨e2, e3, e5⟩
/-- Where a number can't be read it is nought. -/
theorem num_zero {b : List UInt8} {r : R} (h : (rNum b r).1.err ≠ none) : (rNum b r).2 = 0 := by
  have key : ∀ (f fuel k acc : Nat) (r : R), (rNumL b f fuel k acc r).1.err ≠ none → (rNumL b f fuel k acc r).2 = 0 := by
    intro f fuel
    induction fuel with
    | zero => intro k acc r _; rfl
    | succ m ih =>
      intro k acc r h
      unfold rNumL at h ⊢
      dsimp only at h ⊢
      split at h
      · rfl
      · rename_i hq0
        split at h
        · rename_i h1; rw [if_pos h1]
        · rename_i h1
          rw [if_neg h1]
          split at h
          · rename_i h2
            rw [if_pos h2]
            split at h
            · rename_i h3; rw [if_pos h3]
            · rename_i h3 h4; exact absurd hq0 h
          · rename_i h2; rw [if_neg h2]; exact ih _ _ _ h
  unfold rNum at h ⊢
  split at h
  · rfl
  · exact key _ _ _ _ _ h
/-- A number is read within its bytes, up to 2^40. -/
theorem num_le (b : List UInt8) (r : R) : (rNum b r).2 ≤ 1099511627776 := by
  obtain ⟨a, er⟩ := r
  cases hq : (rNum b ⟨a, er⟩).1.err with
  | some q =>
    have key : ∀ (fuel k acc : Nat) (r : R), (rNumL b a fuel k acc r).1.err ≠ none → (rNumL b a fuel k acc r).2 = 0 := by
      intro fuel
      induction fuel with
      | zero => intro k acc r _; rfl
      | succ f ih =>
        intro k acc r h
        unfold rNumL at h ⊢
        dsimp only at h ⊢
        split at h
        · rfl
        · rename_i hq0
          split at h
          · rename_i h1; rw [if_pos h1]
          · rename_i h1
            rw [if_neg h1]
            split at h
            · rename_i h2
              rw [if_pos h2]
              split at h
              · rename_i h3; rw [if_pos h3]
              · exact absurd hq0 h
            · rename_i h2; rw [if_neg h2]; exact ih _ _ _ h
    cases er with
    | some e => exact Nat.zero_le _
    | none =>
      have h0 := key 7 0 0 ⟨a, none⟩ (by unfold rNum at hq; simp only [] at hq; rw [hq]; simp)
      unfold rNum
      simp only []
      rw [h0]
      exact Nat.zero_le _
  | none =>
    cases er with
    | some e => cases hq
    | none =>
      obtain ⟨p, hp⟩ : ∃ p, rNum b ⟨a, none⟩ = p := ⟨_, rfl⟩
      obtain ⟨⟨a2, e2⟩, n⟩ := p
      rw [hp] at hq ⊢
      dsimp only at hq
      subst hq
      exact (num_inv hp).2.2
theorem drop_suffix {b ys : List UInt8} {a c : Nat} (h : b.drop a = ys ++ b.drop c) (hl : c = a + ys.length) (hc : c ≤ b.length) : (b.take a) ++ ys = b.take c := by
  subst hl
  have h1 := congrArg (List.take ys.length) h
  rw [List.take_left' rfl] at h1
  rw [List.take_add, h1]
end Go.Proofs.YtanbddaecojijaaDoor.SCode
namespace Go.Proofs.YtanbddaecojijaaDoor.STB
open Go.Proofs.YtanbddaecojijaaDoor.STell Go.Proofs.YtanbddaecojijaaDoor.SCode

/-- One token: where the reader is behind it, and it; or the place and the number of what is wrong. -/
def stepD (b : List UInt8) (r : R) : Except (Nat × Nat) (R × Tok) :=
  match (rNum b (rNum b r).1).1.err with
  | some q => .error q
  | none =>
    if (rNum b r).2 = 0 then
      (if (rNum b (rNum b r).1).2 = 0 then .error (r.at_, 80)
       else if b.length - (rNum b (rNum b r).1).1.at_ < (rNum b (rNum b r).1).2 then .error (b.length, 30)
       else .ok (⟨(rNum b (rNum b r).1).1.at_ + (rNum b (rNum b r).1).2, none⟩, (0, 0, (b.drop (rNum b (rNum b r).1).1.at_).take (rNum b (rNum b r).1).2)))
    else .ok ((rNum b (rNum b r).1).1, (((rNum b (rNum b r).1).2 : Int), ((rNum b r).2 : Int), []))
def endD (b : List UInt8) (r : R) (acc : List Tok) : Except (Nat × Nat) (List Tok) :=
  match (rEnd b r).err with
  | some q => .error q
  | none => .ok acc
def loopD (b : List UInt8) : Nat → R → List Tok → Except (Nat × Nat) (List Tok)
  | 0, r, acc => endD b r acc
  | n + 1, r, acc => match stepD b r with
    | .error q => .error q
    | .ok p => loopD b n p.1 (acc ++ [p.2])
def readD (b : List UInt8) : Except (Nat × Nat) (List Tok) :=
  match (rNum b ⟨0, none⟩).1.err with
  | some q => .error q
  | none => if 8192 < (rNum b ⟨0, none⟩).2 then .error (0, 2) else loopD b (rNum b ⟨0, none⟩).2 (rNum b ⟨0, none⟩).1 []
def errD {α : Type} : Except (Nat × Nat) α → Option (Nat × Nat)
  | .error q => some q
  | .ok _ => none
def tokD : Except (Nat × Nat) (List Tok) → List Tok
  | .error _ => []
  | .ok L => L
/-- The number and the place of what is wrong, as the document tells them. -/
def cdD (e : Option (Nat × Nat)) : Nat := (e.map (·.2)).getD 0
def atD (e : Option (Nat × Nat)) : Nat := (e.map (·.1)).getD 0
def orE {α : Type} (er : Option (Nat × Nat)) (x : Except (Nat × Nat) α) : Except (Nat × Nat) α := match er with | some q => .error q | none => x
theorem loopD_err {b : List UInt8} {n : Nat} {r : R} {acc : List Tok} {q : Nat × Nat} (h : stepD b r = .error q) : loopD b (n + 1) r acc = .error q := by rw [loopD, h]
theorem loopD_ok {b : List UInt8} {n : Nat} {r : R} {acc : List Tok} {p : R × Tok} (h : stepD b r = .ok p) : loopD b (n + 1) r acc = loopD b n p.1 (acc ++ [p.2]) := by rw [loopD, h]

theorem numI_nat (n : Nat) (h : n ≤ 1099511627776) : numI (n : Int) = numB n := by unfold numI; rw [clampN_nat n h]
theorem err_num {b : List UInt8} {r : R} (h : (rNum b r).1.err = none) : r.err = none := by
  obtain ⟨a, er⟩ := r
  cases er with
  | none => rfl
  | some q => cases h
/-- What was read of one token is what it is written as. -/
theorem stepD_inv {b : List UInt8} {r : R} {p : R × Tok} (hr : r.at_ ≤ b.length) (h : stepD b r = .ok p) : p.1.err = none ∧ p.1.at_ ≤ b.length ∧ okB p.2 = true ∧ b.drop r.at_ = encT p.2 ++ b.drop p.1.at_ ∧ p.2.2.2.length ≤ b.length ∧ p.2.1 ≤ 1099511627776 ∧ p.2.2.1 ≤ 1099511627776 := by
  unfold stepD at h
  split at h
  · cases h
  · rename_i h2
    have h1 := err_num h2
    have h0 := err_num h1
    obtain ⟨a, er⟩ := r
    obtain rfl : er = none := h0
    obtain ⟨⟨⟨a1, e1⟩, n1⟩, hp1⟩ : ∃ p, rNum b ⟨a, none⟩ = p := ⟨_, rfl⟩
    simp only [hp1] at h1 h2 h ⊢
    subst h1
    obtain ⟨⟨⟨a2, e2⟩, n2⟩, hp2⟩ : ∃ p, rNum b ⟨a1, none⟩ = p := ⟨_, rfl⟩
    simp only [hp2] at h2 h ⊢
    subst h2
    obtain ⟨i1, i2, i3⟩ := num_inv hp1
    obtain ⟨j1, j2, j3⟩ := num_inv hp2
    have hlen : a2 ≤ b.length := by
      dsimp only at hr
      have k1 := congrArg List.length i1
      have k2 := congrArg List.length j1
      simp only [List.length_append, List.length_drop] at k1 k2
      have q1 := numB_pos n1
      have q2 := numB_pos n2
      omega
    split at h
    · rename_i hn1
      split at h
      · cases h
      · rename_i hn2
        split at h
        · cases h
        · rename_i hsh
          injection h with h
          subst h
          have hl : ((b.drop a2).take n2).length = n2 := by rw [List.length_take, List.length_drop]; omega
          have hraw : rawT (0, 0, (b.drop a2).take n2) := ⟨rfl, rfl, fun e => by have := congrArg List.length e; rw [hl] at this; exact hn2 this⟩
          refine ⟨rfl, by dsimp only; omega, (enc_raw hraw).1, ?_, by dsimp only; omega, by show (0 : Int) ≤ 1099511627776; decide, by show (0 : Int) ≤ 1099511627776; decide⟩
          rw [(enc_raw hraw).2]
          dsimp only
          rw [hl, numI_nat n2 j3, i1, j1, hn1, List.append_assoc, List.append_assoc, ← List.drop_drop, List.take_append_drop]
          rfl
    · rename_i hn1
      injection h with h
      subst h
      have hblk : blkT ((n2 : Int), (n1 : Int), []) := ⟨by show (0 : Int) < (n1 : Int); omega, by show (0 : Int) ≤ (n2 : Int); omega, by show (n2 : Int) ≤ _; omega, by show (n1 : Int) ≤ _; omega, rfl⟩
      refine ⟨rfl, hlen, (enc_blk hblk).1, ?_, Nat.zero_le _, by show (n2 : Int) ≤ _; omega, by show (n1 : Int) ≤ _; omega⟩
      rw [(enc_blk hblk).2]
      dsimp only
      rw [numI_nat n1 i3, numI_nat n2 j3, i1, j1, List.append_assoc]
theorem loopD_inv (b : List UInt8) : ∀ (n : Nat) (r : R) (acc L : List Tok), r.at_ ≤ b.length → r.err = none → loopD b n r acc = .ok L →
    ∃ M, L = acc ++ M ∧ M.length = n ∧ b.drop r.at_ = encZ M ∧ (∀ t ∈ M, okB t = true) ∧ ∀ t ∈ M, t.2.2.length ≤ b.length := by
  intro n
  induction n with
  | zero =>
    intro r acc L hr he h
    rw [loopD] at h
    unfold endD at h
    split at h
    · cases h
    · rename_i h1
      injection h with h
      refine ⟨[], by simp [h], rfl, ?_, (fun t ht => by cases ht), fun t ht => by cases ht⟩
      obtain ⟨a, er⟩ := r
      obtain rfl : er = none := he
      have : ¬ a < b.length := fun hl => by
        unfold rEnd at h1
        simp only [] at h1
        rw [if_pos hl] at h1
        cases h1
      rw [List.drop_of_length_le (by dsimp only; omega)]
      rfl
  | succ n ih =>
    intro r acc L hr he h
    rw [loopD] at h
    split at h
    · cases h
    · rename_i p hp
      obtain ⟨i1, i2, i3, i4, i5, _⟩ := stepD_inv hr hp
      obtain ⟨M, m1, m2, m3, m4, m5⟩ := ih p.1 _ L i2 i1 h
      refine ⟨p.2 :: M, by rw [m1]; simp, by rw [List.length_cons, m2], ?_, fun t ht => ?_, fun t ht => ?_⟩
      · rw [i4, m3]; simp [encZ]
      · rcases List.mem_cons.1 ht with rfl | ht
        · exact i3
        · exact m4 t ht
      · rcases List.mem_cons.1 ht with rfl | ht
        · exact i5
        · exact m5 t ht
/-- What is read is written as it was. -/
theorem readD_inv {b : List UInt8} {L : List Tok} (h : readD b = .ok L) : encL L = b ∧ L.length ≤ 8192 ∧ (∀ t ∈ L, okB t = true) ∧ ∀ t ∈ L, t.2.2.length ≤ b.length := by
  unfold readD at h
  split at h
  · cases h
  · rename_i h1
    split at h
    · cases h
    · rename_i h2
      obtain ⟨⟨⟨a1, e1⟩, n1⟩, hp1⟩ : ∃ p, rNum b ⟨0, none⟩ = p := ⟨_, rfl⟩
      simp only [hp1] at h1 h2 h
      subst h1
      obtain ⟨i1, i2, i3⟩ := num_inv hp1
      have hl : a1 ≤ b.length := by
        have k1 := congrArg List.length i1
        simp only [List.length_append, List.length_drop] at k1
        have q1 := numB_pos n1
        omega
      obtain ⟨M, m1, m2, m3, m4, m5⟩ := loopD_inv b n1 ⟨a1, none⟩ [] L hl rfl h
      rw [List.nil_append] at m1
      subst m1
      dsimp only at m3
      refine ⟨?_, by omega, m4, m5⟩
      unfold encL
      rw [m2, numI_nat n1 i3, ← m3, ← i1, List.drop_zero]
/-- What went wrong has a number above 0. -/
theorem stepD_pos {b : List UInt8} {r : R} {q : Nat × Nat} (hr : pos r) (h : stepD b r = .error q) : 0 < q.2 := by
  unfold stepD at h
  split at h
  · rename_i q' hq
    injection h with h
    subst h
    exact pos_num (pos_num hr b) b _ hq
  · split at h
    · split at h
      · injection h with h; subst h; show 0 < 80; decide
      · split at h
        · injection h with h; subst h; show 0 < 30; decide
        · cases h
    · cases h
theorem pos_end {r : R} (h : pos r) (b : List UInt8) : pos (rEnd b r) := by
  unfold rEnd
  split
  · exact h
  · split
    · exact pos_fail h _ _ (by decide)
    · exact h
theorem stepD_pos_ok {b : List UInt8} {r : R} {p : R × Tok} (hr : pos r) (h : stepD b r = .ok p) : pos p.1 := by
  unfold stepD at h
  split at h
  · cases h
  · rename_i h2
    split at h
    · split at h
      · cases h
      · split at h
        · cases h
        · injection h with h; subst h; exact pos_none _
    · injection h with h; subst h; exact pos_num (pos_num hr b) b
theorem loopD_pos (b : List UInt8) : ∀ (n : Nat) (r : R) (acc : List Tok) (q : Nat × Nat), pos r → loopD b n r acc = .error q → 0 < q.2 := by
  intro n
  induction n with
  | zero =>
    intro r acc q hr h
    rw [loopD] at h
    unfold endD at h
    split at h
    · rename_i q' hq
      injection h with h
      subst h
      exact pos_end hr b _ hq
    · cases h
  | succ n ih =>
    intro r acc q hr h
    rw [loopD] at h
    split at h
    · rename_i q' hq
      injection h with h
      subst h
      exact stepD_pos hr hq
    · rename_i p hp
      exact ih _ _ _ (stepD_pos_ok hr hp) h
theorem readD_pos {b : List UInt8} {q : Nat × Nat} (h : readD b = .error q) : 0 < q.2 := by
  unfold readD at h
  split at h
  · rename_i q' hq
    injection h with h
    subst h
    exact pos_num (pos_none 0) b _ hq
  · split at h
    · injection h with h; subst h; show 0 < 2; decide
    · exact loopD_pos b _ _ _ _ (pos_num (pos_none 0) b) h
end Go.Proofs.YtanbddaecojijaaDoor.STB
