/- What is told of blocks: plain. No program. What good tokens make: plain. No program. -/
import Derived.Test.YtnfneokmiopieaaDoorSpecDel
import Derived.Test.YtnfneokmiopieaaDoorSpecLaw6
import Derived.Test.YtnfneokmiopieaaDoorSums6
import Derived.Test.YtnfneokmiopieaaDoorSpecJoin
set_option linter.unusedVariables false
namespace Go.Proofs.YtnfneokmiopieaaDoor.STell
open Go.Proofs.YtnfneokmiopieaaDoor.SBlk Go.Proofs.YtnfneokmiopieaaDoor.Bk Go.Proofs.YtnfneokmiopieaaDoor.Blk Go.Proofs.YtnfneokmiopieaaDoor.L6

/-- What the sums of a file that is not refused are. -/
theorem made7 {b : List UInt8} {size cut : Int} (h : makeE b.length size cut = 0) : ∃ (s d : Nat), size = s ∧ cut = d ∧ 1 ≤ s ∧ s ≤ 4096 ∧ d ≤ 32 := by
  have hc := makeE_cases b.length size cut
  obtain ⟨a1, a2, a3, a4, a5⟩ : 1 ≤ size ∧ size ≤ 4096 ∧ 0 ≤ cut ∧ cut ≤ 32 ∧ countI b.length size ≤ 4096 := by
    rcases hc with h | h | h | h | h | h <;> omega
  obtain ⟨s, rfl⟩ := Int.eq_ofNat_of_zero_le (show 0 ≤ size by omega)
  obtain ⟨d, rfl⟩ := Int.eq_ofNat_of_zero_le a3
  exact ⟨s, d, rfl, rfl, by omega, by omega, by omega⟩
theorem tellR_made {b : List UInt8} {s : Nat} {cut : Int} (h : makeE b.length s cut = 0) (d : List UInt8) : tellR s cut b.length (blocks s cut b (cnt b.length s)) d = tell s (fB s b.length cut (blocks s cut b (cnt b.length s))) d [] := by
  have hc := chk_made h
  rw [Int.toNat_natCast] at hc
  unfold tellR
  rw [if_pos hc, Int.toNat_natCast, Int.toNat_natCast]
theorem good_made {b : List UInt8} {s : Nat} {cut : Int} (hs : 1 ≤ s) (d : List UInt8) : good (cnt b.length s) (tell s (fB s b.length cut (blocks s cut b (cnt b.length s))) d []) := by
  have := good_tell (n := cnt b.length s) (s := s) (by omega) (f := fB s b.length cut (blocks s cut b (cnt b.length s))) (fun p i h => by have := fB_lt h; rw [blocks_length] at this; exact this) d [] (good_nil _)
  exact this
theorem piece_found {b : List UInt8} {s : Nat} {cut : Int} (k : Nat) (hk : k < cnt b.length s) : fB s b.length cut (blocks s cut b (cnt b.length s)) (piece s b k) ≠ none := by
  obtain ⟨r, h1, _⟩ := find_own b s cut (cnt b.length s) k hk
  unfold fB
  rw [h1]
  exact fun h => by cases h
theorem own_made {b : List UInt8} {s : Nat} {cut : Int} (hs : 1 ≤ s) : bare (tell s (fB s b.length cut (blocks s cut b (cnt b.length s))) b []) ∧ sumC (tell s (fB s b.length cut (blocks s cut b (cnt b.length s))) b []) = cnt b.length s := by
  have h1 := told_own (s := s) (by omega) (f := fB s b.length cut (blocks s cut b (cnt b.length s))) (d := b) (fun k hk => piece_found k hk) (cnt b.length s) 0 (by omega)
  rw [Nat.zero_mul, List.drop_zero] at h1
  have h2 := tell_told (by omega) h1 [] (fun t ht => by cases ht)
  refine ⟨h2.1, ?_⟩
  rw [h2.2]
  show sumC [] + _ = _
  unfold sumC
  simp
theorem flat_made {b : List UInt8} {s : Nat} {cut : Int} (hs : 1 ≤ s) (cs : List (List UInt8)) (h : ∀ c ∈ cs, c.length = s ∧ fB s b.length cut (blocks s cut b (cnt b.length s)) c ≠ none) : bare (tell s (fB s b.length cut (blocks s cut b (cnt b.length s))) cs.flatten []) ∧ sumC (tell s (fB s b.length cut (blocks s cut b (cnt b.length s))) cs.flatten []) = cs.length := by
  have h2 := tell_told (by omega) (told_flat (s := s) (by omega) cs h) [] (fun t ht => by cases ht)
  refine ⟨h2.1, ?_⟩
  rw [h2.2]
  show sumC [] + _ = _
  unfold sumC
  simp
theorem sumC_take (L : List Tok) (i : Nat) (t : Tok) (h : L[i]? = some t) : sumC (L.take (i + 1)) = sumC (L.take i) + t.2.1 := by
  rw [List.take_add_one, h]
  exact sumC_snoc _ _
theorem sumC_nonneg : ∀ {L : List Tok}, bare L → 0 ≤ sumC L
  | [], _ => by unfold sumC; simp
  | t :: L, h => by
    have h1 := (h t (by simp)).1
    have h2 := sumC_nonneg (L := L) (fun x hx => h x (by simp [hx]))
    unfold sumC at h2 ⊢
    simp only [List.map_cons, List.sum_cons]
    omega
theorem sumC_bound {L : List Tok} (h : bare L) (i : Nat) : 0 ≤ sumC (L.take i) ∧ sumC (L.take i) ≤ sumC L := by
  have h1 : sumC (L.take i) + sumC (L.drop i) = sumC L := by
    conv => rhs; rw [← List.take_append_drop i L]
    unfold sumC
    rw [List.map_append, List.sum_append]
  have h2 := sumC_nonneg (L := L.take i) (fun x hx => h x (List.mem_of_mem_take hx))
  have h3 := sumC_nonneg (L := L.drop i) (fun x hx => h x (List.mem_of_mem_drop hx))
  omega
/-- Two that stand side by side. -/
theorem apart_cases {n : Nat} {a t : Tok} (ha : okT n a) (ht : okT n t) (h : joins a t = none) : (t.2.1 = 0 ∧ 0 < a.2.1) ∨ (0 < t.2.1 ∧ a.2.1 = 0) ∨ (0 < t.2.1 ∧ 0 < a.2.1 ∧ a.1 + a.2.1 ≠ t.1) := by
  have h1 := ha.c0; have h2 := ht.c0
  unfold joins at h
  split at h
  · cases h
  · split at h
    · cases h
    · omega
end Go.Proofs.YtnfneokmiopieaaDoor.STell
namespace Go.Proofs.YtnfneokmiopieaaDoor.SJoin
open Go.RowKit Go.Proofs.YtnfneokmiopieaaDoor.SBlk Go.Proofs.YtnfneokmiopieaaDoor.STell

theorem upto_tell {s : Nat} (hs : 0 < s) (f : List UInt8 → Option Nat) (d : List UInt8) (out : List Tok) (k : Nat) (h : upto k out) : upto (k + d.length) (tell s f d out) := by
  refine tell_ind s hs f (I := fun out r d => ∀ k, upto k out → upto (k + d.length) r) (fun out k h t ht => by have := h t ht; omega) (fun d out i hd hi ih k h => ?_) (fun x d out hx ih k h => ?_) d.length d out (Nat.le_refl _) k h
  · have h1 := upto_add (t := ((i : Int), (1 : Int), ([] : List UInt8))) h
    have h2 := ih _ h1
    intro t ht
    have := h2 t ht
    rw [List.length_drop] at this
    simp at this
    omega
  · have h1 := upto_add (t := ((0 : Int), (0 : Int), [x])) h
    have h2 := ih _ h1
    intro t ht
    have := h2 t ht
    simp at this
    rw [List.length_cons]
    omega
theorem joinL_good {old : List UInt8} {size : Int} {nb : Nat} (hnb : countI old.length size = (nb : Int)) (hol : old.length ≤ 200) : ∀ (L : List Tok) (i : Nat) (out : List UInt8), (∀ t ∈ L, okT nb t) → (∀ t ∈ L, t.2.2.length ≤ 200) → out.length + L.length * 200 ≤ 65536 → (joinL old size i out L).2.1 = 0
  | [], _, out, _, _, _ => rfl
  | t :: L, i, out, h1, h2, h3 => by
    have hk := h1 t (by simp)
    have hx := h2 t (by simp)
    have c0 := hk.c0
    have f0 := hk.f0
    have hb : (blkB old size t.1 t.2.1).length ≤ 200 := by
      unfold blkB
      rw [List.length_take, List.length_drop]
      omega
    rw [List.length_cons] at h3
    obtain ⟨o, ho, hl⟩ : ∃ o, stepJ old size out t = (0, o) ∧ o.length ≤ out.length + 200 := by
      unfold stepJ
      rcases (by omega : t.2.1 = 0 ∨ 0 < t.2.1) with hc | hc
      · rw [if_neg (by omega), if_neg (by omega), if_neg (by omega)]
        exact ⟨_, rfl, by rw [List.length_append]; omega⟩
      · obtain ⟨g1, g2⟩ := hk.blk hc
        rw [if_neg (by rw [g1]; simp; omega), if_pos hc, hnb, if_neg (by omega), if_neg (by omega)]
        exact ⟨_, rfl, by rw [List.length_append]; omega⟩
    rw [joinL, ho, if_pos rfl]
    exact joinL_good hnb hol L _ _ (fun t ht => h1 t (by simp [ht])) (fun t ht => h2 t (by simp [ht])) (by show o.length + _ ≤ _; omega)
theorem cut_full (x : List UInt8) : Sha.cut 32 x = Sha.sha x := by
  have h : (Sha.sha x).length = 32 := Sha.sha_length x
  unfold Sha.cut
  have e : Sha.cutK 32 = 32 := rfl
  rw [e, List.take_of_length_le (by omega)]
  simp
end Go.Proofs.YtnfneokmiopieaaDoor.SJoin
