/- What the statements of chapter 06 say beyond the document: plain. -/
import Derived.Test.YtanbddaecojijaaDoorTab
import Derived.Test.YtanbddaecojijaaDoorSpecChk
import Derived.Test.YtanbddaecojijaaDoorSpecCode
set_option linter.unusedVariables false
namespace Go.Proofs.YtanbddaecojijaaDoor.SBlk
open Go.Proofs.YtanbddaecojijaaDoor.Bk Go.Proofs.YtanbddaecojijaaDoor.Blk Go.Proofs.YtanbddaecojijaaDoor.SWeak Go.Proofs.YtanbddaecojijaaDoor.SCode

theorem findL_hit (p : Nat → BK → Bool) : ∀ (bs : List BK) (i j : Nat) (b : BK), bs[j]? = some b → p (i + j) b = true → ∃ r c, findL p i bs = some r ∧ i ≤ r ∧ r ≤ i + j ∧ bs[r - i]? = some c ∧ p r c = true
  | [], i, j, b, h, _ => by simp at h
  | c :: bs, i, j, b, h, hp => by
    rw [findL]
    by_cases hc : p i c = true
    · rw [if_pos hc]; exact ⟨i, c, rfl, Nat.le_refl _, by omega, by simp, hc⟩
    · rw [if_neg hc]
      cases j with
      | zero => simp at h; subst h; exact absurd hp hc
      | succ j =>
        simp only [List.getElem?_cons_succ] at h
        obtain ⟨r, e, h1, h2, h3, h4, h5⟩ := findL_hit p bs (i + 1) j b h (by rw [show i + 1 + j = i + (j + 1) by omega]; exact hp)
        refine ⟨r, e, h1, by omega, by omega, ?_, h5⟩
        rw [show r - i = (r - (i + 1)) + 1 by omega, List.getElem?_cons_succ]
        exact h4
theorem hit_eq {s L : Nat} {t : BK} {m i : Nat} {b : BK} (h : hit s L t m i b = true) : b = t := by
  unfold hit at h
  simp at h
  exact h.2
/-- Each block of a file is found by itself, or by one ahead of it with the same sums. -/
theorem find_own (d : List UInt8) (s : Nat) (cut : Int) (n k : Nat) (hk : k < n) : ∃ r, findL (hit s d.length (sums cut (piece s d k)) (piece s d k).length) 0 (blocks s cut d n) = some r ∧ r ≤ k ∧ (blocks s cut d n)[r]? = some (sums cut (piece s d k)) := by
  obtain ⟨r, c, h1, h2, h3, h4, h5⟩ := findL_hit (hit s d.length (sums cut (piece s d k)) (piece s d k).length) (blocks s cut d n) 0 k _ (blocks_get s cut d n k hk) (by unfold hit; rw [piece_length]; simp)
  exact ⟨r, h1, by omega, by rw [show r = r - 0 by omega, h4, hit_eq h5]⟩
/-- Where files have the same bytes. -/
theorem piece_more (s : Nat) (d m : List UInt8) (i : Nat) (h : (i + 1) * s ≤ d.length) : piece s (d ++ m) i = piece s d i := by
  unfold piece
  rw [Nat.add_mul, Nat.one_mul] at h
  rw [List.drop_append_of_le_length (by omega), List.take_append_of_le_length (by rw [List.length_drop]; omega)]
theorem whole_cnt (n s i : Nat) (hs : 0 < s) (h : i < n / s) : i < cnt n s ∧ (i + 1) * s ≤ n := by
  have h1 : (i + 1) * s ≤ n := by
    have : (i + 1) * s ≤ n / s * s := Nat.mul_le_mul_right _ h
    have := Nat.div_mul_le_self n s
    omega
  refine ⟨(cnt_spec n s hs i).2 ?_, h1⟩
  rw [Nat.add_mul] at h1
  omega
theorem whole_le (n s : Nat) : n / s ≤ cnt n s := by unfold cnt; split <;> omega
/-- Cut to one byte fewer. -/
theorem cut_set (cut : Nat) (p : List UInt8) (h : cut ≤ 31) : (Sha.cut ((cut + 1 : Nat) : Int) p).set cut 0 = Sha.cut (cut : Int) p := by
  have hs := Sha.sha_length p
  have e : ∀ c : Nat, c ≤ 32 → Sha.cut (c : Int) p = (Sha.sha p).take c ++ List.replicate (32 - c) 0 := fun c hc => by
    have : Sha.cutK (c : Int) = c := by unfold Sha.cutK; omega
    show (Sha.sha p).take (Sha.cutK c) ++ List.replicate (32 - Sha.cutK c) 0 = _
    rw [this]
  rw [e _ (by omega), e _ (by omega)]
  apply List.ext_getElem?
  intro k
  rw [List.getElem?_set]
  have l1 : ((Sha.sha p).take (cut + 1)).length = cut + 1 := by rw [List.length_take]; omega
  have l0 : ((Sha.sha p).take cut).length = cut := by rw [List.length_take]; omega
  by_cases h1 : cut = k
  · subst h1
    rw [if_pos rfl, List.length_append, l1, List.length_replicate, if_pos (by omega), List.getElem?_append_right (by omega), l0, List.getElem?_replicate, if_pos (by omega)]
  · rw [if_neg h1]
    by_cases h2 : k < cut
    · rw [List.getElem?_append_left (by omega), List.getElem?_append_left (by omega), List.getElem?_take, List.getElem?_take, if_pos (by omega), if_pos h2]
    · rw [List.getElem?_append_right (by omega), List.getElem?_append_right (by omega), l1, l0, List.getElem?_replicate, List.getElem?_replicate]
      by_cases h3 : k < 32
      · rw [if_pos (by omega), if_pos (by omega)]
      · rw [if_neg (by omega), if_neg (by omega)]
/-- The sums as bytes. -/
def rowB (cut : Nat) (b : BK) : List UInt8 := numI (b.w : Int) ++ b.st.take cut
def rowsB (cut : Nat) (bs : List BK) : List UInt8 := bs.flatMap (rowB cut)
def sgB (size cut len : Int) (bs : List BK) : List UInt8 := ((numI size ++ numI cut) ++ numI len) ++ rowsB cut.toNat bs
theorem rowsB_snoc (cut : Nat) (bs : List BK) (b : BK) : rowsB cut (bs ++ [b]) = (rowsB cut bs ++ numI (b.w : Int)) ++ b.st.take cut := by
  simp [rowsB, rowB]
theorem rowsB_length_le (cut : Nat) : ∀ bs : List BK, (rowsB cut bs).length ≤ 38 * bs.length
  | [] => by simp [rowsB]
  | b :: bs => by
    have h1 := rowsB_length_le cut bs
    have h2 := numI_length (b.w : Int)
    have h3 := b.h
    have e : rowsB cut (b :: bs) = rowB cut b ++ rowsB cut bs := rfl
    rw [e, List.length_append, List.length_cons]
    unfold rowB
    rw [List.length_append, List.length_take]
    omega
theorem sgB_length_le (size cut len : Int) (bs : List BK) : (sgB size cut len bs).length ≤ 18 + 38 * bs.length := by
  have h1 := numI_length size; have h2 := numI_length cut; have h3 := numI_length len
  have h4 := rowsB_length_le cut.toNat bs
  unfold sgB
  simp only [List.length_append]
  omega
theorem rowsB_one (cut : Nat) (hc : cut ≤ 31) (p : Nat → List UInt8) : ∀ is : List Nat, (rowsB (cut + 1) (is.map fun i => sums ((cut + 1 : Nat) : Int) (p i))).length = (rowsB cut (is.map fun i => sums (cut : Int) (p i))).length + is.length
  | [] => rfl
  | i :: is => by
    have ih := rowsB_one cut hc p is
    have e : ∀ (c : Nat) (b : BK) (bs : List BK), (rowsB c (b :: bs)).length = (numI (b.w : Int)).length + min c 32 + (rowsB c bs).length := fun c b bs => by
      show (rowB c b ++ rowsB c bs).length = _
      unfold rowB
      rw [List.length_append, List.length_append, List.length_take, b.h]
    rw [List.map_cons, List.map_cons, e, e, ih, List.length_cons]
    have ew : (sums ((cut + 1 : Nat) : Int) (p i)).w = (sums (cut : Int) (p i)).w := rfl
    rw [ew]
    omega
theorem sgB_one (size : Int) (cut n s : Nat) (d : List UInt8) (hc : cut ≤ 31) (L : Int) : (sgB size ((cut + 1 : Nat) : Int) L (blocks s ((cut + 1 : Nat) : Int) d n)).length = (sgB size (cut : Int) L (blocks s (cut : Int) d n)).length + n := by
  have h := rowsB_one cut hc (piece s d) (List.range n)
  have e : ∀ c : Nat, c ≤ 32 → (numI (c : Int)).length = 1 := fun c h => by
    unfold numI
    rw [clampN_nat c (by omega), numB_small _ (by omega)]
    rfl
  unfold sgB blocks
  simp only [List.length_append]
  rw [e _ (by omega), e _ (by omega), Int.toNat_natCast, Int.toNat_natCast, h, List.length_range]
  omega
theorem makeE_cut (n : Nat) (size : Int) (d : Nat) (hd : d ≤ 31) : makeE n size ((d + 1 : Nat) : Int) = makeE n size (d : Int) := by
  unfold makeE
  have e : (size < 1 ∨ 4096 < size ∨ ((d + 1 : Nat) : Int) < 0 ∨ 32 < ((d + 1 : Nat) : Int)) ↔ (size < 1 ∨ 4096 < size ∨ (d : Int) < 0 ∨ 32 < (d : Int)) := by omega
  by_cases h : size < 1 ∨ 4096 < size ∨ (d : Int) < 0 ∨ 32 < (d : Int)
  · rw [if_pos h, if_pos (e.2 h)]
  · rw [if_neg h, if_neg (fun h' => h (e.1 h'))]
/-- What is made of a file that is not refused. -/
theorem made {b : List UInt8} {size cut : Int} (h : makeE b.length size cut = 0) : ∃ (s d : Nat), size = s ∧ cut = d ∧ 1 ≤ s ∧ s ≤ 4096 ∧ d ≤ 32 ∧ makeS b size cut = ⟨s, d, b.length, blocks s d b (cnt b.length s)⟩ ∧ (cnt b.length s : Int) ≤ 4096 := by
  have hc := makeE_cases b.length size cut
  obtain ⟨a1, a2, a3, a4, a5⟩ : 1 ≤ size ∧ size ≤ 4096 ∧ 0 ≤ cut ∧ cut ≤ 32 ∧ countI b.length size ≤ 4096 := by
    rcases hc with h | h | h | h | h | h <;> omega
  obtain ⟨s, rfl⟩ := Int.eq_ofNat_of_zero_le (show 0 ≤ size by omega)
  obtain ⟨d, rfl⟩ := Int.eq_ofNat_of_zero_le a3
  refine ⟨s, d, rfl, rfl, by omega, by omega, by omega, ?_, ?_⟩
  · unfold makeS; rw [if_pos h, Int.toNat_natCast]
  · rw [countI_nat _ _ (by omega)] at a5; exact a5
/-- A byte of a block's strong sum is turned. -/
theorem bkC_set (k : IntKind) (b c : BK) (d : Nat) (hw : c.w = b.w) (hs : c.st = b.st.set d 0) : (bkC k b).setIfInBounds (1 + d) (.int .u8 0) = bkC k c := by
  apply Array.ext'
  rw [Array.toList_setIfInBounds]
  simp only [bkC, bkL, hw, hs]
  rw [show 1 + d = d + 1 by omega, List.set_cons_succ, List.map_set]
  rfl
end Go.Proofs.YtanbddaecojijaaDoor.SBlk
