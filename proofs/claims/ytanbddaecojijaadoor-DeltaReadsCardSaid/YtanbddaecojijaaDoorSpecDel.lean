/- What delta.Make answers: plain. No program. -/
import Derived.Test.YtanbddaecojijaaDoorSpecTell
import Derived.Test.YtanbddaecojijaaDoorSpecChk
import Derived.Test.YtanbddaecojijaaDoorTab
set_option linter.unusedVariables false
namespace Go.Proofs.YtanbddaecojijaaDoor.STell
open Go.Proofs.YtanbddaecojijaaDoor.SBlk Go.Proofs.YtanbddaecojijaaDoor.Bk Go.Proofs.YtanbddaecojijaaDoor.Blk

/-- The first block that bytes are. -/
def fB (s L : Nat) (cut : Int) (bs : List BK) (b : List UInt8) : Option Nat := findL (hit s L (sums cut b) b.length) 0 bs
theorem fB_lt {s L : Nat} {cut : Int} {bs : List BK} {b : List UInt8} {i : Nat} (h : fB s L cut bs b = some i) : i < bs.length := by
  have := findL_lt _ bs 0 i h
  omega
/-- What is told. -/
def tellR (size cut len : Int) (bs : List BK) (d : List UInt8) : List Tok := if chkE size cut len bs = 0 then tell size.toNat (fB size.toNat len.toNat cut bs) d [] else []
theorem chk_ok {size cut len : Int} {bs : List BK} (h : chkE size cut len bs = 0) : ∃ (s c L : Nat), size = s ∧ cut = c ∧ len = L ∧ 1 ≤ s ∧ s ≤ 4096 ∧ c ≤ 32 ∧ bs.length = cnt L s ∧ bs.length ≤ 4096 ∧ ∀ i, i < bs.length → i * s < L := by
  have hc := chk_cases size cut len bs
  obtain ⟨a1, a2, a3, a4, a5, a6, a7⟩ : 1 ≤ size ∧ size ≤ 4096 ∧ 0 ≤ cut ∧ cut ≤ 32 ∧ 0 ≤ len ∧ countI len size ≤ 4096 ∧ (bs.length : Int) = countI len size := by
    rcases hc with h | h | h | h | h | h | h | h <;> omega
  obtain ⟨s, rfl⟩ := Int.eq_ofNat_of_zero_le (show 0 ≤ size by omega)
  obtain ⟨c, rfl⟩ := Int.eq_ofNat_of_zero_le a3
  obtain ⟨L, rfl⟩ := Int.eq_ofNat_of_zero_le a5
  rw [countI_nat _ _ (by omega)] at a6 a7
  have e : bs.length = cnt L s := by omega
  exact ⟨s, c, L, rfl, rfl, rfl, by omega, by omega, by omega, e, by omega, fun i hi => (cnt_spec L s (by omega) i).1 (by omega)⟩
/-- What is put behind others, and of how many bytes. -/
theorem small_of {n k : Nat} {t : Tok} (h : okT n t) (hn : n ≤ 1000000) (hk : t.2.2.length ≤ k) (hk2 : k ≤ 100000000) : 0 ≤ t.1 ∧ t.1 ≤ 4611686018427387904 ∧ 0 ≤ t.2.1 ∧ t.2.1 ≤ 1000000 ∧ t.2.2.length ≤ 100000000 := by
  obtain ⟨h1, h2, h3, h4⟩ := h
  rcases Nat.eq_zero_or_pos t.2.1.toNat with h5 | h5
  · have := h4 (by omega)
    omega
  · have := h3 (by omega)
    omega
end Go.Proofs.YtanbddaecojijaaDoor.STell
