/- A cut of bytes that are read. -/
import Derived.Test.YtanbddaecojijaaDoorPB
set_option linter.unusedVariables false
set_option linter.unusedSimpArgs false
namespace Go.Proofs.YtanbddaecojijaaDoor.PB
open Go.RowKit Go.Proofs.YtanbddaecojijaaDoorW.PrintWords Go.Proofs.YtanbddaecojijaaDoor.B
theorem rd_cut {w : World} {A : Option Addr} {c : Nat} {xs : List UInt8} (h : RdB w (.slice A xs.length c) xs) (lo n : Nat) (hl : lo + n ≤ xs.length) : RdB w (.slice (if c = lo then A else A.map (·.add lo)) (lo + n - lo) (c - lo)) ((xs.drop lo).take n) := by
  obtain ⟨A', c', he, h1, h2, h3⟩ := h
  injection he with e1 _ e3
  subst e1
  subst e3
  have hlen : ((xs.drop lo).take n).length = lo + n - lo := by simp; omega
  refine ⟨_, c - lo, by rw [hlen], by omega, by omega, fun hn => ?_⟩
  obtain ⟨ad, rfl, hc⟩ := h3 (by omega)
  rw [if_neg (by omega)]
  refine ⟨ad.add lo, rfl, fun i u hu => ?_⟩
  have hi : i < n := by
    have := (List.getElem?_eq_some_iff.1 hu).1
    rw [u8_cells] at this
    simp at this
    omega
  have := hc (lo + i) u (by
    rw [u8_cells] at hu ⊢
    rw [List.getElem?_map] at hu ⊢
    rw [List.getElem?_take, if_pos hi, List.getElem?_drop] at hu
    exact hu)
  rw [add_add]
  exact this

/-- v[lo : lo + k], as it runs and as it reads. -/
theorem cut_bytes (A : Option Addr) (n c lo k : Nat) (h : lo + k ≤ n) (hc : n ≤ c) : ∃ A2, (∀ W : World, (Instr.slice 22 (.slice A n c) (some (.int .i64 (lo : Int))) (some (.int .i64 ((lo : Int) + (k : Int)))) none).run Tryd.prog W = .ok (.slice A2 k (c - lo)) W) ∧
    ∀ (xs : List UInt8) (w : World), RdB w (.slice A n c) xs → RdB w (.slice A2 k (c - lo)) ((xs.drop lo).take k) := by
  obtain ⟨i, hi, hz⟩ := Option.map_eq_some_iff.1 infoU8
  simp only [Prod.mk.injEq] at hz
  have hr := cut_mid (P := Tryd.prog) 22 5 .i64 .i64 Tryd.underlying22 hi 1 hz.2.1 A n c (lo : Int) ((lo : Int) + (k : Int)) (by omega) (by omega) (by omega) hc
  refine ⟨if c = lo then A else A.map (·.add lo), fun W => ?_, fun xs w hx => ?_⟩
  · rw [hr W, show ((lo : Int) + (k : Int)).toNat = lo + k by omega, Int.toNat_natCast, Nat.add_sub_cancel_left, Nat.mul_one]
  · obtain ⟨A', c', he, _⟩ := id hx
    have hn : n = xs.length := by injection he
    subst hn
    have := rd_cut hx lo k h
    rw [Nat.add_sub_cancel_left] at this
    exact this
/-- v[lo:]. -/
theorem cut_tail (A : Option Addr) (n c lo : Nat) (h : lo ≤ n) (hc : n ≤ c) : ∃ A2, (∀ W : World, (Instr.slice 22 (.slice A n c) (some (.int .i64 (lo : Int))) none none).run Tryd.prog W = .ok (.slice A2 (n - lo) (c - lo)) W) ∧
    ∀ (xs : List UInt8) (w : World), RdB w (.slice A n c) xs → RdB w (.slice A2 (n - lo) (c - lo)) (xs.drop lo) := by
  obtain ⟨i, hi, hz⟩ := Option.map_eq_some_iff.1 infoU8
  simp only [Prod.mk.injEq] at hz
  have hr := cut_from (P := Tryd.prog) 22 5 .i64 Tryd.underlying22 hi 1 hz.2.1 A n c (lo : Int) (by omega) (by omega)
  refine ⟨if c = lo then A else A.map (·.add lo), fun W => ?_, fun xs w hx => ?_⟩
  · rw [hr W, Int.toNat_natCast, Nat.mul_one]
  · obtain ⟨A', c', he, _⟩ := id hx
    have hn : n = xs.length := by injection he
    subst hn
    have := rd_cut hx lo (xs.length - lo) (by omega)
    rw [show lo + (xs.length - lo) - lo = xs.length - lo by omega, List.take_of_length_le (by simp)] at this
    exact this
theorem rd_take {w : World} {A : Option Addr} {m c : Nat} {xs : List UInt8} (h : RdB w (.slice A m c) xs) (n : Nat) (hn : n ≤ xs.length) : RdB w (.slice A n c) (xs.take n) := by
  obtain ⟨A', c', he, h1, h2, h3⟩ := h
  injection he with e1 e2 e3
  subst e1 e3
  have hlen : (xs.take n).length = n := by simp; omega
  refine ⟨_, c, by rw [hlen], by omega, by omega, fun hp => ?_⟩
  obtain ⟨ad, rfl, hc⟩ := h3 (by omega)
  refine ⟨ad, rfl, fun i u hu => hc i u ?_⟩
  rw [u8_cells] at hu ⊢
  rw [List.getElem?_map] at hu ⊢
  rw [List.getElem?_take] at hu
  split at hu
  · exact hu
  · cases hu
end Go.Proofs.YtanbddaecojijaaDoor.PB
