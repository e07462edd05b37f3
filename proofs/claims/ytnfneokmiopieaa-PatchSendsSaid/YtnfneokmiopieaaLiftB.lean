/- An array of bytes that came in. What the laws of chapters 06 to 08 are handed: pairs of numbers, sums of blocks. -/
import Derived.Test.YtnfneokmiopieaaLift
import Derived.Test.YtnfneokmiopieaaArr
import Derived.Test.YtnfneokmiopieaaSums6
import Derived.Deep.Slices
import Derived.ChangeSame
set_option linter.unusedVariables false
set_option linter.unusedSimpArgs false
namespace Go.Proofs.Ytnfneokmiopieaa.Lift
open Go.ChangeShapes Go.WideShapes Go.ChangeAt Go.RowKit Go.Proofs.YtnfneokmiopieaaW.PrintWords Go.Proofs.Ytnfneokmiopieaa.B Go.Proofs.Ytnfneokmiopieaa.PB
section
variable {H : Type} {enc : TypeId × Value → H} {W : World} {base : Nat} {v : Value} {d : DataW H} {ps : List MemPlace}
theorem okWide_array {P : Program} {r : Reach} {t e : TypeId} {n : Nat} (ht : P.underlying t = some (.array n e)) (h : Value.okWide P W r base t v) : ∃ cs, v = .agg cs ∧ cs.size = P.cellsOf t := by
  simp only [Value.okWide, ht] at h
  obtain ⟨cs, h1, h2, _⟩ := h
  exact ⟨cs, h1, h2⟩
/-- Numbers as bytes. -/
theorem list_vu8 : ∀ (cs : List Value), (∀ c ∈ cs, ∃ z, c = .int .u8 z ∧ (Lit.int .u8 z).wf = true) → ∃ a : List UInt8, cs = a.map vu8
  | [], _ => ⟨[], rfl⟩
  | c :: cs, h => by
    obtain ⟨z, rfl, hz⟩ := h c List.mem_cons_self
    obtain ⟨a, rfl⟩ := list_vu8 cs (fun c hc => h c (List.mem_cons_of_mem _ hc))
    exact ⟨UInt8.ofNat z.toNat :: a, by rw [List.map_cons, byte_wf hz]⟩
set_option maxRecDepth 100000 in
theorem cells_arr {n : Nat} {t : TypeId} (ht : Try.prog.underlying t = some (.array n 5)) (hc : Try.prog.cellsOf t = n) {fuel : Nat} {cs : List Value} {x : DataW H × List MemPlace} (h : DataW.trod enc Try.prog W 0 (fun _ => true) true fuel t cs = some x) :
    ∃ a : List UInt8, cs = a.map vu8 ∧ a.length = n := by
  obtain ⟨xs, m, _, _, hl, hxl, hx⟩ := DataW.trod_array ht h
  have c1 : Try.prog.cellsOf 5 = 1 := by kernel_rfl
  rw [hc] at hl
  obtain ⟨a, ha⟩ := list_vu8 cs (fun c hcm => by
    obtain ⟨i, hi⟩ := List.getElem?_of_mem hcm
    have hil := (List.getElem?_eq_some_iff.1 hi).1
    have h1 := hx i (by omega)
    rw [c1, Nat.mul_one, List.getElem?_eq_getElem (by omega : i < xs.length)] at h1
    have : (cs.drop i).take 1 = [c] := by
      rw [List.take_one, List.head?_drop, hi]
      rfl
    rw [this] at h1
    obtain ⟨z, e0, _, hw⟩ := DataW.trod_int Try.underlying5 h1
    simp at e0
    exact ⟨z, e0, hw⟩)
  exact ⟨a, ha, by rw [← hl, ha, List.length_map]⟩
set_option maxRecDepth 100000 in
theorem open_arr {n : Nat} {t : TypeId} (ht : Try.prog.underlying t = some (.array n 5)) (hc : Try.prog.cellsOf t = n) (hv : Value.okWide Try.prog W .any base t v) (h : DataW.Trod enc Try.prog W 0 (fun _ => true) true t v d ps) :
    ∃ a : List UInt8, v = Arr.av a ∧ a.length = n := by
  obtain ⟨cs, rfl, hs⟩ := okWide_array ht hv
  obtain ⟨fuel, hf⟩ := h
  obtain ⟨a, ha, hl⟩ := cells_arr ht hc hf
  refine ⟨a, ?_, hl⟩
  unfold Arr.av
  rw [← ha]
  rfl
end
end Go.Proofs.Ytnfneokmiopieaa.Lift
namespace Go.Proofs.Ytnfneokmiopieaa.LB
open Go.ChangeShapes Go.WideShapes Go.ChangeAt Go.RowKit Go.Proofs.YtnfneokmiopieaaW.PrintWords Go.Proofs.Ytnfneokmiopieaa.B Go.Proofs.Ytnfneokmiopieaa.PB Go.Proofs.Ytnfneokmiopieaa.Bk Go.Proofs.Ytnfneokmiopieaa.Blk

theorem of_each {α : Type} {P : Nat → α → Prop} : ∀ n : Nat, (∀ i, i < n → ∃ x, P i x) → ∃ l : List α, l.length = n ∧ ∀ i x, l[i]? = some x → P i x
  | 0, _ => ⟨[], rfl, fun i x h => by simp at h⟩
  | n + 1, h => by
    obtain ⟨l, hl, hp⟩ := of_each n (fun i hi => h i (by omega))
    obtain ⟨x, hx⟩ := h n (by omega)
    refine ⟨l ++ [x], by simp [hl], fun i y hy => ?_⟩
    by_cases hi : i < l.length
    · rw [List.getElem?_append_left hi] at hy
      exact hp i y hy
    · rw [List.getElem?_append_right (by omega)] at hy
      have h0 : i - l.length = 0 := by
        have := (List.getElem?_eq_some_iff.1 hy).1
        simp at this
        omega
      rw [h0] at hy
      simp at hy
      subst hy
      have : i = n := by omega
      subst this
      exact hx
/-- Sums that came in. -/
structure SV where
  size : Int
  cut : Int
  len : Int
  sl : Value
  bs : List BK
def SV.cells (s : SV) : List Value := [.int .i64 s.size, .int .i64 s.cut, .int .i64 s.len, s.sl]
def SV.v (s : SV) : Value := .agg (sgC s.size s.cut s.len s.sl)
structure SV.ok (w : World) (s : SV) : Prop where
  rd : Rd (fBk .u32) w s.sl s.bs
  w1 : (Lit.int .i64 s.size).wf = true
  w2 : (Lit.int .i64 s.cut).wf = true
  w3 : (Lit.int .i64 s.len).wf = true
section
variable {H : Type} {enc : TypeId × Value → H} {W : World} {base : Nat} {v : Value} {d : DataW H} {ps : List MemPlace}
set_option maxRecDepth 100000 in
theorem open_int3 (hv : Value.okWide Try.prog W .any base 23 v) (h : DataW.Trod enc Try.prog W 0 (fun _ => true) true 23 v d ps) :
    ∃ a b c : Int, v = .agg #[.int .i64 a, .int .i64 b, .int .i64 c] ∧ (Lit.int .i64 a).wf = true ∧ (Lit.int .i64 b).wf = true ∧ (Lit.int .i64 c).wf = true := by
  obtain ⟨cs, rfl, hsz⟩ := Lift.okWide_array Try.underlying23 hv
  have h2 : Try.prog.cellsOf 23 = 3 := by kernel_rfl
  have i1 : Try.prog.cellsOf 3 = 1 := by kernel_rfl
  obtain ⟨fuel, hf⟩ := h
  obtain ⟨xs, m, _, _, hl, hxl, hx⟩ := DataW.trod_array Try.underlying23 hf
  have hx0 := hx 0 (by decide)
  have hx1 := hx 1 (by decide)
  have hx2 := hx 2 (by decide)
  obtain ⟨l⟩ := cs
  have hll : l.length = 3 := by simpa [h2] using hsz
  match l, hll, xs, hxl with
  | [c0, c1, c2], _, [x0, x1, x2], _ =>
    simp only [i1] at hx0 hx1 hx2
    obtain ⟨z0, e0, _, w0⟩ := DataW.trod_int Try.underlying3 hx0
    obtain ⟨z1, e1, _, w1⟩ := DataW.trod_int Try.underlying3 hx1
    obtain ⟨z2, e2, _, w2⟩ := DataW.trod_int Try.underlying3 hx2
    simp [Value.cells] at e0 e1 e2
    subst e0 e1 e2
    exact ⟨z0, z1, z2, rfl, w0, w1, w2⟩
set_option maxRecDepth 100000 in
theorem cells_block {n : Nat} {cs : List Value} {y : DataW H × List MemPlace} (h : DataW.trod enc Try.prog W 0 (fun _ => true) true n 65 cs = some y) : ∃ b : BK, cs = bkL .u32 b := by
  have h2 : Try.prog.cellsOf 65 = 33 := by kernel_rfl
  have i1 : Try.prog.cellsOf 63 = 1 := by kernel_rfl
  have i2 : Try.prog.cellsOf 41 = 32 := by kernel_rfl
  obtain ⟨xs, m, _, _, hl, hxl, hx⟩ := DataW.trod_struct Try.underlying65 h
  have hx0 : DataW.trod enc Try.prog W 0 (fun _ => true) true m 63 ((cs.drop 0).take (Try.prog.cellsOf 63)) = xs[0]? := hx 0 _ rfl
  have hx1 : DataW.trod enc Try.prog W 0 (fun _ => true) true m 41 ((cs.drop 1).take (Try.prog.cellsOf 41)) = xs[1]? := hx 1 _ rfl
  rw [h2] at hl
  simp only [i1, i2] at hx0 hx1
  match xs, hxl with
  | [x0, x1], _ =>
    obtain ⟨z0, e0, _, w0⟩ := DataW.trod_int Try.underlying63 hx0
    obtain ⟨a, e1, ha⟩ := Lift.cells_arr Try.underlying41 i2 hx1
    match cs, hl with
    | c0 :: cs, hl =>
      simp at e0
      subst e0
      rw [List.length_cons] at hl
      rw [List.drop_succ_cons, List.drop_zero, List.take_of_length_le (by omega)] at e1
      subst e1
      simp [Lit.wf, IntKind.min, IntKind.max, IntKind.signed, IntKind.bits] at w0
      refine ⟨⟨z0.toNat, a, ha, by omega⟩, ?_⟩
      unfold bkL
      rw [Int.toNat_of_nonneg (by omega)]
set_option maxRecDepth 100000 in
theorem rows_block {n : Nat} {a : Option Addr} {len cap : Nat} {y : DataW H × List MemPlace} (hf : DataW.trod enc Try.prog W 0 (fun _ => true) true n 28 [.slice a len cap] = some y) :
    ∃ bs : List BK, Rd (fBk .u32) W (.slice a len cap) bs := by
  have h3 : Try.prog.cellsOf 65 = 33 := by kernel_rfl
  rcases Deep.open_slice Try.underlying28 hf with ⟨hcs, _⟩ | ⟨x, l, c, m, n, D, Pl, hcs, _, hl, hm, hmc, hx, hcell⟩
  · simp at hcs
    obtain ⟨rfl, rfl, rfl⟩ := hcs
    exact ⟨[], Rd.nil _ _⟩
  · simp at hcs
    obtain ⟨rfl, rfl, rfl⟩ := hcs
    rw [h3] at hcell
    obtain ⟨es, hlen, hes⟩ := of_each (P := fun i (e : BK) => W.cells? 0 (x.add (i * 33)) 33 = some (bkL .u32 e)) len (fun i hi => by
      obtain ⟨cs, h1, h2⟩ := hcell i (by rw [hmc]; simp; omega)
      obtain ⟨e, rfl⟩ := cells_block h2
      exact ⟨e, h1⟩)
    refine ⟨es, ⟨some x, cap, by rw [hlen], by omega, hm, fun hn => ⟨x, rfl, fun i u hu => ?_⟩⟩⟩
    have hil : i < es.length * 33 := by
      have := (List.getElem?_eq_some_iff.1 hu).1
      rw [(fBk .u32).cells_length] at this
      exact this
    obtain ⟨e, he⟩ : ∃ e, es[i / 33]? = some e := ⟨es[i / 33]'(by omega), List.getElem?_eq_getElem _⟩
    have h1 := (fBk .u32).cells_get es (i / 33) e he (i % 33) (Nat.mod_lt _ (by decide))
    rw [show i / 33 * (fBk .u32).sz + i % 33 = i by show i / 33 * 33 + i % 33 = i; omega, hu] at h1
    have h2 := (World.cells?_some (hes _ _ he)).2.2 (i % 33) (Nat.mod_lt _ (by decide))
    rw [add_add, show i / 33 * 33 + i % 33 = i by omega] at h2
    exact h2.trans h1.symm
set_option maxRecDepth 100000 in
theorem cells_sig {n : Nat} {cs : List Value} {y : DataW H × List MemPlace} (h : DataW.trod enc Try.prog W 0 (fun _ => true) true n 30 cs = some y) : ∃ s : SV, cs = s.cells ∧ s.ok W := by
  have h6 : Try.prog.cellsOf 30 = 4 := by kernel_rfl
  have i2 : Try.prog.cellsOf 3 = 1 := by kernel_rfl
  have i4 : Try.prog.cellsOf 28 = 1 := by kernel_rfl
  obtain ⟨xs, m, _, _, hl, hxl, hx⟩ := DataW.trod_struct Try.underlying30 h
  have hx0 : DataW.trod enc Try.prog W 0 (fun _ => true) true m 3 ((cs.drop 0).take (Try.prog.cellsOf 3)) = xs[0]? := hx 0 _ rfl
  have hx1 : DataW.trod enc Try.prog W 0 (fun _ => true) true m 3 ((cs.drop 1).take (Try.prog.cellsOf 3)) = xs[1]? := hx 1 _ rfl
  have hx2 : DataW.trod enc Try.prog W 0 (fun _ => true) true m 3 ((cs.drop 2).take (Try.prog.cellsOf 3)) = xs[2]? := hx 2 _ rfl
  have hx3 : DataW.trod enc Try.prog W 0 (fun _ => true) true m 28 ((cs.drop 3).take (Try.prog.cellsOf 28)) = xs[3]? := hx 3 _ rfl
  rw [h6] at hl
  obtain ⟨c0, c1, c2, c3, rfl⟩ : ∃ c0 c1 c2 c3, cs = [c0, c1, c2, c3] := by
    match cs, hl with
    | [a, b, c, d], _ => exact ⟨a, b, c, d, rfl⟩
  simp only [i2, i4] at hx0 hx1 hx2 hx3
  match xs, hxl with
  | [x0, x1, x2, x3], _ =>
    obtain ⟨z0, e0, _, w0⟩ := DataW.trod_int Try.underlying3 hx0
    obtain ⟨z1, e1, _, w1⟩ := DataW.trod_int Try.underlying3 hx1
    obtain ⟨z2, e2, _, w2⟩ := DataW.trod_int Try.underlying3 hx2
    obtain ⟨A, l, c, e3⟩ := Joins.slice_form Try.underlying28 hx3
    rw [e3] at hx3
    obtain ⟨bs, hbs⟩ := rows_block hx3
    simp at e0 e1 e2 e3
    subst e0 e1 e2 e3
    exact ⟨⟨z0, z1, z2, .slice A l c, bs⟩, rfl, hbs, w0, w1, w2⟩
set_option maxRecDepth 100000 in
theorem open_sig (hv : Value.okWide Try.prog W .any base 30 v) (h : DataW.Trod enc Try.prog W 0 (fun _ => true) true 30 v d ps) : ∃ s : SV, v = s.v ∧ s.ok W := by
  obtain ⟨cs, rfl, _⟩ := okWide_struct Try.underlying30 hv
  obtain ⟨fuel, hf⟩ := h
  obtain ⟨m, hm, h1⟩ := cells_sig hf
  refine ⟨m, ?_, h1⟩
  have e : cs.toList = m.cells := hm
  unfold SV.v sgC
  congr 1
  apply Array.ext'
  rw [e]
  rfl
end
end Go.Proofs.Ytnfneokmiopieaa.LB
