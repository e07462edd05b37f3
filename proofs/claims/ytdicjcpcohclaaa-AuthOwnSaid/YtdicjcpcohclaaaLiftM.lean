/- What the laws of auth are handed: a module, an answer, pairs. -/
import Derived.Test.YtdicjcpcohclaaaLiftA
import Derived.Test.YtdicjcpcohclaaaConf
import Derived.Deep.Slices
import Derived.ChangeSame
set_option linter.unusedVariables false
set_option linter.unusedSimpArgs false
namespace Go.Proofs.Ytdicjcpcohclaaa.Auth
open Go.ChangeShapes Go.WideShapes Go.ChangeAt Go.RowKit Go.Proofs.YtdicjcpcohclaaaW.PrintWords Go.Proofs.Ytdicjcpcohclaaa.B Go.Proofs.Ytdicjcpcohclaaa.PB

def US.fits (u : US) : Prop := u.nm.length ≤ maxLen ∧ u.sc.length ≤ maxLen
def MD.fits (m : MD) : Prop := m.nm.length ≤ maxLen ∧ ∀ u ∈ m.us, u.fits
theorem of_each {α : Type} {P : Nat → α → Prop} : ∀ n : Nat, (∀ i, i < n → ∃ x, P i x) → ∃ l : List α, l.length = n ∧ ∀ i x, l[i]? = some x → P i x
  | 0, _ => ⟨[], rfl, fun i x h => by simp at h⟩
  | n + 1, h => by
    obtain ⟨l, hl, hp⟩ := of_each n (fun i hi => h i (by omega))
    obtain ⟨x, hx⟩ := h n (by omega)
    refine ⟨l ++ [x], by simp [hl], fun i y hy => ?_⟩
    by_cases hi : i < l.length
    · rw [List.getElem?_append_left hi] at hy
      exact hp i y hy
    · rw [List.getElem?_append_right (by omega)] at hy
      have h0 : i - l.length = 0 := by
        have := (List.getElem?_eq_some_iff.1 hy).1
        simp at this
        omega
      rw [h0] at hy
      simp at hy
      subst hy
      have : i = n := by omega
      subst this
      exact hx
section
variable {H : Type} {enc : TypeId × Value → H} {W : World} {base : Nat} {v : Value} {d : DataW H} {ps : List MemPlace}
theorem cells_str {n : Nat} {cs : List Value} {y : DataW H × List MemPlace} (h : DataW.trod enc Try.prog W 0 (fun _ => true) true n 9 cs = some y) : ∃ s : List UInt8, cs = [.string (bstr s)] ∧ s.length ≤ maxLen := by
  obtain ⟨s, rfl, _, hs⟩ := DataW.trod_string Try.underlying9 h
  exact ⟨s.data.toList, by rw [← bstr_eta], hs⟩
set_option maxRecDepth 100000 in
theorem cells_user {n : Nat} {cs : List Value} {y : DataW H × List MemPlace} (h : DataW.trod enc Try.prog W 0 (fun _ => true) true n 80 cs = some y) : ∃ u : US, cs = fU.enc u ∧ u.fits := by
  have h2 : Try.prog.cellsOf 80 = 2 := by kernel_rfl
  have i1 : Try.prog.cellsOf 9 = 1 := by kernel_rfl
  obtain ⟨xs, m, _, _, hl, hxl, hx⟩ := DataW.trod_struct Try.underlying80 h
  have hx0 : DataW.trod enc Try.prog W 0 (fun _ => true) true m 9 ((cs.drop 0).take (Try.prog.cellsOf 9)) = xs[0]? := hx 0 _ rfl
  have hx1 : DataW.trod enc Try.prog W 0 (fun _ => true) true m 9 ((cs.drop 1).take (Try.prog.cellsOf 9)) = xs[1]? := hx 1 _ rfl
  rw [h2] at hl
  obtain ⟨c0, c1, rfl⟩ : ∃ c0 c1, cs = [c0, c1] := by
    match cs, hl with
    | [a, b], _ => exact ⟨a, b, rfl⟩
  simp only [i1] at hx0 hx1
  match xs, hxl with
  | [x0, x1], _ =>
    obtain ⟨s0, e0, l0⟩ := cells_str hx0
    obtain ⟨s1, e1, l1⟩ := cells_str hx1
    simp at e0 e1
    subst e0 e1
    exact ⟨⟨s0, s1⟩, rfl, l0, l1⟩
set_option maxRecDepth 100000 in
theorem users {n : Nat} {a : Option Addr} {len cap : Nat} {y : DataW H × List MemPlace} (hf : DataW.trod enc Try.prog W 0 (fun _ => true) true n 73 [.slice a len cap] = some y) :
    ∃ us : List US, Rd fU W (.slice a len cap) us ∧ us.length = len ∧ ∀ u ∈ us, u.fits := by
  have h3 : Try.prog.cellsOf 80 = 2 := by kernel_rfl
  rcases Deep.open_slice Try.underlying73 hf with ⟨hcs, _⟩ | ⟨x, l, c, m, n, D, Pl, hcs, _, hl, hm, hmc, hx, hcell⟩
  · simp at hcs
    obtain ⟨rfl, rfl, rfl⟩ := hcs
    exact ⟨[], Rd.nil _ _, rfl, fun e he => by cases he⟩
  · simp at hcs
    obtain ⟨rfl, rfl, rfl⟩ := hcs
    rw [h3] at hcell
    obtain ⟨es, hlen, hes⟩ := of_each (P := fun i (e : US) => W.cells? 0 (x.add (i * 2)) 2 = some (fU.enc e) ∧ e.fits) len (fun i hi => by
      obtain ⟨cs, h1, h2⟩ := hcell i (by rw [hmc]; simp; omega)
      obtain ⟨e, rfl, he⟩ := cells_user h2
      exact ⟨e, h1, he⟩)
    refine ⟨es, ⟨some x, cap, by rw [hlen], by omega, hm, fun hn => ⟨x, rfl, fun i u hu => ?_⟩⟩, hlen, fun e he => ?_⟩
    · have hil : i < es.length * 2 := by
        have := (List.getElem?_eq_some_iff.1 hu).1
        rw [fU.cells_length] at this
        exact this
      obtain ⟨e, he⟩ : ∃ e, es[i / 2]? = some e := ⟨es[i / 2]'(by omega), List.getElem?_eq_getElem _⟩
      have h1 := fU.cells_get es (i / 2) e he (i % 2) (Nat.mod_lt _ (by decide))
      rw [show i / 2 * fU.sz + i % 2 = i by show i / 2 * 2 + i % 2 = i; omega, hu] at h1
      have h2 := (World.cells?_some (hes _ _ he).1).2.2 (i % 2) (Nat.mod_lt _ (by decide))
      rw [add_add, show i / 2 * 2 + i % 2 = i by omega, ← h1] at h2
      exact h2
    · obtain ⟨i, hi⟩ := List.getElem?_of_mem he
      exact (hes i e hi).2
set_option maxRecDepth 100000 in
theorem cells_module {n : Nat} {cs : List Value} {y : DataW H × List MemPlace} (h : DataW.trod enc Try.prog W 0 (fun _ => true) true n 75 cs = some y) : ∃ m : MD, cs = m.cells ∧ m.ok W ∧ m.fits := by
  have h6 : Try.prog.cellsOf 75 = 6 := by kernel_rfl
  have i1 : Try.prog.cellsOf 9 = 1 := by kernel_rfl
  have i2 : Try.prog.cellsOf 3 = 1 := by kernel_rfl
  have i3 : Try.prog.cellsOf 4 = 1 := by kernel_rfl
  have i4 : Try.prog.cellsOf 73 = 1 := by kernel_rfl
  obtain ⟨xs, m, _, _, hl, hxl, hx⟩ := DataW.trod_struct Try.underlying75 h
  have hx0 : DataW.trod enc Try.prog W 0 (fun _ => true) true m 9 ((cs.drop 0).take (Try.prog.cellsOf 9)) = xs[0]? := hx 0 _ rfl
  have hx1 : DataW.trod enc Try.prog W 0 (fun _ => true) true m 9 ((cs.drop 1).take (Try.prog.cellsOf 9)) = xs[1]? := hx 1 _ rfl
  have hx2 : DataW.trod enc Try.prog W 0 (fun _ => true) true m 4 ((cs.drop 2).take (Try.prog.cellsOf 4)) = xs[2]? := hx 2 _ rfl
  have hx3 : DataW.trod enc Try.prog W 0 (fun _ => true) true m 3 ((cs.drop 3).take (Try.prog.cellsOf 3)) = xs[3]? := hx 3 _ rfl
  have hx4 : DataW.trod enc Try.prog W 0 (fun _ => true) true m 3 ((cs.drop 4).take (Try.prog.cellsOf 3)) = xs[4]? := hx 4 _ rfl
  have hx5 : DataW.trod enc Try.prog W 0 (fun _ => true) true m 73 ((cs.drop 5).take (Try.prog.cellsOf 73)) = xs[5]? := hx 5 _ rfl
  rw [h6] at hl
  obtain ⟨c0, c1, c2, c3, c4, c5, rfl⟩ : ∃ c0 c1 c2 c3 c4 c5, cs = [c0, c1, c2, c3, c4, c5] := by
    match cs, hl with
    | [a, b, c, d, e, f], _ => exact ⟨a, b, c, d, e, f, rfl⟩
  simp only [i1, i2, i3, i4] at hx0 hx1 hx2 hx3 hx4 hx5
  match xs, hxl with
  | [x0, x1, x2, x3, x4, x5], _ =>
    obtain ⟨s0, e0, l0⟩ := cells_str hx0
    obtain ⟨s1, e1, l1⟩ := cells_str hx1
    obtain ⟨b2, e2, _⟩ := DataW.trod_bool Try.underlying4 hx2
    obtain ⟨z3, e3, _, _⟩ := DataW.trod_int Try.underlying3 hx3
    obtain ⟨z4, e4, _, _⟩ := DataW.trod_int Try.underlying3 hx4
    obtain ⟨A, l, c, e5⟩ := Joins.slice_form Try.underlying73 hx5
    rw [e5] at hx5
    obtain ⟨us, hus, hul, huf⟩ := users hx5
    simp at e0 e1 e2 e3 e4 e5
    subst e0 e1 e2 e3 e4 e5 hul
    exact ⟨⟨s0, s1, b2, z3, z4, A, c, us⟩, rfl, hus, l0, huf⟩
set_option maxRecDepth 100000 in
theorem open_module (hv : Value.okWide Try.prog W .any base 75 v) (h : DataW.Trod enc Try.prog W 0 (fun _ => true) true 75 v d ps) : ∃ m : MD, v = m.v ∧ m.ok W ∧ m.fits := by
  obtain ⟨cs, rfl, _⟩ := okWide_struct Try.underlying75 hv
  obtain ⟨fuel, hf⟩ := h
  obtain ⟨m, hm, h1⟩ := cells_module hf
  exact ⟨m, by rw [MD.v, ← hm]; rfl, h1⟩
set_option maxRecDepth 100000 in
theorem open_try (hv : Value.okWide Try.prog W .any base 77 v) (h : DataW.Trod enc Try.prog W 0 (fun _ => true) true 77 v d ps) :
    ∃ n a : List UInt8, v = Arr.av (n ++ a) ∧ n.length = 16 ∧ a.length = 32 := by
  obtain ⟨cs, rfl, hsz⟩ := okWide_struct Try.underlying77 hv
  have h48 : Try.prog.cellsOf 77 = 48 := by kernel_rfl
  have i1 : Try.prog.cellsOf 69 = 16 := by kernel_rfl
  have i2 : Try.prog.cellsOf 34 = 32 := by kernel_rfl
  obtain ⟨fuel, hf⟩ := h
  obtain ⟨xs, m, _, _, hl, hxl, hx⟩ := DataW.trod_struct Try.underlying77 hf
  have hx0 : DataW.trod enc Try.prog W 0 (fun _ => true) true m 69 ((cs.toList.drop 0).take (Try.prog.cellsOf 69)) = xs[0]? := hx 0 _ rfl
  have hx1 : DataW.trod enc Try.prog W 0 (fun _ => true) true m 34 ((cs.toList.drop 16).take (Try.prog.cellsOf 34)) = xs[1]? := hx 1 _ rfl
  simp only [i1, i2] at hx0 hx1
  match xs, hxl with
  | [x0, x1], _ =>
    obtain ⟨n, hn, hnl⟩ := Lift.cells_arr Try.underlying69 i1 hx0
    obtain ⟨a, ha, hal⟩ := Lift.cells_arr Try.underlying34 i2 hx1
    refine ⟨n, a, ?_, hnl, hal⟩
    have hcs : cs.toList = n.map vu8 ++ a.map vu8 := by
      rw [← hn, ← ha]
      have hlen : cs.toList.length = 48 := by simpa [h48] using hsz
      have e1 : (cs.toList.drop 16).take 32 = cs.toList.drop 16 := List.take_of_length_le (by simp at hlen ⊢; omega)
      have e0 : cs.toList.drop 0 = cs.toList := rfl
      show cs.toList = List.take 16 (List.drop 0 cs.toList) ++ List.take 32 (List.drop 16 cs.toList)
      rw [e1, e0, List.take_append_drop]
    unfold Arr.av
    rw [List.map_append, ← hcs]
set_option maxRecDepth 100000 in
theorem open_str2 (hv : Value.okWide Try.prog W .any base 88 v) (h : DataW.Trod enc Try.prog W 0 (fun _ => true) true 88 v d ps) :
    ∃ s0 s1 : List UInt8, v = .agg #[.string (bstr s0), .string (bstr s1)] ∧ s0.length ≤ maxLen ∧ s1.length ≤ maxLen := by
  obtain ⟨cs, rfl, hsz⟩ := Lift.okWide_array Try.underlying88 hv
  have h2 : Try.prog.cellsOf 88 = 2 := by kernel_rfl
  have i1 : Try.prog.cellsOf 9 = 1 := by kernel_rfl
  obtain ⟨fuel, hf⟩ := h
  obtain ⟨xs, m, _, _, hl, hxl, hx⟩ := DataW.trod_array Try.underlying88 hf
  have hx0 := hx 0 (by decide)
  have hx1 := hx 1 (by decide)
  obtain ⟨l⟩ := cs
  have hll : l.length = 2 := by simpa [h2] using hsz
  match l, hll, xs, hxl with
  | [c0, c1], _, [x0, x1], _ =>
    simp only [i1] at hx0 hx1
    obtain ⟨s0, e0, l0⟩ := cells_str hx0
    obtain ⟨s1, e1, l1⟩ := cells_str hx1
    simp [Value.cells] at e0 e1
    subst e0 e1
    exact ⟨s0, s1, rfl, l0, l1⟩
set_option maxRecDepth 100000 in
theorem open_nonce2 (hv : Value.okWide Try.prog W .any base 89 v) (h : DataW.Trod enc Try.prog W 0 (fun _ => true) true 89 v d ps) :
    ∃ n a : List UInt8, v = Arr.av (n ++ a) ∧ n.length = 16 ∧ a.length = 16 := by
  obtain ⟨cs, rfl, hsz⟩ := Lift.okWide_array Try.underlying89 hv
  have h32 : Try.prog.cellsOf 89 = 32 := by kernel_rfl
  have i1 : Try.prog.cellsOf 69 = 16 := by kernel_rfl
  obtain ⟨fuel, hf⟩ := h
  obtain ⟨xs, m, _, _, hl, hxl, hx⟩ := DataW.trod_array Try.underlying89 hf
  have hx0 := hx 0 (by decide)
  have hx1 := hx 1 (by decide)
  simp only [i1] at hx0 hx1
  match xs, hxl with
  | [x0, x1], _ =>
    obtain ⟨n, hn, hnl⟩ := Lift.cells_arr Try.underlying69 i1 hx0
    obtain ⟨a, ha, hal⟩ := Lift.cells_arr Try.underlying69 i1 hx1
    refine ⟨n, a, ?_, hnl, hal⟩
    have hcs : cs.toList = n.map vu8 ++ a.map vu8 := by
      rw [← hn, ← ha]
      have hlen : cs.toList.length = 32 := by simpa [h32] using hsz
      have e1 : (cs.toList.drop 16).take 16 = cs.toList.drop 16 := List.take_of_length_le (by simp at hlen ⊢; omega)
      have e0 : cs.toList.drop 0 = cs.toList := rfl
      show cs.toList = List.take 16 (List.drop 0 cs.toList) ++ List.take 16 (List.drop 16 cs.toList)
      rw [e1, e0, List.take_append_drop]
    unfold Arr.av
    rw [List.map_append, ← hcs]
end
end Go.Proofs.Ytdicjcpcohclaaa.Auth
