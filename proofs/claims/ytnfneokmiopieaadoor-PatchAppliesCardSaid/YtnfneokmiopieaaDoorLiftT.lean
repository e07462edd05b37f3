/- A list of tokens that came in. -/
import Derived.Test.YtnfneokmiopieaaDoorLift
import Derived.Test.YtnfneokmiopieaaDoorTk
import Derived.Deep.Slices
import Derived.Deep.Strs
set_option linter.unusedVariables false
set_option linter.unusedSimpArgs false
namespace Go.Proofs.YtnfneokmiopieaaDoor.Tk
open Go.ChangeShapes Go.WideShapes Go.ChangeAt Go.RowKit Go.Proofs.YtnfneokmiopieaaDoorW.PrintWords Go.Proofs.YtnfneokmiopieaaDoor.B Go.Proofs.YtnfneokmiopieaaDoor.PB

/-- What is known of each. -/
def TV.ok (w : World) (e : TV) : Prop := RdB w e.dv e.xs ∧ e.xs.length ≤ reach
theorem all_of_each {α : Type} {P : Nat → α → Prop} : ∀ n : Nat, (∀ i, i < n → ∃ x, P i x) → ∃ l : List α, l.length = n ∧ ∀ i x, l[i]? = some x → P i x
  | 0, _ => ⟨[], rfl, fun i x h => by simp at h⟩
  | n + 1, h => by
    obtain ⟨l, hl, hp⟩ := all_of_each n (fun i hi => h i (by omega))
    obtain ⟨x, hx⟩ := h n (by omega)
    refine ⟨l ++ [x], by simp [hl], fun i y hy => ?_⟩
    by_cases hi : i < l.length
    · rw [List.getElem?_append_left hi] at hy
      exact hp i y hy
    · rw [List.getElem?_append_right (by omega)] at hy
      have h0 : i - l.length = 0 := by
        have := (List.getElem?_eq_some_iff.1 hy).1
        simp at this
        omega
      rw [h0] at hy
      simp at hy
      subst hy
      have : i = n := by omega
      subst this
      exact hx

theorem weightsAll_mem {H : Type} {P : Program} {e : TypeId} : ∀ {l : List (DataW H)} {d : DataW H}, d ∈ l → ∀ n ∈ d.weights P e, n ∈ DataW.weightsAll P e l
  | x :: l, d, h, n, hn => by
    rw [DataW.weightsAll]
    rcases List.mem_cons.1 h with rfl | h
    · exact List.mem_append_left _ hn
    · exact List.mem_append_right _ (weightsAll_mem h n hn)
section
variable {H : Type} {enc : TypeId × Value → H} {W : World} {base : Nat} {v : Value} {d : DataW H} {ps : List MemPlace}
set_option maxRecDepth 100000 in
theorem open_cells {n : Nat} {cs : List Value} {y : DataW H × List MemPlace} (h : DataW.trod enc Tryd.prog W 0 (fun _ => true) true n 52 cs = some y) (hw : ∀ m ∈ y.1.weights Tryd.prog 52, m ≤ reach) :
    ∃ e : TV, cs = fT.enc e ∧ e.ok W := by
  obtain ⟨y0, y1, y2, m, rfl, hl, h0, h1, h2⟩ := Deep.trod_struct3 Tryd.underlying52 h
  have h3 : Tryd.prog.cellsOf 52 = 3 := by kernel_rfl
  have i1 : Tryd.prog.cellsOf 3 = 1 := by kernel_rfl
  have i2 : Tryd.prog.cellsOf 22 = 1 := by kernel_rfl
  rw [h3] at hl
  obtain ⟨c0, c1, c2, rfl⟩ : ∃ c0 c1 c2, cs = [c0, c1, c2] := by
    match cs, hl with
    | [a, b, c], _ => exact ⟨a, b, c, rfl⟩
  simp only [i1, i2] at h0 h1 h2
  obtain ⟨a, e0, rfl, wa⟩ := DataW.trod_int Tryd.underlying3 h0
  obtain ⟨b, e1, rfl, wb⟩ := DataW.trod_int Tryd.underlying3 h1
  simp at e0 e1
  subst e0 e1
  obtain ⟨A, l, c, e2⟩ := Joins.slice_form Tryd.underlying22 h2
  simp at e2
  subst e2
  obtain ⟨xs, hx, hxl⟩ := Lift.open_bytes0 (v := .slice A l c) (d := y2.1) (ps := y2.2) ⟨_, _, _, rfl⟩ ⟨m, by simpa [Value.cells] using h2⟩ (fun n hn => hw n (by simp [DataW.weights, DataW.weightsEach, Tryd.underlying52, hn]))
  obtain ⟨A', c', he, _⟩ := id hx
  injection he with q1 q2 q3
  subst q1 q2 q3
  exact ⟨⟨a, b, A, c, xs⟩, rfl, hx, hxl⟩
set_option maxRecDepth 100000 in
theorem open_toks0 (hv : ∃ a len cap, v = .slice a len cap) (h : DataW.Trod enc Tryd.prog W 0 (fun _ => true) true 23 v d ps) (hw : ∀ n ∈ d.weights Tryd.prog 23, n ≤ reach) :
    ∃ es : List TV, Rd fT W v es ∧ (∀ e ∈ es, e.ok W) ∧ es.length * 40 ≤ reach := by
  obtain ⟨a, len, cap, rfl⟩ := hv
  obtain ⟨fuel, hf⟩ := h
  have h3 : Tryd.prog.cellsOf 52 = 3 := by kernel_rfl
  rcases Deep.open_slice Tryd.underlying23 hf with ⟨hcs, _⟩ | ⟨x, l, c, m, n, D, Pl, hcs, _, hl, hm, hmc, hx, hcell⟩
  · simp [Value.cells] at hcs
    obtain ⟨rfl, rfl, rfl⟩ := hcs
    exact ⟨[], Rd.nil _ _, (fun e he => by cases he), Nat.zero_le _⟩
  · simp [Value.cells] at hcs
    obtain ⟨rfl, rfl, rfl⟩ := hcs
    rw [h3] at hcell
    obtain ⟨es, hlen, hes⟩ := all_of_each (P := fun i (e : TV) => W.cells? 0 (x.add (i * 3)) 3 = some (fT.enc e) ∧ e.ok W) len (fun i hi => by
      obtain ⟨cs, h1, h2⟩ := hcell i (by rw [hmc]; simp; omega)
      obtain ⟨e, rfl, he⟩ := open_cells h2 (fun q hq => hw q (by
        obtain ⟨hx1, _⟩ := Prod.mk.inj hx
        subst hx1
        rw [DataW.weights, Tryd.underlying23]
        exact List.mem_cons_of_mem _ (List.mem_append_left _ (weightsAll_mem (List.mem_map_of_mem (List.mem_range.2 hi)) q hq))))
      exact ⟨e, h1, he⟩)
    refine ⟨es, ⟨some x, cap, by rw [hlen], by omega, hm, fun hn => ⟨x, rfl, fun i u hu => ?_⟩⟩, fun e he => ?_, ?_⟩
    · have hil : i < es.length * 3 := by
        have := (List.getElem?_eq_some_iff.1 hu).1
        rw [fT.cells_length] at this
        exact this
      obtain ⟨e, he⟩ : ∃ e, es[i / 3]? = some e := ⟨es[i / 3]'(by omega), List.getElem?_eq_getElem _⟩
      have h1 := fT.cells_get es (i / 3) e he (i % 3) (Nat.mod_lt _ (by decide))
      rw [show i / 3 * fT.sz + i % 3 = i by show i / 3 * 3 + i % 3 = i; omega, hu] at h1
      have h2 := (World.cells?_some (hes _ _ he).1).2.2 (i % 3) (Nat.mod_lt _ (by decide))
      rw [add_add, show i / 3 * 3 + i % 3 = i by omega, ← h1] at h2
      exact h2
    · obtain ⟨i, hi⟩ := List.getElem?_of_mem he
      exact (hes i e hi).2
    · obtain ⟨hx1, _⟩ := Prod.mk.inj hx
      subst hx1
      have h8 := hw _ (by rw [DataW.weights, Tryd.underlying23]; exact List.mem_cons_self)
      have h9 : Tryd.prog.bytesOf 52 = 40 := by kernel_rfl
      rw [h9] at h8
      simp at h8
      rw [hlen]
      omega
set_option maxRecDepth 100000 in
theorem open_toks (hv : Value.okWide Tryd.prog W .any base 23 v) (h : DataW.Trod enc Tryd.prog W 0 (fun _ => true) true 23 v d ps) (hw : ∀ n ∈ d.weights Tryd.prog 23, n ≤ reach) :
    ∃ es : List TV, Rd fT W v es ∧ (∀ e ∈ es, e.ok W) ∧ es.length * 40 ≤ reach := open_toks0 (okWide_slice Tryd.underlying23 hv) h hw
end
end Go.Proofs.YtnfneokmiopieaaDoor.Tk
