/- A told file, a pair of lists of tokens, that came in. -/
import Derived.Test.YtnfneokmiopieaaDoorLiftT
import Derived.Test.YtnfneokmiopieaaDoorPatS
import Derived.ChangeSame
set_option linter.unusedVariables false
set_option linter.unusedSimpArgs false
namespace Go.Proofs.YtnfneokmiopieaaDoor.Tk
open Go.ChangeShapes Go.WideShapes Go.ChangeAt Go.RowKit Go.Proofs.YtnfneokmiopieaaDoorW.PrintWords Go.Proofs.YtnfneokmiopieaaDoor.B Go.Proofs.YtnfneokmiopieaaDoor.PB

/-- A told file that came in. -/
structure ToV where
  vl : Value
  ct : Int
  st : List UInt8
  fs : List TV
def ToV.v (s : ToV) : Value := .agg (Pat.toC s.vl s.ct s.st)
structure ToV.ok (w : World) (s : ToV) : Prop where
  rd : Rd fT w s.vl s.fs
  each : ∀ e ∈ s.fs, e.ok w
  wf : (Lit.int .i64 s.ct).wf = true
  st : s.st.length = 32
section
variable {H : Type} {enc : TypeId × Value → H} {W : World} {base : Nat} {v : Value} {d : DataW H} {ps : List MemPlace}
theorem okWide_arr {P : Program} {r : Reach} {t e : TypeId} {n : Nat} (ht : P.underlying t = some (.array n e)) (h : Value.okWide P W r base t v) : ∃ cs, v = .agg cs ∧ cs.size = P.cellsOf t := by
  simp only [Value.okWide, ht] at h
  obtain ⟨cs, h1, h2, _⟩ := h
  exact ⟨cs, h1, h2⟩
theorem list_u8 : ∀ (cs : List Value), (∀ c ∈ cs, ∃ z, c = .int .u8 z ∧ (Lit.int .u8 z).wf = true) → ∃ a : List UInt8, cs = a.map vu8
  | [], _ => ⟨[], rfl⟩
  | c :: cs, h => by
    obtain ⟨z, rfl, hz⟩ := h c List.mem_cons_self
    obtain ⟨a, rfl⟩ := list_u8 cs (fun c hc => h c (List.mem_cons_of_mem _ hc))
    exact ⟨UInt8.ofNat z.toNat :: a, by rw [List.map_cons, Lift.byte_wf hz]⟩
set_option maxRecDepth 100000 in
theorem cells_u8 {n : Nat} {t : TypeId} (ht : Tryd.prog.underlying t = some (.array n 5)) (hc : Tryd.prog.cellsOf t = n) {fuel : Nat} {cs : List Value} {x : DataW H × List MemPlace} (h : DataW.trod enc Tryd.prog W 0 (fun _ => true) true fuel t cs = some x) :
    ∃ a : List UInt8, cs = a.map vu8 ∧ a.length = n := by
  obtain ⟨xs, m, _, _, hl, hxl, hx⟩ := DataW.trod_array ht h
  have c1 : Tryd.prog.cellsOf 5 = 1 := by kernel_rfl
  rw [hc] at hl
  obtain ⟨a, ha⟩ := list_u8 cs (fun c hcm => by
    obtain ⟨i, hi⟩ := List.getElem?_of_mem hcm
    have hil := (List.getElem?_eq_some_iff.1 hi).1
    have h1 := hx i (by omega)
    rw [c1, Nat.mul_one, List.getElem?_eq_getElem (by omega : i < xs.length)] at h1
    have : (cs.drop i).take 1 = [c] := by
      rw [List.take_one, List.head?_drop, hi]
      rfl
    rw [this] at h1
    obtain ⟨z, e0, _, hw⟩ := DataW.trod_int Tryd.underlying5 h1
    simp at e0
    exact ⟨z, e0, hw⟩)
  exact ⟨a, ha, by rw [← hl, ha, List.length_map]⟩
set_option maxRecDepth 100000 in
theorem open_told (hv : Value.okWide Tryd.prog W .any base 40 v) (h : DataW.Trod enc Tryd.prog W 0 (fun _ => true) true 40 v d ps) (hw : ∀ n ∈ d.weights Tryd.prog 40, n ≤ reach) :
    ∃ s : ToV, v = s.v ∧ s.ok W := by
  obtain ⟨cs, rfl, _⟩ := okWide_struct Tryd.underlying40 hv
  obtain ⟨fuel, hf⟩ := h
  obtain ⟨y0, y1, y2, m, hd, hl, h0, h1, h2⟩ := Deep.trod_struct3 Tryd.underlying40 hf
  have h3 : Tryd.prog.cellsOf 40 = 34 := by kernel_rfl
  have i1 : Tryd.prog.cellsOf 3 = 1 := by kernel_rfl
  have i2 : Tryd.prog.cellsOf 23 = 1 := by kernel_rfl
  have i3 : Tryd.prog.cellsOf 38 = 32 := by kernel_rfl
  rw [h3] at hl
  obtain ⟨hd, _⟩ := Prod.mk.inj hd
  subst hd
  obtain ⟨l⟩ := cs
  have hl : l.length = 34 := by simpa [Value.cells] using hl
  obtain ⟨c0, c1, cr, rfl⟩ : ∃ c0 c1 cr, l = c0 :: c1 :: cr := by
    match l, hl with
    | a :: b :: r, _ => exact ⟨a, b, r, rfl⟩
  simp only [i1, i2, i3, List.length_cons] at h0 h1 h2 hl
  obtain ⟨A, n, c, e0⟩ := Joins.slice_form Tryd.underlying23 h0
  have e0' : c0 = .slice A n c := by simpa [Value.cells] using e0
  subst e0'
  obtain ⟨b, e1, _, wb⟩ := DataW.trod_int Tryd.underlying3 h1
  have e1' : c1 = .int .i64 b := by simpa [Value.cells] using e1
  subst e1'
  obtain ⟨a, e2, ha⟩ := cells_u8 Tryd.underlying38 i3 h2
  have e2' : cr = a.map vu8 := by
    have e3 : (cr.take 32) = a.map vu8 := by simpa [Value.cells] using e2
    rwa [List.take_of_length_le (by omega)] at e3
  subst e2'
  obtain ⟨es, hes, hall, _⟩ := open_toks0 (v := .slice A n c) (d := y0.1) (ps := y0.2) ⟨_, _, _, rfl⟩ ⟨m, by simpa [Value.cells] using h0⟩ (fun n hn => hw n (by simp [DataW.weights, DataW.weightsEach, Tryd.underlying40, hn]))
  exact ⟨⟨.slice A n c, b, a, es⟩, by unfold ToV.v Pat.toC Pat.toL; rfl, hes, hall, wb, ha⟩
set_option maxRecDepth 100000 in
theorem open_toks2 (hv : Value.okWide Tryd.prog W .any base 54 v) (h : DataW.Trod enc Tryd.prog W 0 (fun _ => true) true 54 v d ps) (hw : ∀ n ∈ d.weights Tryd.prog 54, n ≤ reach) :
    ∃ (v0 : Value) (es0 : List TV) (v1 : Value) (es1 : List TV), v = .agg #[v0, v1] ∧ (Rd fT W v0 es0 ∧ ∀ e ∈ es0, e.ok W) ∧ (Rd fT W v1 es1 ∧ ∀ e ∈ es1, e.ok W) := by
  obtain ⟨cs, rfl, hsz⟩ := okWide_arr Tryd.underlying54 hv
  have h2 : Tryd.prog.cellsOf 54 = 2 := by kernel_rfl
  have i1 : Tryd.prog.cellsOf 23 = 1 := by kernel_rfl
  obtain ⟨fuel, hf⟩ := h
  obtain ⟨xs, m, _, hd, hl, hxl, hx⟩ := DataW.trod_array Tryd.underlying54 hf
  have hx0 := hx 0 (by decide)
  have hx1 := hx 1 (by decide)
  obtain ⟨hd, _⟩ := Prod.mk.inj hd
  subst hd
  obtain ⟨l⟩ := cs
  have hll : l.length = 2 := by simpa [h2] using hsz
  match l, hll, xs, hxl with
  | [c0, c1], _, [x0, x1], _ =>
    simp only [i1] at hx0 hx1
    obtain ⟨A0, n0, k0, e0⟩ := Joins.slice_form Tryd.underlying23 hx0
    obtain ⟨A1, n1, k1, e1⟩ := Joins.slice_form Tryd.underlying23 hx1
    have e0' : c0 = .slice A0 n0 k0 := by simpa [Value.cells] using e0
    have e1' : c1 = .slice A1 n1 k1 := by simpa [Value.cells] using e1
    subst e0' e1'
    obtain ⟨es0, hes0, hall0, _⟩ := open_toks0 (v := .slice A0 n0 k0) (d := x0.1) (ps := x0.2) ⟨_, _, _, rfl⟩ ⟨m, by simpa [Value.cells] using hx0⟩ (fun n hn => hw n (by simp [DataW.weights, DataW.weightsAll, Tryd.underlying54, hn]))
    obtain ⟨es1, hes1, hall1, _⟩ := open_toks0 (v := .slice A1 n1 k1) (d := x1.1) (ps := x1.2) ⟨_, _, _, rfl⟩ ⟨m, by simpa [Value.cells] using hx1⟩ (fun n hn => hw n (by simp [DataW.weights, DataW.weightsAll, Tryd.underlying54, hn]))
    exact ⟨_, es0, _, es1, rfl, ⟨hes0, hall0⟩, hes1, hall1⟩
end
end Go.Proofs.YtnfneokmiopieaaDoor.Tk
