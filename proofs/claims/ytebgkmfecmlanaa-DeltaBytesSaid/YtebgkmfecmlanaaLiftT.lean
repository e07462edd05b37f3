/- From a law's arguments as they are read to what the walks are told of them. A list of tokens that came in. -/
import Derived.Test.YtebgkmfecmlanaaPB
import Derived.ProofKit
import Derived.OpenShut
import Derived.ShutString
import Derived.ChangeOld
import Derived.SizedLaws
import Derived.Lib.SmallJoins
import Derived.Test.YtebgkmfecmlanaaTk
import Derived.Deep.Slices
import Derived.Deep.Strs
set_option linter.unusedVariables false
set_option linter.unusedSimpArgs false
namespace Go.Proofs.Ytebgkmfecmlanaa.Lift
open Go.ChangeShapes Go.WideShapes Go.ChangeAt Go.RowKit Go.Proofs.Ytebgkmfecmlanaa.B Go.Proofs.Ytebgkmfecmlanaa.PB
open Go.ChangeMaps (open_string shut_string)

theorem own : ownKnob Try.prog.godebug = none := by kernel_rfl
theorem laidOut : laidOutB Try.prog = true := by kernel_rfl

/-- What an argument weighs. -/
theorem wtOf {H : Type} {P : Program} {ts : List TypeId} {ds : List (DataW H)} {j : Nat} {t : TypeId} {d : DataW H} (hsz : (DataW.weightsEach P ts ds).all (· ≤ reachBytes) = true) (ht : ts[j]? = some t) (hd : ds[j]? = some d) : ∀ n ∈ d.weights P t, n ≤ reach := by
  intro n hn
  have := List.all_eq_true.1 hsz n (DataW.weights_mem_each ht hd n hn)
  have h2 : n ≤ reachBytes := of_decide_eq_true this
  exact Nat.le_trans h2 (by decide)

theorem byte_wf {z : Int} (h : (Lit.int .u8 z).wf = true) : vu8 (UInt8.ofNat z.toNat) = .int .u8 z := by
  have hb := bounds_u8 h
  have : ((UInt8.ofNat z.toNat).toNat : Int) = z := by rw [UInt8.toNat_ofNat']; omega
  rw [vu8, this]

section
variable {H : Type} {enc : TypeId × Value → H} {W : World} {base : Nat} {v : Value} {d : DataW H} {ps : List MemPlace}
set_option maxRecDepth 100000 in
/-- A []byte that came in. -/
theorem open_bytes0 (hv : ∃ a len cap, v = .slice a len cap) (h : DataW.Trod enc Try.prog W 0 (fun _ => true) true 22 v d ps) (hw : ∀ n ∈ d.weights Try.prog 22, n ≤ reach) :
    ∃ xs : List UInt8, RdB W v xs ∧ xs.length ≤ reach := by
  obtain ⟨a, len, cap, rfl⟩ := hv
  obtain ⟨fuel, hf⟩ := h
  rcases open_ints Try.underlying22 Try.underlying5 (by kernel_rfl) hf with ⟨hcs, _⟩ | ⟨x, l, c, zs, hcs, _, hl, hm, hz, hx, hcell, hwz⟩
  · simp [Value.cells] at hcs
    obtain ⟨rfl, rfl, rfl⟩ := hcs
    exact ⟨[], Rd.nil _ _, Nat.zero_le _⟩
  · simp [Value.cells] at hcs
    obtain ⟨rfl, rfl, rfl⟩ := hcs
    have hz' : zs.length = cap := by simpa using hz
    have hlen : ((zs.take len).map fun z => UInt8.ofNat z.toNat).length = len := by simp; omega
    refine ⟨(zs.take len).map fun z => UInt8.ofNat z.toNat, ⟨some x, cap, by rw [hlen], by rw [hlen]; exact hl, hm, fun _ => ⟨x, rfl, fun i u hu => ?_⟩⟩, ?_⟩
    · rw [u8_cells, List.map_map] at hu
      rw [List.getElem?_map] at hu
      obtain ⟨z, hzz, rfl⟩ := Option.map_eq_some_iff.1 hu
      have hi : i < len := by
        have := (List.getElem?_eq_some_iff.1 hzz).1
        simp at this
        omega
      rw [List.getElem?_take, if_pos hi] at hzz
      have hzm : z ∈ zs := List.mem_of_getElem? hzz
      rw [hcell i (by omega)]
      simp only [Function.comp]
      rw [byte_wf (hwz z hzm)]
      simp [List.getD, hzz]
    · obtain ⟨hx1, _⟩ := Prod.mk.inj hx
      rw [hlen]
      subst hx1
      have h1 := hw ((lits (H := H) .u8 (zs.take len)).length + (lits (H := H) .u8 (zs.drop len)).length) (by
        have hb : Try.prog.bytesOf 5 = 1 := by kernel_rfl
        simp [DataW.weights, Try.underlying22, hb])
      refine Nat.le_trans ?_ h1
      simp [lits]
      omega
set_option maxRecDepth 100000 in
theorem open_bytes (hv : Value.okWide Try.prog W .any base 22 v) (h : DataW.Trod enc Try.prog W 0 (fun _ => true) true 22 v d ps) (hw : ∀ n ∈ d.weights Try.prog 22, n ≤ reach) :
    ∃ xs : List UInt8, RdB W v xs ∧ xs.length ≤ reach := open_bytes0 (okWide_slice Try.underlying22 hv) h hw
set_option maxRecDepth 100000 in
/-- A string that came in. -/
theorem open_str (hv : Value.okWide Try.prog W .any base 9 v) (h : DataW.Trod enc Try.prog W 0 (fun _ => true) true 9 v d ps) (hw : ∀ n ∈ d.weights Try.prog 9, n ≤ reach) :
    ∃ s : List UInt8, v = .string (bstr s) ∧ s.length ≤ reach := by
  obtain ⟨s, rfl, rfl, _, hs⟩ := open_string Try.underlying9 hv h
  refine ⟨s.data.toList, by rw [← bstr_eta], ?_⟩
  exact hw _ (by simp [DataW.weights])
end
end Go.Proofs.Ytebgkmfecmlanaa.Lift
namespace Go.Proofs.Ytebgkmfecmlanaa.Tk
open Go.ChangeShapes Go.WideShapes Go.ChangeAt Go.RowKit Go.Proofs.YtebgkmfecmlanaaW.PrintWords Go.Proofs.Ytebgkmfecmlanaa.B Go.Proofs.Ytebgkmfecmlanaa.PB

/-- What is known of each. -/
def TV.ok (w : World) (e : TV) : Prop := RdB w e.dv e.xs ∧ e.xs.length ≤ reach
theorem all_of_each {α : Type} {P : Nat → α → Prop} : ∀ n : Nat, (∀ i, i < n → ∃ x, P i x) → ∃ l : List α, l.length = n ∧ ∀ i x, l[i]? = some x → P i x
  | 0, _ => ⟨[], rfl, fun i x h => by simp at h⟩
  | n + 1, h => by
    obtain ⟨l, hl, hp⟩ := all_of_each n (fun i hi => h i (by omega))
    obtain ⟨x, hx⟩ := h n (by omega)
    refine ⟨l ++ [x], by simp [hl], fun i y hy => ?_⟩
    by_cases hi : i < l.length
    · rw [List.getElem?_append_left hi] at hy
      exact hp i y hy
    · rw [List.getElem?_append_right (by omega)] at hy
      have h0 : i - l.length = 0 := by
        have := (List.getElem?_eq_some_iff.1 hy).1
        simp at this
        omega
      rw [h0] at hy
      simp at hy
      subst hy
      have : i = n := by omega
      subst this
      exact hx

theorem weightsAll_mem {H : Type} {P : Program} {e : TypeId} : ∀ {l : List (DataW H)} {d : DataW H}, d ∈ l → ∀ n ∈ d.weights P e, n ∈ DataW.weightsAll P e l
  | x :: l, d, h, n, hn => by
    rw [DataW.weightsAll]
    rcases List.mem_cons.1 h with rfl | h
    · exact List.mem_append_left _ hn
    · exact List.mem_append_right _ (weightsAll_mem h n hn)
section
variable {H : Type} {enc : TypeId × Value → H} {W : World} {base : Nat} {v : Value} {d : DataW H} {ps : List MemPlace}
set_option maxRecDepth 100000 in
theorem open_cells {n : Nat} {cs : List Value} {y : DataW H × List MemPlace} (h : DataW.trod enc Try.prog W 0 (fun _ => true) true n 46 cs = some y) (hw : ∀ m ∈ y.1.weights Try.prog 46, m ≤ reach) :
    ∃ e : TV, cs = fT.enc e ∧ e.ok W := by
  obtain ⟨y0, y1, y2, m, rfl, hl, h0, h1, h2⟩ := Deep.trod_struct3 Try.underlying46 h
  have h3 : Try.prog.cellsOf 46 = 3 := by kernel_rfl
  have i1 : Try.prog.cellsOf 3 = 1 := by kernel_rfl
  have i2 : Try.prog.cellsOf 22 = 1 := by kernel_rfl
  rw [h3] at hl
  obtain ⟨c0, c1, c2, rfl⟩ : ∃ c0 c1 c2, cs = [c0, c1, c2] := by
    match cs, hl with
    | [a, b, c], _ => exact ⟨a, b, c, rfl⟩
  simp only [i1, i2] at h0 h1 h2
  obtain ⟨a, e0, rfl, wa⟩ := DataW.trod_int Try.underlying3 h0
  obtain ⟨b, e1, rfl, wb⟩ := DataW.trod_int Try.underlying3 h1
  simp at e0 e1
  subst e0 e1
  obtain ⟨A, l, c, e2⟩ := Joins.slice_form Try.underlying22 h2
  simp at e2
  subst e2
  obtain ⟨xs, hx, hxl⟩ := Lift.open_bytes0 (v := .slice A l c) (d := y2.1) (ps := y2.2) ⟨_, _, _, rfl⟩ ⟨m, by simpa [Value.cells] using h2⟩ (fun n hn => hw n (by simp [DataW.weights, DataW.weightsEach, Try.underlying46, hn]))
  obtain ⟨A', c', he, _⟩ := id hx
  injection he with q1 q2 q3
  subst q1 q2 q3
  exact ⟨⟨a, b, A, c, xs⟩, rfl, hx, hxl⟩
set_option maxRecDepth 100000 in
theorem open_toks (hv : Value.okWide Try.prog W .any base 31 v) (h : DataW.Trod enc Try.prog W 0 (fun _ => true) true 31 v d ps) (hw : ∀ n ∈ d.weights Try.prog 31, n ≤ reach) :
    ∃ es : List TV, Rd fT W v es ∧ (∀ e ∈ es, e.ok W) ∧ es.length * 40 ≤ reach := by
  obtain ⟨a, len, cap, rfl⟩ := okWide_slice Try.underlying31 hv
  obtain ⟨fuel, hf⟩ := h
  have h3 : Try.prog.cellsOf 46 = 3 := by kernel_rfl
  rcases Deep.open_slice Try.underlying31 hf with ⟨hcs, _⟩ | ⟨x, l, c, m, n, D, Pl, hcs, _, hl, hm, hmc, hx, hcell⟩
  · simp [Value.cells] at hcs
    obtain ⟨rfl, rfl, rfl⟩ := hcs
    exact ⟨[], Rd.nil _ _, (fun e he => by cases he), Nat.zero_le _⟩
  · simp [Value.cells] at hcs
    obtain ⟨rfl, rfl, rfl⟩ := hcs
    rw [h3] at hcell
    obtain ⟨es, hlen, hes⟩ := all_of_each (P := fun i (e : TV) => W.cells? 0 (x.add (i * 3)) 3 = some (fT.enc e) ∧ e.ok W) len (fun i hi => by
      obtain ⟨cs, h1, h2⟩ := hcell i (by rw [hmc]; simp; omega)
      obtain ⟨e, rfl, he⟩ := open_cells h2 (fun q hq => hw q (by
        obtain ⟨hx1, _⟩ := Prod.mk.inj hx
        subst hx1
        rw [DataW.weights, Try.underlying31]
        exact List.mem_cons_of_mem _ (List.mem_append_left _ (weightsAll_mem (List.mem_map_of_mem (List.mem_range.2 hi)) q hq))))
      exact ⟨e, h1, he⟩)
    refine ⟨es, ⟨some x, cap, by rw [hlen], by omega, hm, fun hn => ⟨x, rfl, fun i u hu => ?_⟩⟩, fun e he => ?_, ?_⟩
    · have hil : i < es.length * 3 := by
        have := (List.getElem?_eq_some_iff.1 hu).1
        rw [fT.cells_length] at this
        exact this
      obtain ⟨e, he⟩ : ∃ e, es[i / 3]? = some e := ⟨es[i / 3]'(by omega), List.getElem?_eq_getElem _⟩
      have h1 := fT.cells_get es (i / 3) e he (i % 3) (Nat.mod_lt _ (by decide))
      rw [show i / 3 * fT.sz + i % 3 = i by show i / 3 * 3 + i % 3 = i; omega, hu] at h1
      have h2 := (World.cells?_some (hes _ _ he).1).2.2 (i % 3) (Nat.mod_lt _ (by decide))
      rw [add_add, show i / 3 * 3 + i % 3 = i by omega, ← h1] at h2
      exact h2
    · obtain ⟨i, hi⟩ := List.getElem?_of_mem he
      exact (hes i e hi).2
    · obtain ⟨hx1, _⟩ := Prod.mk.inj hx
      subst hx1
      have h8 := hw _ (by rw [DataW.weights, Try.underlying31]; exact List.mem_cons_self)
      have h9 : Try.prog.bytesOf 46 = 40 := by kernel_rfl
      rw [h9] at h8
      simp at h8
      rw [hlen]
      omega
end
end Go.Proofs.Ytebgkmfecmlanaa.Tk
