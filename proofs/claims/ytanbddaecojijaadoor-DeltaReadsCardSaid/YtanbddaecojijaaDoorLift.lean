/- From a law's arguments as they are read to what the walks are told of them. -/
import Derived.Test.YtanbddaecojijaaDoorPB
import Derived.ProofKit
import Derived.OpenShut
import Derived.ShutString
import Derived.ChangeOld
import Derived.SizedLaws
import Derived.Lib.SmallJoins
set_option linter.unusedVariables false
namespace Go.Proofs.YtanbddaecojijaaDoor.Lift
open Go.ChangeShapes Go.WideShapes Go.ChangeAt Go.RowKit Go.Proofs.YtanbddaecojijaaDoor.B Go.Proofs.YtanbddaecojijaaDoor.PB
open Go.ChangeMaps (open_string shut_string)

theorem own : ownKnob Tryd.prog.godebug = none := by kernel_rfl
theorem laidOut : laidOutB Tryd.prog = true := by kernel_rfl

/-- What an argument weighs. -/
theorem wtOf {H : Type} {P : Program} {ts : List TypeId} {ds : List (DataW H)} {j : Nat} {t : TypeId} {d : DataW H} (hsz : (DataW.weightsEach P ts ds).all (· ≤ reachBytes) = true) (ht : ts[j]? = some t) (hd : ds[j]? = some d) : ∀ n ∈ d.weights P t, n ≤ reach := by
  intro n hn
  have := List.all_eq_true.1 hsz n (DataW.weights_mem_each ht hd n hn)
  have h2 : n ≤ reachBytes := of_decide_eq_true this
  exact Nat.le_trans h2 (by decide)

theorem byte_wf {z : Int} (h : (Lit.int .u8 z).wf = true) : vu8 (UInt8.ofNat z.toNat) = .int .u8 z := by
  have hb := bounds_u8 h
  have : ((UInt8.ofNat z.toNat).toNat : Int) = z := by rw [UInt8.toNat_ofNat']; omega
  rw [vu8, this]

section
variable {H : Type} {enc : TypeId × Value → H} {W : World} {base : Nat} {v : Value} {d : DataW H} {ps : List MemPlace}
set_option maxRecDepth 100000 in
/-- A []byte that came in. -/
theorem open_bytes0 (hv : ∃ a len cap, v = .slice a len cap) (h : DataW.Trod enc Tryd.prog W 0 (fun _ => true) true 22 v d ps) (hw : ∀ n ∈ d.weights Tryd.prog 22, n ≤ reach) :
    ∃ xs : List UInt8, RdB W v xs ∧ xs.length ≤ reach := by
  obtain ⟨a, len, cap, rfl⟩ := hv
  obtain ⟨fuel, hf⟩ := h
  rcases open_ints Tryd.underlying22 Tryd.underlying5 (by kernel_rfl) hf with ⟨hcs, _⟩ | ⟨x, l, c, zs, hcs, _, hl, hm, hz, hx, hcell, hwz⟩
  · simp [Value.cells] at hcs
    obtain ⟨rfl, rfl, rfl⟩ := hcs
    exact ⟨[], Rd.nil _ _, Nat.zero_le _⟩
  · simp [Value.cells] at hcs
    obtain ⟨rfl, rfl, rfl⟩ := hcs
    have hz' : zs.length = cap := by simpa using hz
    have hlen : ((zs.take len).map fun z => UInt8.ofNat z.toNat).length = len := by simp; omega
    refine ⟨(zs.take len).map fun z => UInt8.ofNat z.toNat, ⟨some x, cap, by rw [hlen], by rw [hlen]; exact hl, hm, fun _ => ⟨x, rfl, fun i u hu => ?_⟩⟩, ?_⟩
    · rw [u8_cells, List.map_map] at hu
      rw [List.getElem?_map] at hu
      obtain ⟨z, hzz, rfl⟩ := Option.map_eq_some_iff.1 hu
      have hi : i < len := by
        have := (List.getElem?_eq_some_iff.1 hzz).1
        simp at this
        omega
      rw [List.getElem?_take, if_pos hi] at hzz
      have hzm : z ∈ zs := List.mem_of_getElem? hzz
      rw [hcell i (by omega)]
      simp only [Function.comp]
      rw [byte_wf (hwz z hzm)]
      simp [List.getD, hzz]
    · obtain ⟨hx1, _⟩ := Prod.mk.inj hx
      rw [hlen]
      subst hx1
      have h1 := hw ((lits (H := H) .u8 (zs.take len)).length + (lits (H := H) .u8 (zs.drop len)).length) (by
        have hb : Tryd.prog.bytesOf 5 = 1 := by kernel_rfl
        simp [DataW.weights, Tryd.underlying22, hb])
      refine Nat.le_trans ?_ h1
      simp [lits]
      omega
set_option maxRecDepth 100000 in
theorem open_bytes (hv : Value.okWide Tryd.prog W .any base 22 v) (h : DataW.Trod enc Tryd.prog W 0 (fun _ => true) true 22 v d ps) (hw : ∀ n ∈ d.weights Tryd.prog 22, n ≤ reach) :
    ∃ xs : List UInt8, RdB W v xs ∧ xs.length ≤ reach := open_bytes0 (okWide_slice Tryd.underlying22 hv) h hw
set_option maxRecDepth 100000 in
/-- A frame that came in. -/
theorem open_frame (hv : Value.okWide Tryd.prog W .any base 54 v) (h : DataW.Trod enc Tryd.prog W 0 (fun _ => true) true 54 v d ps) (hw : ∀ n ∈ d.weights Tryd.prog 54, n ≤ reach) :
    ∃ (k s : Int) (dv : Value) (xs : List UInt8), v = .agg #[.int .i64 k, .int .i64 s, dv] ∧ RdB W dv xs ∧ xs.length ≤ reach := by
  obtain ⟨c0, c1, c2, y0, y1, y2, m, rfl, rfl, rfl, h0, h1, h2⟩ := Joins.open_agg3 Tryd.underlying54 (by kernel_rfl) (by kernel_rfl) hv h
  obtain ⟨a, e0, rfl, wa⟩ := DataW.trod_int Tryd.underlying3 h0
  obtain ⟨b, e1, rfl, wb⟩ := DataW.trod_int Tryd.underlying3 h1
  simp at e0 e1
  subst e0 e1
  obtain ⟨A, l, c, e2⟩ := Joins.slice_form Tryd.underlying22 h2
  simp at e2
  subst e2
  obtain ⟨xs, hx, hl⟩ := open_bytes0 (v := .slice A l c) (d := y2.1) (ps := y2.2) ⟨_, _, _, rfl⟩ ⟨m, by simpa [Value.cells] using h2⟩ (fun n hn => hw n (by simp [DataW.weights, DataW.weightsEach, Tryd.underlying54, hn]))
  exact ⟨a, b, _, xs, rfl, hx, hl⟩
set_option maxRecDepth 100000 in
/-- A string that came in. -/
theorem open_str (hv : Value.okWide Tryd.prog W .any base 9 v) (h : DataW.Trod enc Tryd.prog W 0 (fun _ => true) true 9 v d ps) (hw : ∀ n ∈ d.weights Tryd.prog 9, n ≤ reach) :
    ∃ s : List UInt8, v = .string (bstr s) ∧ s.length ≤ reach := by
  obtain ⟨s, rfl, rfl, _, hs⟩ := open_string Tryd.underlying9 hv h
  refine ⟨s.data.toList, by rw [← bstr_eta], ?_⟩
  exact hw _ (by simp [DataW.weights])
end
end Go.Proofs.YtanbddaecojijaaDoor.Lift
