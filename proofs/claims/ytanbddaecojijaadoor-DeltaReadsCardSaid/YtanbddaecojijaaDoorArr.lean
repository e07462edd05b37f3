/- Arrays of bytes as values: '==' and '!='. -/
import Derived.Test.YtanbddaecojijaaDoorPB
import Derived.ChangeKeysEq
set_option linter.unusedVariables false
set_option linter.unusedSimpArgs false
namespace Go.Proofs.YtanbddaecojijaaDoor.Arr
open Go.RowKit Go.Proofs.YtanbddaecojijaaDoorW.PrintWords Go.Proofs.YtanbddaecojijaaDoor.B Go.Proofs.YtanbddaecojijaaDoor.PB

/-- An array of bytes, as a value. -/
def av (bs : List UInt8) : Value := .agg (bs.map vu8).toArray

theorem plainU8 : Tryd.prog.plainKey 5 = true := by kernel_rfl
theorem cellsU8 : Tryd.prog.cellsOf 5 = 1 := by kernel_rfl

theorem vu8_beq (x y : UInt8) : ((x.toNat : Int) == (y.toNat : Int)) = (x == y) := by
  rw [Bool.eq_iff_iff]
  simp only [beq_iff_eq, Int.natCast_inj]
  exact ⟨fun h => UInt8.toNat_inj.1 h, fun h => by rw [h]⟩

theorem run_items (w : World) (d : Nat) (xs ys : List UInt8) : ∀ (is : List Nat), (∀ i ∈ is, i < xs.length ∧ i < ys.length) →
    (Op.eqItems (d + 1) 5 (Tryd.prog.cellsOf 5) (xs.map vu8).toArray (ys.map vu8).toArray is).run Tryd.prog w = .ok (is.all fun i => xs.getD i 0 == ys.getD i 0) w
  | [], _ => by simp [Op.eqItems]
  | i :: is, h => by
    obtain ⟨h1, h2⟩ := h i List.mem_cons_self
    have p1 := run_part_plain (P := Tryd.prog) w plainU8 (xs := (xs.map vu8).toArray) (off := i) (v := vu8 (xs.getD i 0)) (by simp [h1])
    have p2 := run_part_plain (P := Tryd.prog) w plainU8 (xs := (ys.map vu8).toArray) (off := i) (v := vu8 (ys.getD i 0)) (by simp [h2])
    have ih := run_items w d xs ys is (fun j hj => h j (List.mem_cons_of_mem _ hj))
    rw [cellsU8] at ih ⊢
    simp only [Op.eqItems, Nat.mul_one, Sem.run_bind, p1, p2, Result.andThen_ok, run_equalIn_int (P := Tryd.prog) w d 5 .u8 .u8 _ _ Tryd.underlying5, vu8_beq, List.all_cons]
    cases hb : (xs.getD i 0 == ys.getD i 0)
    · simp
    · simp only [Bool.not_true, Bool.false_eq_true, if_false, Bool.true_and]
      exact ih
theorem all_eq (xs ys : List UInt8) (n : Nat) (hx : xs.length = n) (hy : ys.length = n) : ((List.range n).all fun i => xs.getD i 0 == ys.getD i 0) = decide (xs = ys) := by
  rw [Bool.eq_iff_iff, List.all_eq_true, decide_eq_true_iff]
  constructor
  · intro h
    apply List.ext_getElem (by omega)
    intro i h1 h2
    have := h i (List.mem_range.2 (by omega))
    simpa [List.getD, h1, h2] using this
  · rintro rfl i _
    simp
theorem run_eql {t : TypeId} {n : Nat} (ht : Tryd.prog.underlying t = some (.array n 5)) (w : World) (xs ys : List UInt8) (hx : xs.length = n) (hy : ys.length = n) :
    (binOp .eql t (av xs) (av ys)).run Tryd.prog w = .ok (.bool (decide (xs = ys))) w := by
  obtain ⟨i, hi, _⟩ := Option.map_eq_some_iff.1 infoU8
  unfold av
  rw [run_eql_struct, run_equalIn_array (P := Tryd.prog) w 9999 _ _ ht hi, run_items w 9998 xs ys _ (fun j hj => by rw [hx, hy]; have := List.mem_range.1 hj; exact ⟨this, this⟩), all_eq xs ys n hx hy]
  rfl
theorem run_neq {t : TypeId} {n : Nat} (ht : Tryd.prog.underlying t = some (.array n 5)) (w : World) (xs ys : List UInt8) (hx : xs.length = n) (hy : ys.length = n) :
    (binOp .neq t (av xs) (av ys)).run Tryd.prog w = .ok (.bool (!decide (xs = ys))) w := by
  obtain ⟨i, hi, _⟩ := Option.map_eq_some_iff.1 infoU8
  unfold av
  rw [run_neq_struct, run_equalIn_array (P := Tryd.prog) w 9999 _ _ ht hi, run_items w 9998 xs ys _ (fun j hj => by rw [hx, hy]; have := List.mem_range.1 hj; exact ⟨this, this⟩), all_eq xs ys n hx hy]
  rfl
/-- An element of an array value. -/
theorem run_index {t e : TypeId} {n : Nat} (ht : Tryd.prog.underlying t = some (.array n e)) (he : Tryd.prog.plainKey e = true) (hc : (Tryd.prog.info? e).map (·.size) = some 1) (cs : Array Value) (i : Nat) (v : Value) (hi : i < n) (hv : cs[i]? = some v) (w : World) :
    (Instr.index t (.agg cs) (.int .i64 (i : Int))).run Tryd.prog w = .ok v w := by
  obtain ⟨d, hd, hs⟩ := Option.map_eq_some_iff.1 hc
  have p1 := run_part_plain (P := Tryd.prog) w he (xs := cs) (off := i) (v := v) hv
  have h0 : (0 : Int) ≤ (i : Int) ∧ (i : Int) < (n : Int) := ⟨by omega, by omega⟩
  simp [Instr.index, run_underlying ht, sizeOf, typeInfo, hd, hs, h0.2, asIntOf, p1]
  omega
end Go.Proofs.YtanbddaecojijaaDoor.Arr
