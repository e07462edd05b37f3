/- make([]byte, n): a row of noughts of one's own. -/
import Derived.Test.YtanbddaecojijaaDoorPB
import Derived.Laws.OwnMore
set_option linter.unusedVariables false
namespace Go.Proofs.YtanbddaecojijaaDoor.PB
open Go.RowKit Go.Proofs.YtanbddaecojijaaDoorW.PrintWords Go.Proofs.YtanbddaecojijaaDoor.B
theorem ex_makeSlice {P : Program} {ρ : Operand → Value} {o : Oper} {W W' : World} {t : TypeId} {xl xc : Operand} {l c v : Value} (h : (Instr.makeSlice t l c).run P W = .ok v W') (ho : o.op = .makeSlice t xl xc) (hl : ρ xl = l) (hc : ρ xc = c) : (execOp ρ o).run P W = .ok (.value v) W' := by
  unfold execOp
  simp only [ho, hl, hc, Sem.run_bind, Sem.run_pure, Sem.run_map, Result.andThen_ok, h]
theorem make_u8 (n : Nat) (hn : n ≤ 1000000000) (W : World) : ∃ w', (Instr.makeSlice 22 (.int .i64 (n : Int)) (.int .i64 (n : Int))).run Tryd.prog W = .ok (.slice (some ⟨W.heap.size, 0, none⟩) n n) w' ∧ OwB w' (.slice (some ⟨W.heap.size, 0, none⟩) n n) (List.replicate n 0) ∧ Fr No W w' := by
  obtain ⟨i, hi, hz⟩ := Option.map_eq_some_iff.1 infoU8
  simp only [Prod.mk.injEq] at hz
  obtain ⟨w', h1, h2, h3⟩ := run_make_full (P := Tryd.prog) W 0 22 5 i (.int .u8 0) 1 Tryd.underlying22 hi hz.1 hz.2.1 .i64 .i64 n (by rw [hz.2.2]; omega) (by unfold maxLen; omega) (Nat.zero_le _)
  refine ⟨w', h1, ?_, ⟨h3.os, h3.tape, h3.output, h3.size, fun k hk _ => h3.block k hk (by simp)⟩⟩
  have e : (madeCells (Value.int .u8 0).cells (n * 1)).toList = u8.cells (List.replicate n (0 : UInt8)) := by
    rw [show (Value.int .u8 0).cells = #[Value.int .u8 0] from rfl, toList_madeCells_one, u8_cells, List.map_replicate, Nat.mul_one]
    rfl
  rw [e] at h2
  unfold OwB Ow
  rw [List.length_replicate]
  exact h2
end Go.Proofs.YtanbddaecojijaaDoor.PB
