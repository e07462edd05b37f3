/- append(b, make([]byte, n)...). -/
import Derived.Test.YtdicjcpcohclaaaDoorPB
import Derived.Test.YtdicjcpcohclaaaDoorWZeros
set_option linter.unusedVariables false
set_option linter.unusedSimpArgs false
namespace Go.Proofs.YtdicjcpcohclaaaDoor.PB
open Go.RowKit Go.Proofs.YtdicjcpcohclaaaDoorW.PrintWords Go.Proofs.YtdicjcpcohclaaaDoor.B

theorem zeros_u8 (m : Nat) : (Builtin.zeroCells (Value.int .u8 0).cells m).toList = u8.cells (List.replicate m 0) := by
  rw [u8_cells]
  unfold Builtin.zeroCells
  apply List.ext_getElem
  · simp [Value.cells]
  · intro i h1 h2
    simp [Value.cells, Nat.mod_one]
theorem run_append_mk (w : World) (v : Value) (xs : List UInt8) (ho : OwB w v xs) (ty : TypeId) (m : Nat) (hl : xs.length + m ≤ 140737488355328) :
    ∃ v' w', (Builtin.append_ #[22, 3] ty #[v, .int .i64 (m : Int)]).run Tryd.prog w = .ok v' w' ∧ OwB w' v' (xs ++ List.replicate m 0) ∧ Fr (blk v) w w' ∧ At w v v' := by
  obtain ⟨i0, hi, hzz⟩ := Option.map_eq_some_iff.1 infoU8
  simp only [Prod.mk.injEq] at hzz
  obtain ⟨hz0, hz1, hz2⟩ := hzz
  obtain ⟨v', w', hr, h2, h3, h4⟩ := run_append_zeros (P := Tryd.prog) w 0 22 3 ty 5 i0 (.int .u8 0) 1 1 Tryd.underlying22 Tryd.underlying3 hi hz0 hz1 hz2 rfl Nat.one_pos Nat.one_pos v xs.length (u8.cells xs) ho .i64 m
    (by rw [zeros_u8]; exact u8.cells_oneCell _) (by omega) (Nat.zero_le _)
  refine ⟨v', w', hr, ?_, Fr.ofGrown h3 (fun k hk => hk), ?_⟩
  · unfold OwB Ow
    rw [zeros_u8, ← u8.cells_append] at h2
    rw [List.length_append, List.length_replicate]
    exact h2
  · rcases h4 with h4 | h4
    · exact .inl h4
    · exact .inr ⟨_, h4, Nat.le_refl _⟩
theorem apMk {ops : Array Oper} {rest : List Oper} {o : Oper} {a : Act} {Q : Exit → Act → World → Prop} {W : World} (v : Value) (xs : List UInt8) (m : Nat) (hgd : o.guard = none) (s x : Operand)
    (ho : o.op = .call { callee := .builtin .append, args := #[s, x], argTypes := #[22, 3] })
    (hs : a.eval s = v) (hx : a.eval x = .int .i64 (m : Int)) (HO : OwB W v xs) (hl : xs.length + m ≤ 140737488355328)
    (h : ∀ v1 w1, OwB w1 v1 (xs ++ List.replicate m 0) → Fr (blk v) W w1 → At W v v1 → wpList Tryd.prog ops Q rest (a.put o.dst v1) w1) :
    wpList Tryd.prog ops Q (o :: rest) a W := by
  obtain ⟨v', w', hr, h2, h3, h4⟩ := run_append_mk W v xs HO o.type m hl
  refine wpList_plain hgd fun K hK => ?_
  unfold Oper.wp execOp
  simp only [ho, resolve, invoke, builtin, Sem.run_bind, Sem.run_pure, Result.andThen_ok, List.map_toArray, List.map_cons, List.map_nil, hs, hx, hr]
  exact hK _ _ (h v' w' h2 h3 h4)
end Go.Proofs.YtdicjcpcohclaaaDoor.PB
