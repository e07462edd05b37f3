/- errors.Is at a number. -/
import Derived.Test.YtkljeafnmcmifaaDoorErr
set_option linter.unusedVariables false
set_option linter.unusedSimpArgs false
namespace Go.Proofs.YtkljeafnmcmifaaDoor.Err
open Go.RowKit Go.Extern.Stop Go.Stop Go.Extern Go.Proofs.YtkljeafnmcmifaaDoorW.PrintWords Go.Proofs.YtkljeafnmcmifaaDoor.B Go.Proofs.YtkljeafnmcmifaaDoor.PB

theorem methodComparable (h : Value) (w : World) : (Go.method (129 + 100) 83 (.agg #[h]) "Comparable").run Tryd.prog w = .ok (62, .agg #[h]) w := by kernel_rfl
theorem comparableE (w : World) : (ReflectliteType.method (fun t => do Rtype.noPackHeld "Comparable" t; (fun a : TypeInfo => Value.bool a.comparable) <$> typeInfo t) #[.agg #[.pointer (some ⟨1, 41, none⟩)]]).run Tryd.prog w = .ok (.bool true) w := by kernel_rfl
theorem noIsF (v : Value) (xT : TypeId) (w : World) : (Instr.typeAssert (.iface 54 v) xT 85 true).run Tryd.prog w = .ok (.tuple #[.nilIface, .bool false]) w := run_typeAssert_lacksB Tryd.underlying85 (by kernel_rfl) (by kernel_rfl) v xT w
theorem noIsE (v : Value) (xT : TypeId) (w : World) : (Instr.typeAssert (.iface 41 v) xT 85 true).run Tryd.prog w = .ok (.tuple #[.nilIface, .bool false]) w := run_typeAssert_lacksB Tryd.underlying85 (by kernel_rfl) (by kernel_rfl) v xT w
theorem eqFE (v v' : Value) (w : World) : (binOp .eql 29 (.iface 54 v) (.iface 41 v')).run Tryd.prog w = .ok (.bool false) w := run_eql_iface_types 54 41 v v' Tryd.underlying29 (by decide) w
theorem eqEE (c d : Int) (w : World) : (binOp .eql 29 (.iface 41 (.int .i64 c)) (.iface 41 (.int .i64 d))).run Tryd.prog w = .ok (.bool (c == d)) w := by
  obtain ⟨i, hi, hc⟩ := Option.map_eq_some_iff.1 (show (Tryd.prog.info? 41).map (·.comparable) = some true by kernel_rfl)
  have h : ∀ d' : Nat, (Op.equalIn (d' + 2) 29 (.iface 41 (.int .i64 c)) (.iface 41 (.int .i64 d))).run Tryd.prog w = .ok (c == d) w := fun d' => by
    have h2 := run_equalIn_int (P := Tryd.prog) w d' 41 .i64 .i64 c d Tryd.underlying41
    rw [Op.equalIn]
    simp [run_underlying Tryd.underlying29, typeInfo, hi, hc, h2]
  simp only [binOp]
  simp [Op.equal, Op.maxDepth, h 9998]
set_option maxRecDepth 100000 in
theorem is_nil (v : Value) (w : World) : Calls Tryd.prog 18 #[.nilIface, .iface 41 v] w fun e w' => e = .returned (.bool false) ∧ w' = w := by
  have a1 : (binOp .eql 29 .nilIface (.iface 41 v)).run Tryd.prog w = .ok (.bool false) w := run_eql_iface_nil_left (P := Tryd.prog) w 41 v Tryd.underlying29
  go_enter Tryd.func18, Tryd.ntmps18
  go_wp2
  go_ret
  exact ⟨rfl, rfl⟩
set_option maxHeartbeats 8000000 in
set_option maxRecDepth 100000 in
theorem is_fault (b : Nat) (c d : Int) (w : World) (hp : w.cell? ⟨b, 1, none⟩ = some (.int .i64 c)) :
    Calls Tryd.prog 18 #[.iface 54 (.pointer (some ⟨b, 0, none⟩)), .iface 41 (.int .i64 d)] w fun ev w' => ev = .returned (.bool (c == d)) ∧ w' = w := by
  have h53 := @run_callFunc_extern Tryd.prog 23 _ ReflectliteType.typeOf Tryd.func23 (by kernel_rfl) (by kernel_rfl) (by kernel_rfl) (by kernel_rfl)
  have h87 := @run_callFunc_extern Tryd.prog 62 _ (ReflectliteType.method fun t => do Rtype.noPackHeld "Comparable" t; pure (.bool (← typeInfo t).comparable)) Tryd.func62 (by kernel_rfl) (by kernel_rfl) (by kernel_rfl) (by kernel_rfl)
  have a1 := typeOfE; have a2 := methodComparable; have a3 := comparableE; have a4 := noIsF; have a5 := noIsE; have a6 := eqFE; have a7 := eqEE; have a8 := unwF; have a9 := methodUnwrap; have a10 := noUnwE; have a11 := noUnwsE
  by_cases h : c = d
  · have hb : (c == d) = true := by simpa using h
    rw [hb]
    go_enter Tryd.func18, Tryd.ntmps18
    go_wp2
    refine wp_loop_rounds 2 ?_
    rw [rounds_succ]
    go_wp2
    rw [rounds_succ]
    go_wp2
    go_ret
    exact ⟨rfl, rfl⟩
  · have hb : (c == d) = false := by simpa using h
    rw [hb]
    go_enter Tryd.func18, Tryd.ntmps18
    go_wp2
    refine wp_loop_rounds 2 ?_
    rw [rounds_succ]
    go_wp2
    rw [rounds_succ]
    go_wp2
    go_ret
    exact ⟨rfl, rfl⟩
end Go.Proofs.YtkljeafnmcmifaaDoor.Err
