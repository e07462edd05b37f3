/- errors.As at the two targets of package code; code.Number, code.Place. -/
import Derived.Test.YtanbddaecojijaaDoorPB
import Derived.Test.YtanbddaecojijaaDoorRegion
import Derived.Stop.Asserts
import Derived.RowKitTokens
set_option linter.unusedVariables false
set_option linter.unusedSimpArgs false
namespace Go.Proofs.YtanbddaecojijaaDoor.Err
open Go.RowKit Go.Extern.Stop Go.Stop Go.Extern Go.Proofs.YtanbddaecojijaaDoorW.PrintWords Go.Proofs.YtanbddaecojijaaDoor.B Go.Proofs.YtanbddaecojijaaDoor.PB

/-- What the package variable errors.errorType holds. -/
def Gl (w : World) : Prop := w.cell? ⟨0, 0, none⟩ = some (.iface 159 (.agg #[.pointer (some ⟨1, 28, none⟩)]))
theorem Gl.lt {w : World} (h : Gl w) : 0 < w.heap.size := World.block_lt_of_cell? w _ h
theorem Gl.fr {S : Nat → Prop} {w w' : World} (h : Gl w) (k : Fr S w w') (hs : ¬ S 0) : Gl w' := k.cell h hs
theorem Gl.no {w w' : World} (h : Gl w) (k : Fr No w w') : Gl w' := h.fr k id
theorem Gl.alloc {w : World} (h : Gl w) (o : Obj) : Gl (w.alloc o) := h.no ((Fr.refl _ _).alloc o)

/-! ### closed facts on the model's entries for internal/reflectlite -/
theorem valueOfPE (t : Addr) (w : World) : (ReflectliteValue.unpack (.iface 111 (.pointer (some t)))).run Tryd.prog w
    = .ok (.agg #[.pointer (some ⟨1, 111, none⟩), .pointer (some ⟨w.heap.size, 0, none⟩), .int .u64 150]) (w.alloc (.cells #[.pointer (some t)] 111)) := by kernel_rfl
theorem valueOfPF (t : Addr) (w : World) : (ReflectliteValue.unpack (.iface 112 (.pointer (some t)))).run Tryd.prog w
    = .ok (.agg #[.pointer (some ⟨1, 112, none⟩), .pointer (some ⟨w.heap.size, 0, none⟩), .int .u64 150]) (w.alloc (.cells #[.pointer (some t)] 112)) := by kernel_rfl
theorem valueOfF (t : Addr) (w : World) : (ReflectliteValue.unpack (.iface 97 (.pointer (some t)))).run Tryd.prog w
    = .ok (.agg #[.pointer (some ⟨1, 97, none⟩), .pointer (some ⟨w.heap.size, 0, none⟩), .int .u64 150]) (w.alloc (.cells #[.pointer (some t)] 97)) := by kernel_rfl
theorem valueOfE (n : Int) (w : World) : (ReflectliteValue.unpack (.iface 36 (.int .i64 n))).run Tryd.prog w
    = .ok (.agg #[.pointer (some ⟨1, 36, none⟩), .pointer (some ⟨w.heap.size, 0, none⟩), .int .u64 130]) (w.alloc (.cells #[.int .i64 n] 36)) := by kernel_rfl
theorem typePE (a : Addr) (w : World) : (ReflectliteValue.methodAny (ReflectliteValue.valueError "reflectlite.Value.Type" 0) (fun t _ _ _ => ReflectliteType.toType t) #[.agg #[.pointer (some ⟨1, 111, none⟩), .pointer (some a), .int .u64 150]]).run Tryd.prog w
    = .ok (.iface 159 (.agg #[.pointer (some ⟨1, 111, none⟩)])) w := by kernel_rfl
theorem typePF (a : Addr) (w : World) : (ReflectliteValue.methodAny (ReflectliteValue.valueError "reflectlite.Value.Type" 0) (fun t _ _ _ => ReflectliteType.toType t) #[.agg #[.pointer (some ⟨1, 112, none⟩), .pointer (some a), .int .u64 150]]).run Tryd.prog w
    = .ok (.iface 159 (.agg #[.pointer (some ⟨1, 112, none⟩)])) w := by kernel_rfl
theorem methodKind (h : Value) (w : World) : (Go.method (212 + 100) 159 (.agg #[h]) "Kind").run Tryd.prog w = .ok (92, h) w := by kernel_rfl
theorem methodElem (h : Value) (w : World) : (Go.method (212 + 100) 159 (.agg #[h]) "Elem").run Tryd.prog w = .ok (106, .agg #[h]) w := by kernel_rfl
theorem methodImplements (h : Value) (w : World) : (Go.method (212 + 100) 159 (.agg #[h]) "Implements").run Tryd.prog w = .ok (107, .agg #[h]) w := by kernel_rfl
theorem methodAssignableTo (h : Value) (w : World) : (Go.method (212 + 100) 159 (.agg #[h]) "AssignableTo").run Tryd.prog w = .ok (104, .agg #[h]) w := by kernel_rfl
theorem methodUnwrap (p : Addr) (w : World) : (Go.method (212 + 100) 97 (.pointer (some p)) "Unwrap").run Tryd.prog w = .ok (99, .pointer (some p)) w := by kernel_rfl
abbrev kindOf (h : Value) : Sem Value := (ReflectliteType.abiMethod fun t => (fun a : Nat => Value.int IntKind.u8 (a : Int)) <$> Rtype.kind t) #[h]
theorem kindPE (w : World) : (kindOf (.pointer (some ⟨1, 111, none⟩))).run Tryd.prog w = .ok (.int .u8 22) w := by kernel_rfl
theorem kindPF (w : World) : (kindOf (.pointer (some ⟨1, 112, none⟩))).run Tryd.prog w = .ok (.int .u8 22) w := by kernel_rfl
theorem kindE (w : World) : (kindOf (.pointer (some ⟨1, 36, none⟩))).run Tryd.prog w = .ok (.int .u8 2) w := by kernel_rfl
theorem kindF (w : World) : (kindOf (.pointer (some ⟨1, 97, none⟩))).run Tryd.prog w = .ok (.int .u8 22) w := by kernel_rfl
theorem elemPE (w : World) : (ReflectliteType.method ReflectliteType.elem #[.agg #[.pointer (some ⟨1, 111, none⟩)]]).run Tryd.prog w = .ok (.iface 159 (.agg #[.pointer (some ⟨1, 36, none⟩)])) w := by kernel_rfl
theorem elemPF (w : World) : (ReflectliteType.method ReflectliteType.elem #[.agg #[.pointer (some ⟨1, 112, none⟩)]]).run Tryd.prog w = .ok (.iface 159 (.agg #[.pointer (some ⟨1, 97, none⟩)])) w := by kernel_rfl
theorem implementsE (w : World) : (ReflectliteType.relation "Implements" ReflectliteType.implements_ #[.agg #[.pointer (some ⟨1, 36, none⟩)], .iface 159 (.agg #[.pointer (some ⟨1, 28, none⟩)])]).run Tryd.prog w = .ok (.bool true) w := by kernel_rfl
theorem implementsF (w : World) : (ReflectliteType.relation "Implements" ReflectliteType.implements_ #[.agg #[.pointer (some ⟨1, 97, none⟩)], .iface 159 (.agg #[.pointer (some ⟨1, 28, none⟩)])]).run Tryd.prog w = .ok (.bool true) w := by kernel_rfl
theorem typeOfE (v : Value) (w : World) : (ReflectliteType.typeOf #[.iface 36 v]).run Tryd.prog w = .ok (.iface 159 (.agg #[.pointer (some ⟨1, 36, none⟩)])) w := by kernel_rfl
theorem typeOfF (v : Value) (w : World) : (ReflectliteType.typeOf #[.iface 97 v]).run Tryd.prog w = .ok (.iface 159 (.agg #[.pointer (some ⟨1, 97, none⟩)])) w := by kernel_rfl
theorem assignEE (w : World) : (ReflectliteType.relation "AssignableTo" ReflectliteType.assignableTo #[.agg #[.pointer (some ⟨1, 36, none⟩)], .iface 159 (.agg #[.pointer (some ⟨1, 36, none⟩)])]).run Tryd.prog w = .ok (.bool true) w := by kernel_rfl
theorem assignFF (w : World) : (ReflectliteType.relation "AssignableTo" ReflectliteType.assignableTo #[.agg #[.pointer (some ⟨1, 97, none⟩)], .iface 159 (.agg #[.pointer (some ⟨1, 97, none⟩)])]).run Tryd.prog w = .ok (.bool true) w := by kernel_rfl
theorem assignFE (w : World) : (ReflectliteType.relation "AssignableTo" ReflectliteType.assignableTo #[.agg #[.pointer (some ⟨1, 97, none⟩)], .iface 159 (.agg #[.pointer (some ⟨1, 36, none⟩)])]).run Tryd.prog w = .ok (.bool false) w := by kernel_rfl
theorem assignEF (w : World) : (ReflectliteType.relation "AssignableTo" ReflectliteType.assignableTo #[.agg #[.pointer (some ⟨1, 36, none⟩)], .iface 159 (.agg #[.pointer (some ⟨1, 97, none⟩)])]).run Tryd.prog w = .ok (.bool false) w := by kernel_rfl

/-! ### entries that read or write memory -/
theorem rlm (z : Sem Value) (f : TypeId → Addr → Nat → Nat → Sem Value) (v : Value) :
    ReflectliteValue.method z f #[v] = (do match ← ReflectliteValue.parts v with | none => z | some (t, a, fl) => f t a fl (fl % 32)) := rfl
theorem partsPE (a : Addr) (w : World) : (ReflectliteValue.parts (.agg #[.pointer (some ⟨1, 111, none⟩), .pointer (some a), .int .u64 150])).run Tryd.prog w = .ok (some (111, a, 150)) w := by kernel_rfl
theorem partsPF (a : Addr) (w : World) : (ReflectliteValue.parts (.agg #[.pointer (some ⟨1, 112, none⟩), .pointer (some a), .int .u64 150])).run Tryd.prog w = .ok (some (112, a, 150)) w := by kernel_rfl
theorem isNilPE (a p : Addr) (W : World) (ha : W.cell? a = some (.pointer (some p))) :
    (ReflectliteValue.method (ReflectliteValue.valueError "reflectlite.Value.IsNil" 0) ReflectliteValue.isNil #[.agg #[.pointer (some ⟨1, 111, none⟩), .pointer (some a), .int .u64 150]]).run Tryd.prog W = .ok (.bool false) W := by
  rw [rlm]
  simp only [Sem.run_bind, partsPE, Result.andThen]
  simp [ReflectliteValue.isNil, loadVar, isAgg, underlying, Tryd.underlying111, ha, Result.andThen]
theorem isNilPF (a p : Addr) (W : World) (ha : W.cell? a = some (.pointer (some p))) :
    (ReflectliteValue.method (ReflectliteValue.valueError "reflectlite.Value.IsNil" 0) ReflectliteValue.isNil #[.agg #[.pointer (some ⟨1, 112, none⟩), .pointer (some a), .int .u64 150]]).run Tryd.prog W = .ok (.bool false) W := by
  rw [rlm]
  simp only [Sem.run_bind, partsPF, Result.andThen]
  simp [ReflectliteValue.isNil, loadVar, isAgg, underlying, Tryd.underlying112, ha, Result.andThen]
theorem elemOfPE (w : World) : (Rtype.elem? 111).run Tryd.prog w = .ok (some 36) w := by kernel_rfl
theorem elemOfPF (w : World) : (Rtype.elem? 112).run Tryd.prog w = .ok (some 97) w := by kernel_rfl
theorem mkE (p : Addr) (w : World) : (ReflectliteValue.mk 36 p ReflectliteValue.flagAddr).run Tryd.prog w = .ok (.agg #[.pointer (some ⟨1, 36, none⟩), .pointer (some p), .int .u64 386]) w := by kernel_rfl
theorem mkF (p : Addr) (w : World) : (ReflectliteValue.mk 97 p ReflectliteValue.flagAddr).run Tryd.prog w = .ok (.agg #[.pointer (some ⟨1, 97, none⟩), .pointer (some p), .int .u64 406]) w := by kernel_rfl
theorem elemVPE (a p : Addr) (W : World) (ha : W.cell? a = some (.pointer (some p))) :
    (ReflectliteValue.method (ReflectliteValue.valueError "reflectlite.Value.Elem" 0) ReflectliteValue.elem #[.agg #[.pointer (some ⟨1, 111, none⟩), .pointer (some a), .int .u64 150]]).run Tryd.prog W
      = .ok (.agg #[.pointer (some ⟨1, 36, none⟩), .pointer (some p), .int .u64 386]) W := by
  rw [rlm]
  simp only [Sem.run_bind, partsPE, Result.andThen]
  simp [ReflectliteValue.elem, loadVar, isAgg, underlying, Tryd.underlying111, ha, Result.andThen, elemOfPE, mkE]
theorem elemVPF (a p : Addr) (W : World) (ha : W.cell? a = some (.pointer (some p))) :
    (ReflectliteValue.method (ReflectliteValue.valueError "reflectlite.Value.Elem" 0) ReflectliteValue.elem #[.agg #[.pointer (some ⟨1, 112, none⟩), .pointer (some a), .int .u64 150]]).run Tryd.prog W
      = .ok (.agg #[.pointer (some ⟨1, 97, none⟩), .pointer (some p), .int .u64 406]) W := by
  rw [rlm]
  simp only [Sem.run_bind, partsPF, Result.andThen]
  simp [ReflectliteValue.elem, loadVar, isAgg, underlying, Tryd.underlying112, ha, Result.andThen, elemOfPF, mkF]
theorem rls (v x : Value) : ReflectliteValue.set #[v, x] = (do
    let (some (dst, a, fl), some (src, b, _)) := (← ReflectliteValue.parts v, ← ReflectliteValue.parts x)
      | unsupported (.noEntry "extern/(internal/reflectlite.Value).Set.zeroValue")
    if fl / ReflectliteValue.flagAddr % 2 == 0 then unsupported (.noEntry "extern/(internal/reflectlite.Value).Set.unaddressable")
    let val ← loadVar src b
    if ← Rtype.directlyAssignable dst src then storeVar dst a val
    else if ← Rtype.implements dst src then
      if (← Rtype.kind src) == 20 then
        match val with
        | .nilIface => unsupported (.noEntry "extern/reflectlite: a nil value of one interface type handed on as a value of another")
        | _ => storeVar dst a val
      else storeVar dst a (.iface src val)
    else panicString ("reflectlite.Set: value of type " ++ (← Rtype.spelt src) ++ " is not assignable to type " ++ (← Rtype.spelt dst))
    pure (.tuple #[])) := rfl
theorem partsEa (a : Addr) (w : World) : (ReflectliteValue.parts (.agg #[.pointer (some ⟨1, 36, none⟩), .pointer (some a), .int .u64 386])).run Tryd.prog w = .ok (some (36, a, 386)) w := by kernel_rfl
theorem partsE (a : Addr) (w : World) : (ReflectliteValue.parts (.agg #[.pointer (some ⟨1, 36, none⟩), .pointer (some a), .int .u64 130])).run Tryd.prog w = .ok (some (36, a, 130)) w := by kernel_rfl
theorem partsFa (a : Addr) (w : World) : (ReflectliteValue.parts (.agg #[.pointer (some ⟨1, 97, none⟩), .pointer (some a), .int .u64 406])).run Tryd.prog w = .ok (some (97, a, 406)) w := by kernel_rfl
theorem partsF (a : Addr) (w : World) : (ReflectliteValue.parts (.agg #[.pointer (some ⟨1, 97, none⟩), .pointer (some a), .int .u64 150])).run Tryd.prog w = .ok (some (97, a, 150)) w := by kernel_rfl
theorem directE (w : World) : (Rtype.directlyAssignable 36 36).run Tryd.prog w = .ok true w := by kernel_rfl
theorem directF (w : World) : (Rtype.directlyAssignable 97 97).run Tryd.prog w = .ok true w := by kernel_rfl
theorem setE (ta b : Addr) (n : Int) (old : Value) (W : World) (hb : W.cell? b = some (.int .i64 n)) (ht : W.cell? ta = some old) (hf : W.frozen? ta = false) :
    (ReflectliteValue.set #[.agg #[.pointer (some ⟨1, 36, none⟩), .pointer (some ta), .int .u64 386], .agg #[.pointer (some ⟨1, 36, none⟩), .pointer (some b), .int .u64 130]]).run Tryd.prog W
      = .ok (.tuple #[]) (W.setCell ta (.int .i64 n)) := by
  rw [rls]
  simp only [Sem.run_bind, partsEa, partsE, Result.andThen]
  simp [ReflectliteValue.flagAddr, loadVar, isAgg, underlying, Tryd.underlying36, hb, Result.andThen, directE, storeVar, Value.cells, storeCells, Addr.add]
  rw [run_store Tryd.prog W ta _ _ (by rfl)]
  simp [ht, hf]
theorem setF (ta b e : Addr) (old : Value) (W : World) (hb : W.cell? b = some (.pointer (some e))) (ht : W.cell? ta = some old) (hf : W.frozen? ta = false) :
    (ReflectliteValue.set #[.agg #[.pointer (some ⟨1, 97, none⟩), .pointer (some ta), .int .u64 406], .agg #[.pointer (some ⟨1, 97, none⟩), .pointer (some b), .int .u64 150]]).run Tryd.prog W
      = .ok (.tuple #[]) (W.setCell ta (.pointer (some e))) := by
  rw [rls]
  simp only [Sem.run_bind, partsFa, partsF, Result.andThen]
  simp [ReflectliteValue.flagAddr, loadVar, isAgg, underlying, Tryd.underlying97, hb, Result.andThen, directF, storeVar, Value.cells, storeCells, Addr.add]
  rw [run_store Tryd.prog W ta _ _ (by rfl)]
  simp [ht, hf]
theorem noAsF (v : Value) (xT : TypeId) (w : World) : (Instr.typeAssert (.iface 97 v) xT 164 true).run Tryd.prog w = .ok (.tuple #[.nilIface, .bool false]) w := run_typeAssert_lacksB Tryd.underlying164 (by kernel_rfl) (by kernel_rfl) v xT w
theorem noAsE (v : Value) (xT : TypeId) (w : World) : (Instr.typeAssert (.iface 36 v) xT 164 true).run Tryd.prog w = .ok (.tuple #[.nilIface, .bool false]) w := run_typeAssert_lacksB Tryd.underlying164 (by kernel_rfl) (by kernel_rfl) v xT w
theorem unwF (v : Value) (xT : TypeId) (w : World) : (Instr.typeAssert (.iface 97 v) xT 167 true).run Tryd.prog w = .ok (.tuple #[.iface 97 v, .bool true]) w := run_typeAssert_hasB Tryd.underlying167 (by kernel_rfl) v xT w
theorem noUnwE (v : Value) (xT : TypeId) (w : World) : (Instr.typeAssert (.iface 36 v) xT 167 true).run Tryd.prog w = .ok (.tuple #[.nilIface, .bool false]) w := run_typeAssert_lacksB Tryd.underlying167 (by kernel_rfl) (by kernel_rfl) v xT w
theorem noUnwsE (v : Value) (xT : TypeId) (w : World) : (Instr.typeAssert (.iface 36 v) xT 168 true).run Tryd.prog w = .ok (.tuple #[.nilIface, .bool false]) w := run_typeAssert_lacksB Tryd.underlying168 (by kernel_rfl) (by kernel_rfl) v xT w
end Go.Proofs.YtanbddaecojijaaDoor.Err
