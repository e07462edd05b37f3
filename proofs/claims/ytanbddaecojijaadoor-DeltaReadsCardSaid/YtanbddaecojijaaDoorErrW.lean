/- errors.As at the two targets of package code; code.Number, code.Place: walked. -/
import Derived.Test.YtanbddaecojijaaDoorErr
set_option linter.unusedVariables false
set_option linter.unusedSimpArgs false
namespace Go.Proofs.YtanbddaecojijaaDoor.Err
open Go.RowKit Go.Extern.Stop Go.Stop Go.Extern Go.Proofs.YtanbddaecojijaaDoorW.PrintWords Go.Proofs.YtanbddaecojijaaDoor.B Go.Proofs.YtanbddaecojijaaDoor.PB

theorem as_nil (t : Value) (w : World) : Calls Tryd.prog 45 #[.nilIface, t] w fun e w' => e = .returned (.bool false) ∧ w' = w := by
  go_enter Tryd.func45, Tryd.ntmps45
  go_wp2
  go_ret
  exact ⟨rfl, rfl⟩
/-- What lies in the new blocks of errors.As. -/
abbrev vE (w : World) : Obj := .cells #[.pointer (some ⟨1, 111, none⟩), .pointer (some ⟨w.heap.size, 0, none⟩), .int .u64 150] 146
abbrev vF (w : World) : Obj := .cells #[.pointer (some ⟨1, 112, none⟩), .pointer (some ⟨w.heap.size, 0, none⟩), .int .u64 150] 146
abbrev wE (w : World) (t : Addr) : World := (w.alloc (.cells #[.pointer (some t)] 111)).alloc (vE w)
abbrev wF (w : World) (t : Addr) : World := (w.alloc (.cells #[.pointer (some t)] 112)).alloc (vF w)

set_option maxHeartbeats 8000000 in
set_option maxRecDepth 100000 in
/-- A Fault: the number that it wraps. -/
theorem as_fault (b : Nat) (c : Int) (t : Addr) (old : Value) (w : World) (hg : Gl w) (hp : w.cell? ⟨b, 1, none⟩ = some (.int .i64 c)) (ht0 : w.cell? t = some old) (hf0 : w.frozen? t = false) :
    Calls Tryd.prog 45 #[.iface 97 (.pointer (some ⟨b, 0, none⟩)), .iface 111 (.pointer (some t))] w fun ev w' => ev = .returned (.bool true) ∧ Fr (one t.block) w w' ∧ w'.cell? t = some (.int .i64 c) := by
  have h56 := @run_callFunc_extern Tryd.prog 62 _ (fun args => ReflectliteValue.unpack (args.getD 0 (.tuple #[]))) Tryd.func62 (by kernel_rfl) (by kernel_rfl) (by kernel_rfl) (by kernel_rfl)
  have h57 := @run_callFunc_extern Tryd.prog 63 _ (ReflectliteValue.methodAny (ReflectliteValue.valueError "reflectlite.Value.Type" 0) (fun t _ _ _ => ReflectliteType.toType t)) Tryd.func63 (by kernel_rfl) (by kernel_rfl) (by kernel_rfl) (by kernel_rfl)
  have h58 := @run_callFunc_extern Tryd.prog 64 _ (ReflectliteValue.method (ReflectliteValue.valueError "reflectlite.Value.IsNil" 0) ReflectliteValue.isNil) Tryd.func64 (by kernel_rfl) (by kernel_rfl) (by kernel_rfl) (by kernel_rfl)
  have h76 := @run_callFunc_extern Tryd.prog 92 _ (ReflectliteType.abiMethod fun t => do pure (.int .u8 (← Rtype.kind t))) Tryd.func92 (by kernel_rfl) (by kernel_rfl) (by kernel_rfl) (by kernel_rfl)
  have h88 := @run_callFunc_extern Tryd.prog 106 _ (ReflectliteType.method ReflectliteType.elem) Tryd.func106 (by kernel_rfl) (by kernel_rfl) (by kernel_rfl) (by kernel_rfl)
  have h89 := @run_callFunc_extern Tryd.prog 107 _ (ReflectliteType.relation "Implements" ReflectliteType.implements_) Tryd.func107 (by kernel_rfl) (by kernel_rfl) (by kernel_rfl) (by kernel_rfl)
  have h53 := @run_callFunc_extern Tryd.prog 71 _ ReflectliteType.typeOf Tryd.func71 (by kernel_rfl) (by kernel_rfl) (by kernel_rfl) (by kernel_rfl)
  have h86 := @run_callFunc_extern Tryd.prog 104 _ (ReflectliteType.relation "AssignableTo" ReflectliteType.assignableTo) Tryd.func104 (by kernel_rfl) (by kernel_rfl) (by kernel_rfl) (by kernel_rfl)
  have h60 := @run_callFunc_extern Tryd.prog 72 _ (ReflectliteValue.method (ReflectliteValue.valueError "reflectlite.Value.Elem" 0) ReflectliteValue.elem) Tryd.func72 (by kernel_rfl) (by kernel_rfl) (by kernel_rfl) (by kernel_rfl)
  have h61 := @run_callFunc_extern Tryd.prog 73 _ ReflectliteValue.set Tryd.func73 (by kernel_rfl) (by kernel_rfl) (by kernel_rfl) (by kernel_rfl)
  have a1 := typeOfF; have a2 := typeOfE; have a3 := methodAssignableTo; have a9 := methodKind; have a10 := methodElem; have a11 := methodImplements; have a4 := assignFE; have a5 := assignEE; have a6 := valueOfE; have a7 := valueOfPE; have a8 := typePE; have a12 := kindPE; have a13 := kindE; have a14 := elemPE; have a15 := implementsE; have a16 := noAsF; have a17 := unwF; have a18 := methodUnwrap
  have hlt := hg.lt
  have htl : t.block < w.heap.size := World.block_lt_of_cell? w _ ht0
  have n8 := isNilPE ⟨w.heap.size, 0, none⟩ t (wE w t) (by simp)
  have hg2 : (wE w t).cell? ⟨0, 0, none⟩ = some (.iface 159 (.agg #[.pointer (some ⟨1, 28, none⟩)])) := (hg.alloc _).alloc _
  have k3 : Fr No w ((wE w t).alloc (vE w)) := (((Fr.refl _ _).alloc _).alloc _).alloc _
  have hp3 : ((wE w t).alloc (vE w)).cell? ⟨b, 1, none⟩ = some (.int .i64 c) := k3.cell hp id
  have el := elemVPE ⟨w.heap.size, 0, none⟩ t ((wE w t).alloc (vE w)) (by
    have h : (w.alloc (.cells #[.pointer (some t)] 111)).cell? ⟨w.heap.size, 0, none⟩ = some (.pointer (some t)) := by simp
    exact (((Fr.refl No _).alloc (vE w)).alloc (vE w)).cell h id)
  have st := setE t ⟨w.heap.size + 1 + 1 + 1, 0, none⟩ c old (((wE w t).alloc (vE w)).alloc (.cells #[.int .i64 c] 36)) (by rw [World.cell?_alloc_at _ _ _ _ (by simp)]; rfl) (((k3.alloc _).cell ht0 id)) ((World.frozen?_of_block ((k3.alloc _).block t.block htl id)).trans hf0)
  go_enter Tryd.func45, Tryd.ntmps45
  go_wp2
  refine wp_loop_rounds 2 ?_
  rw [rounds_succ]
  go_wp2
  rw [rounds_succ]
  go_wp2
  go_ret
  exact ⟨rfl, Fr.setCell (S := one t.block) (p := t) ((k3.alloc _).mono (fun _ _ h => h.elim)) (.inl rfl) _, World.cell?_setCell_same' _ _ _ (by rw [(k3.alloc _).cell ht0 id]; rfl)⟩
set_option maxHeartbeats 8000000 in
set_option maxRecDepth 100000 in
/-- A number is itself. -/
theorem as_errno (c : Int) (t : Addr) (old : Value) (w : World) (hg : Gl w) (ht0 : w.cell? t = some old) (hf0 : w.frozen? t = false) :
    Calls Tryd.prog 45 #[.iface 36 (.int .i64 c), .iface 111 (.pointer (some t))] w fun ev w' => ev = .returned (.bool true) ∧ Fr (one t.block) w w' ∧ w'.cell? t = some (.int .i64 c) := by
  have h56 := @run_callFunc_extern Tryd.prog 62 _ (fun args => ReflectliteValue.unpack (args.getD 0 (.tuple #[]))) Tryd.func62 (by kernel_rfl) (by kernel_rfl) (by kernel_rfl) (by kernel_rfl)
  have h57 := @run_callFunc_extern Tryd.prog 63 _ (ReflectliteValue.methodAny (ReflectliteValue.valueError "reflectlite.Value.Type" 0) (fun t _ _ _ => ReflectliteType.toType t)) Tryd.func63 (by kernel_rfl) (by kernel_rfl) (by kernel_rfl) (by kernel_rfl)
  have h58 := @run_callFunc_extern Tryd.prog 64 _ (ReflectliteValue.method (ReflectliteValue.valueError "reflectlite.Value.IsNil" 0) ReflectliteValue.isNil) Tryd.func64 (by kernel_rfl) (by kernel_rfl) (by kernel_rfl) (by kernel_rfl)
  have h76 := @run_callFunc_extern Tryd.prog 92 _ (ReflectliteType.abiMethod fun t => do pure (.int .u8 (← Rtype.kind t))) Tryd.func92 (by kernel_rfl) (by kernel_rfl) (by kernel_rfl) (by kernel_rfl)
  have h88 := @run_callFunc_extern Tryd.prog 106 _ (ReflectliteType.method ReflectliteType.elem) Tryd.func106 (by kernel_rfl) (by kernel_rfl) (by kernel_rfl) (by kernel_rfl)
  have h89 := @run_callFunc_extern Tryd.prog 107 _ (ReflectliteType.relation "Implements" ReflectliteType.implements_) Tryd.func107 (by kernel_rfl) (by kernel_rfl) (by kernel_rfl) (by kernel_rfl)
  have h53 := @run_callFunc_extern Tryd.prog 71 _ ReflectliteType.typeOf Tryd.func71 (by kernel_rfl) (by kernel_rfl) (by kernel_rfl) (by kernel_rfl)
  have h86 := @run_callFunc_extern Tryd.prog 104 _ (ReflectliteType.relation "AssignableTo" ReflectliteType.assignableTo) Tryd.func104 (by kernel_rfl) (by kernel_rfl) (by kernel_rfl) (by kernel_rfl)
  have h60 := @run_callFunc_extern Tryd.prog 72 _ (ReflectliteValue.method (ReflectliteValue.valueError "reflectlite.Value.Elem" 0) ReflectliteValue.elem) Tryd.func72 (by kernel_rfl) (by kernel_rfl) (by kernel_rfl) (by kernel_rfl)
  have h61 := @run_callFunc_extern Tryd.prog 73 _ ReflectliteValue.set Tryd.func73 (by kernel_rfl) (by kernel_rfl) (by kernel_rfl) (by kernel_rfl)
  have a1 := typeOfF; have a2 := typeOfE; have a3 := methodAssignableTo; have a9 := methodKind; have a10 := methodElem; have a11 := methodImplements; have a5 := assignEE; have a6 := valueOfE; have a7 := valueOfPE; have a8 := typePE; have a12 := kindPE; have a13 := kindE; have a14 := elemPE; have a15 := implementsE
  have hlt := hg.lt
  have htl : t.block < w.heap.size := World.block_lt_of_cell? w _ ht0
  have n8 := isNilPE ⟨w.heap.size, 0, none⟩ t (wE w t) (by simp)
  have hg2 : (wE w t).cell? ⟨0, 0, none⟩ = some (.iface 159 (.agg #[.pointer (some ⟨1, 28, none⟩)])) := (hg.alloc _).alloc _
  have k3 : Fr No w ((wE w t).alloc (vE w)) := (((Fr.refl _ _).alloc _).alloc _).alloc _
  have el := elemVPE ⟨w.heap.size, 0, none⟩ t ((wE w t).alloc (vE w)) (by
    have h : (w.alloc (.cells #[.pointer (some t)] 111)).cell? ⟨w.heap.size, 0, none⟩ = some (.pointer (some t)) := by simp
    exact (((Fr.refl No _).alloc (vE w)).alloc (vE w)).cell h id)
  have st := setE t ⟨w.heap.size + 1 + 1 + 1, 0, none⟩ c old (((wE w t).alloc (vE w)).alloc (.cells #[.int .i64 c] 36)) (by rw [World.cell?_alloc_at _ _ _ _ (by simp)]; rfl) (((k3.alloc _).cell ht0 id)) ((World.frozen?_of_block ((k3.alloc _).block t.block htl id)).trans hf0)
  go_enter Tryd.func45, Tryd.ntmps45
  go_wp2
  refine wp_loop_rounds 1 ?_
  rw [rounds_succ]
  go_wp2
  go_ret
  exact ⟨rfl, Fr.setCell (S := one t.block) (p := t) ((k3.alloc _).mono (fun _ _ h => h.elim)) (.inl rfl) _, World.cell?_setCell_same' _ _ _ (by rw [(k3.alloc _).cell ht0 id]; rfl)⟩
set_option maxHeartbeats 8000000 in
set_option maxRecDepth 100000 in
/-- A Fault is itself. -/
theorem at_fault (b : Addr) (t : Addr) (old : Value) (w : World) (hg : Gl w) (ht0 : w.cell? t = some old) (hf0 : w.frozen? t = false) :
    Calls Tryd.prog 45 #[.iface 97 (.pointer (some b)), .iface 112 (.pointer (some t))] w fun ev w' => ev = .returned (.bool true) ∧ Fr (one t.block) w w' ∧ w'.cell? t = some (.pointer (some b)) := by
  have h56 := @run_callFunc_extern Tryd.prog 62 _ (fun args => ReflectliteValue.unpack (args.getD 0 (.tuple #[]))) Tryd.func62 (by kernel_rfl) (by kernel_rfl) (by kernel_rfl) (by kernel_rfl)
  have h57 := @run_callFunc_extern Tryd.prog 63 _ (ReflectliteValue.methodAny (ReflectliteValue.valueError "reflectlite.Value.Type" 0) (fun t _ _ _ => ReflectliteType.toType t)) Tryd.func63 (by kernel_rfl) (by kernel_rfl) (by kernel_rfl) (by kernel_rfl)
  have h58 := @run_callFunc_extern Tryd.prog 64 _ (ReflectliteValue.method (ReflectliteValue.valueError "reflectlite.Value.IsNil" 0) ReflectliteValue.isNil) Tryd.func64 (by kernel_rfl) (by kernel_rfl) (by kernel_rfl) (by kernel_rfl)
  have h76 := @run_callFunc_extern Tryd.prog 92 _ (ReflectliteType.abiMethod fun t => do pure (.int .u8 (← Rtype.kind t))) Tryd.func92 (by kernel_rfl) (by kernel_rfl) (by kernel_rfl) (by kernel_rfl)
  have h88 := @run_callFunc_extern Tryd.prog 106 _ (ReflectliteType.method ReflectliteType.elem) Tryd.func106 (by kernel_rfl) (by kernel_rfl) (by kernel_rfl) (by kernel_rfl)
  have h89 := @run_callFunc_extern Tryd.prog 107 _ (ReflectliteType.relation "Implements" ReflectliteType.implements_) Tryd.func107 (by kernel_rfl) (by kernel_rfl) (by kernel_rfl) (by kernel_rfl)
  have h53 := @run_callFunc_extern Tryd.prog 71 _ ReflectliteType.typeOf Tryd.func71 (by kernel_rfl) (by kernel_rfl) (by kernel_rfl) (by kernel_rfl)
  have h86 := @run_callFunc_extern Tryd.prog 104 _ (ReflectliteType.relation "AssignableTo" ReflectliteType.assignableTo) Tryd.func104 (by kernel_rfl) (by kernel_rfl) (by kernel_rfl) (by kernel_rfl)
  have h60 := @run_callFunc_extern Tryd.prog 72 _ (ReflectliteValue.method (ReflectliteValue.valueError "reflectlite.Value.Elem" 0) ReflectliteValue.elem) Tryd.func72 (by kernel_rfl) (by kernel_rfl) (by kernel_rfl) (by kernel_rfl)
  have h61 := @run_callFunc_extern Tryd.prog 73 _ ReflectliteValue.set Tryd.func73 (by kernel_rfl) (by kernel_rfl) (by kernel_rfl) (by kernel_rfl)
  have a1 := typeOfF; have a2 := typeOfE; have a3 := methodAssignableTo; have a9 := methodKind; have a10 := methodElem; have a11 := methodImplements; have a5 := assignFF; have a6 := valueOfF; have a7 := valueOfPF; have a8 := typePF; have a12 := kindPF; have a13 := kindF; have a14 := elemPF; have a15 := implementsF
  have hlt := hg.lt
  have htl : t.block < w.heap.size := World.block_lt_of_cell? w _ ht0
  have n8 := isNilPF ⟨w.heap.size, 0, none⟩ t (wF w t) (by simp)
  have hg2 : (wF w t).cell? ⟨0, 0, none⟩ = some (.iface 159 (.agg #[.pointer (some ⟨1, 28, none⟩)])) := (hg.alloc _).alloc _
  have k3 : Fr No w ((wF w t).alloc (vF w)) := (((Fr.refl _ _).alloc _).alloc _).alloc _
  have el := elemVPF ⟨w.heap.size, 0, none⟩ t ((wF w t).alloc (vF w)) (by
    have h : (w.alloc (.cells #[.pointer (some t)] 112)).cell? ⟨w.heap.size, 0, none⟩ = some (.pointer (some t)) := by simp
    exact (((Fr.refl No _).alloc (vF w)).alloc (vF w)).cell h id)
  have st := setF t ⟨w.heap.size + 1 + 1 + 1, 0, none⟩ b old (((wF w t).alloc (vF w)).alloc (.cells #[.pointer (some b)] 97)) (by rw [World.cell?_alloc_at _ _ _ _ (by simp)]; rfl) (((k3.alloc _).cell ht0 id)) ((World.frozen?_of_block ((k3.alloc _).block t.block htl id)).trans hf0)
  go_enter Tryd.func45, Tryd.ntmps45
  go_wp2
  refine wp_loop_rounds 1 ?_
  rw [rounds_succ]
  go_wp2
  go_ret
  exact ⟨rfl, Fr.setCell (S := one t.block) (p := t) ((k3.alloc _).mono (fun _ _ h => h.elim)) (.inl rfl) _, World.cell?_setCell_same' _ _ _ (by rw [(k3.alloc _).cell ht0 id]; rfl)⟩
set_option maxHeartbeats 8000000 in
set_option maxRecDepth 100000 in
/-- A number is no Fault. -/
theorem at_errno (c : Int) (t : Addr) (old : Value) (w : World) (hg : Gl w) (ht0 : w.cell? t = some old) (hf0 : w.frozen? t = false) :
    Calls Tryd.prog 45 #[.iface 36 (.int .i64 c), .iface 112 (.pointer (some t))] w fun ev w' => ev = .returned (.bool false) ∧ Fr No w w' := by
  have h56 := @run_callFunc_extern Tryd.prog 62 _ (fun args => ReflectliteValue.unpack (args.getD 0 (.tuple #[]))) Tryd.func62 (by kernel_rfl) (by kernel_rfl) (by kernel_rfl) (by kernel_rfl)
  have h57 := @run_callFunc_extern Tryd.prog 63 _ (ReflectliteValue.methodAny (ReflectliteValue.valueError "reflectlite.Value.Type" 0) (fun t _ _ _ => ReflectliteType.toType t)) Tryd.func63 (by kernel_rfl) (by kernel_rfl) (by kernel_rfl) (by kernel_rfl)
  have h58 := @run_callFunc_extern Tryd.prog 64 _ (ReflectliteValue.method (ReflectliteValue.valueError "reflectlite.Value.IsNil" 0) ReflectliteValue.isNil) Tryd.func64 (by kernel_rfl) (by kernel_rfl) (by kernel_rfl) (by kernel_rfl)
  have h76 := @run_callFunc_extern Tryd.prog 92 _ (ReflectliteType.abiMethod fun t => do pure (.int .u8 (← Rtype.kind t))) Tryd.func92 (by kernel_rfl) (by kernel_rfl) (by kernel_rfl) (by kernel_rfl)
  have h88 := @run_callFunc_extern Tryd.prog 106 _ (ReflectliteType.method ReflectliteType.elem) Tryd.func106 (by kernel_rfl) (by kernel_rfl) (by kernel_rfl) (by kernel_rfl)
  have h89 := @run_callFunc_extern Tryd.prog 107 _ (ReflectliteType.relation "Implements" ReflectliteType.implements_) Tryd.func107 (by kernel_rfl) (by kernel_rfl) (by kernel_rfl) (by kernel_rfl)
  have h53 := @run_callFunc_extern Tryd.prog 71 _ ReflectliteType.typeOf Tryd.func71 (by kernel_rfl) (by kernel_rfl) (by kernel_rfl) (by kernel_rfl)
  have h86 := @run_callFunc_extern Tryd.prog 104 _ (ReflectliteType.relation "AssignableTo" ReflectliteType.assignableTo) Tryd.func104 (by kernel_rfl) (by kernel_rfl) (by kernel_rfl) (by kernel_rfl)
  have h60 := @run_callFunc_extern Tryd.prog 72 _ (ReflectliteValue.method (ReflectliteValue.valueError "reflectlite.Value.Elem" 0) ReflectliteValue.elem) Tryd.func72 (by kernel_rfl) (by kernel_rfl) (by kernel_rfl) (by kernel_rfl)
  have h61 := @run_callFunc_extern Tryd.prog 73 _ ReflectliteValue.set Tryd.func73 (by kernel_rfl) (by kernel_rfl) (by kernel_rfl) (by kernel_rfl)
  have a1 := typeOfF; have a2 := typeOfE; have a3 := methodAssignableTo; have a9 := methodKind; have a10 := methodElem; have a11 := methodImplements; have a5 := assignEF; have a7 := valueOfPF; have a8 := typePF; have a12 := kindPF; have a13 := kindF; have a14 := elemPF; have a15 := implementsF; have a16 := noAsE; have a17 := noUnwE; have a18 := noUnwsE
  have hlt := hg.lt
  have htl : t.block < w.heap.size := World.block_lt_of_cell? w _ ht0
  have n8 := isNilPF ⟨w.heap.size, 0, none⟩ t (wF w t) (by simp)
  have hg2 : (wF w t).cell? ⟨0, 0, none⟩ = some (.iface 159 (.agg #[.pointer (some ⟨1, 28, none⟩)])) := (hg.alloc _).alloc _
  have k3 : Fr No w ((wF w t).alloc (vF w)) := (((Fr.refl _ _).alloc _).alloc _).alloc _
  go_enter Tryd.func45, Tryd.ntmps45
  go_wp2
  refine wp_loop_rounds 1 ?_
  rw [rounds_succ]
  go_wp2
  go_ret
  exact ⟨rfl, k3⟩

set_option maxHeartbeats 8000000 in
set_option maxRecDepth 100000 in
theorem number_nil  (w : World) (hg : Gl w) : Calls Tryd.prog 10 #[.nilIface] w fun en w' => en = .returned (.int .i64 0) ∧ Fr No w w' := by
  go_enter Tryd.func10, Tryd.ntmps10
  go_wp2_with (go_at_call 45; refine (as_nil _ _).mono ?_; rintro e w' ⟨rfl, rfl⟩)
  go_ret
  exact ⟨rfl, (Fr.refl _ _).alloc _⟩
set_option maxHeartbeats 8000000 in
set_option maxRecDepth 100000 in
theorem number_fault (b : Nat) (c : Int) (w : World) (hg : Gl w) (hp : w.cell? ⟨b, 1, none⟩ = some (.int .i64 c)) : Calls Tryd.prog 10 #[.iface 97 (.pointer (some ⟨b, 0, none⟩))] w fun en w' => en = .returned (.int .i64 c) ∧ Fr No w w' := by
  have hA := as_fault b c ⟨w.heap.size, 0, none⟩ (.int .i64 0) (w.alloc (.cells #[.int .i64 0] 36)) (hg.alloc _) (((Fr.refl No w).alloc _).cell hp id) (by simp) (by simp)
  go_enter Tryd.func10, Tryd.ntmps10
  go_wp2_with fail
  refine hA.mono ?_
  rintro e w1 ⟨rfl, hf, hc⟩
  have F1 : Fr No w w1 := (((Fr.refl No w).alloc _)).trans hf (fun k hk e => by have e' : k = w.heap.size := e; omega)
  go_wp2
  go_ret
  exact ⟨rfl, F1⟩
set_option maxHeartbeats 8000000 in
set_option maxRecDepth 100000 in
theorem number_errno (c : Int) (w : World) (hg : Gl w) : Calls Tryd.prog 10 #[.iface 36 (.int .i64 c)] w fun en w' => en = .returned (.int .i64 c) ∧ Fr No w w' := by
  have hA := as_errno c ⟨w.heap.size, 0, none⟩ (.int .i64 0) (w.alloc (.cells #[.int .i64 0] 36)) (hg.alloc _) (by simp) (by simp)
  go_enter Tryd.func10, Tryd.ntmps10
  go_wp2_with fail
  refine hA.mono ?_
  rintro e w1 ⟨rfl, hf, hc⟩
  have F1 : Fr No w w1 := (((Fr.refl No w).alloc _)).trans hf (fun k hk e => by have e' : k = w.heap.size := e; omega)
  go_wp2
  go_ret
  exact ⟨rfl, F1⟩
set_option maxHeartbeats 8000000 in
set_option maxRecDepth 100000 in
theorem place_nil  (w : World) (hg : Gl w) : Calls Tryd.prog 13 #[.nilIface] w fun en w' => en = .returned (.int .i64 (-1)) ∧ Fr No w w' := by
  go_enter Tryd.func13, Tryd.ntmps13
  go_wp2_with (go_at_call 45; refine (as_nil _ _).mono ?_; rintro e w' ⟨rfl, rfl⟩)
  go_ret
  exact ⟨rfl, (Fr.refl _ _).alloc _⟩
set_option maxHeartbeats 8000000 in
set_option maxRecDepth 100000 in
theorem place_fault (b : Nat) (a : Int) (w : World) (hg : Gl w) (hp : w.cell? ⟨b, 0, none⟩ = some (.int .i64 a)) : Calls Tryd.prog 13 #[.iface 97 (.pointer (some ⟨b, 0, none⟩))] w fun en w' => en = .returned (.int .i64 a) ∧ Fr No w w' := by
  have hA := at_fault ⟨b, 0, none⟩ ⟨w.heap.size, 0, none⟩ (.pointer none) (w.alloc (.cells #[.pointer none] 97)) (hg.alloc _) (by simp) (by simp)
  go_enter Tryd.func13, Tryd.ntmps13
  go_wp2_with fail
  refine hA.mono ?_
  rintro e w1 ⟨rfl, hf, hc⟩
  have F1 : Fr No w w1 := (((Fr.refl No w).alloc _)).trans hf (fun k hk e => by have e' : k = w.heap.size := e; omega)
  have c0 : w1.cell? ⟨b, 0, none⟩ = some (.int .i64 a) := F1.cell hp id
  go_wp2
  go_ret
  exact ⟨rfl, F1⟩
set_option maxHeartbeats 8000000 in
set_option maxRecDepth 100000 in
theorem place_errno (c : Int) (w : World) (hg : Gl w) : Calls Tryd.prog 13 #[.iface 36 (.int .i64 c)] w fun en w' => en = .returned (.int .i64 (-1)) ∧ Fr No w w' := by
  have hA := at_errno c ⟨w.heap.size, 0, none⟩ (.pointer none) (w.alloc (.cells #[.pointer none] 97)) (hg.alloc _) (by simp) (by simp)
  go_enter Tryd.func13, Tryd.ntmps13
  go_wp2_with fail
  refine hA.mono ?_
  rintro e w1 ⟨rfl, hf⟩
  have F1 : Fr No w w1 := ((Fr.refl No w).alloc _).none hf
  go_wp2
  go_ret
  exact ⟨rfl, F1⟩
/-- An error's number, of package code's own. -/
def noE (e : Option (Nat × Nat)) : Nat := (e.map (·.2)).getD 0
def plE (e : Option (Nat × Nat)) : Int := (e.map fun q => (q.1 : Int)).getD (-1)
theorem number_calls {w : World} {ev : Value} {e : Option (Nat × Nat)} (hg : Gl w) (he : IsErr w ev e) : Calls Tryd.prog 10 #[ev] w fun en w' => en = .returned (.int .i64 (noE e : Nat)) ∧ Fr No w w' := by
  cases e with
  | none => obtain rfl : ev = .nilIface := he; exact number_nil w hg
  | some q => obtain ⟨a, c⟩ := q; obtain ⟨b, rfl, hb⟩ := he; exact number_fault b c w hg (by rw [blk_cell hb]; rfl)
theorem place_calls {w : World} {ev : Value} {e : Option (Nat × Nat)} (hg : Gl w) (he : IsErr w ev e) : Calls Tryd.prog 13 #[ev] w fun en w' => en = .returned (.int .i64 (plE e)) ∧ Fr No w w' := by
  cases e with
  | none => obtain rfl : ev = .nilIface := he; exact place_nil w hg
  | some q => obtain ⟨a, c⟩ := q; obtain ⟨b, rfl, hb⟩ := he; exact place_fault b a w hg (by rw [blk_cell hb]; rfl)
end Go.Proofs.YtanbddaecojijaaDoor.Err
