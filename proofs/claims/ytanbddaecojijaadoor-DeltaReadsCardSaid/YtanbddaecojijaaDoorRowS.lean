/- Whole arrays stored; an operation whose value is known. -/
import Derived.Test.YtanbddaecojijaaDoorPB
import Derived.Deep.WholeRow
set_option linter.unusedVariables false
set_option linter.unusedSimpArgs false
namespace Go.Proofs.YtanbddaecojijaaDoor.PB
open Go.RowKit Go.Proofs.YtanbddaecojijaaDoorW.PrintWords Go.Proofs.YtanbddaecojijaaDoor.B
section
variable {ops : Array Oper} {rest : List Oper} {o : Oper} {a : Act} {Q : Exit → Act → World → Prop} {W : World}
/-- An operation whose value is known. -/
theorem stepV (v : Value) (hgd : o.guard = none) (hr : (execOp a.eval o).run Tryd.prog W = .ok (.value v) W) (h : wpList Tryd.prog ops Q rest (a.put o.dst v) W) : wpList Tryd.prog ops Q (o :: rest) a W := by
  refine wpList_plain hgd fun K hK => ?_
  unfold Oper.wp
  rw [hr]
  exact hK _ _ h
/-- A literal of constants. -/
theorem stepB (v : Value) (ty : TypeId) (parts : Array (Nat × Operand)) (hgd : o.guard = none) (ho : o.op = .build ty parts) (hr : (execOp a.eval o).run Tryd.prog W = .ok (.value v) W) (h : wpList Tryd.prog ops Q rest (a.put o.dst v) W) : wpList Tryd.prog ops Q (o :: rest) a W :=
  stepV v hgd hr h
set_option maxRecDepth 100000 in
/-- A whole row is stored. -/
theorem stRow (s v : Operand) (ty : TypeId) (g : Nat) (t : TypeId) (old new : Array Value) (hgd : o.guard = none) (ho : o.op = .store ty s v) (hs : a.eval s = .pointer (some ⟨g, 0, none⟩)) (hv : a.eval v = .agg new)
    (hg : W.heap[g]? = some (.cells old t (0, 0))) (hi : (Tryd.prog.info? ty).map (·.size) = some new.size) (hsz : old.size = new.size) (h1 : new.all (·.oneCell') = true)
    (h : wpList Tryd.prog ops Q rest (a.put o.dst undef) (W.setRow g new)) : wpList Tryd.prog ops Q (o :: rest) a W := by
  refine wpList_plain hgd fun K hK => ?_
  have hr := run_storeVar_row (P := Tryd.prog) W g t ty old new hg hi hsz h1
  unfold Oper.wp execOp
  simp only [ho, hs, hv, Instr.storeAt, Instr.sureAddr, Oper.upon, asAddr, Sem.run_bind, Sem.run_pure, Sem.run_map, Result.andThen_ok, hr]
  exact hK _ _ h
set_option maxRecDepth 100000 in
/-- A whole row is loaded. -/
theorem ldRow (s : Operand) (ty : TypeId) (g : Nat) (t : TypeId) (cs : Array Value) (fr : Nat × Nat) (d : TypeDesc) (hgd : o.guard = none) (ho : o.op = .load ty s) (hs : a.eval s = .pointer (some ⟨g, 0, none⟩)) (hg : W.heap[g]? = some (.cells cs t fr))
    (hu : Tryd.prog.underlying ty = some d) (hd : ∃ n e, d = .array n e) (hi : (Tryd.prog.info? ty).map (·.size) = some cs.size)
    (h : wpList Tryd.prog ops Q rest (a.put o.dst (.agg cs)) W) : wpList Tryd.prog ops Q (o :: rest) a W := by
  refine wpList_plain hgd fun K hK => ?_
  obtain ⟨n, e, rfl⟩ := hd
  have h1 := run_loadVar_row (P := Tryd.prog) W g t ty cs fr _ hg hu rfl hi
  unfold Oper.wp execOp
  simp only [ho, hs, Instr.loadAt, Instr.sureAddr, Oper.upon, asAddr, Sem.run_bind, Sem.run_pure, Sem.run_map, Result.andThen_ok, h1]
  exact hK _ _ h
end
set_option maxRecDepth 100000 in
/-- A whole row is stored: one operation. -/
theorem opStRow {a : Act} {K : Act → World → Prop} {Q : Exit → Act → World → Prop} {W : World} {o : Oper} (s v : Operand) (ty : TypeId) (g : Nat) (t : TypeId) (old new : Array Value) (ho : o.op = .store ty s v) (hs : a.eval s = .pointer (some ⟨g, 0, none⟩)) (hv : a.eval v = .agg new)
    (hg : W.heap[g]? = some (.cells old t (0, 0))) (hi : (Tryd.prog.info? ty).map (·.size) = some new.size) (hsz : old.size = new.size) (h1 : new.all (·.oneCell') = true)
    (h : K (a.put o.dst undef) (W.setRow g new)) : Oper.wp Tryd.prog o a W K Q := by
  have hr := run_storeVar_row (P := Tryd.prog) W g t ty old new hg hi hsz h1
  unfold Oper.wp execOp
  simp only [ho, hs, hv, Instr.storeAt, Instr.sureAddr, Oper.upon, asAddr, Sem.run_bind, Sem.run_pure, Sem.run_map, Result.andThen_ok, hr]
  exact h
theorem fr_setRow {S : Nat → Prop} {w W : World} (h : Fr S w W) {g : Nat} (hg : S g ∨ w.heap.size ≤ g) (cs : Array Value) : Fr S w (W.setRow g cs) := by
  refine h.trans (T := one g) ⟨rfl, rfl, rfl, by simp, fun k _ hk => setRow_other W g k _ hk⟩ fun k hk e => ?_
  have e' : k = g := e
  subst e'
  rcases hg with hg | hg
  · exact hg
  · omega
theorem fr_one_set (w : World) (g i : Nat) (u : Value) : Fr (one g) w (w.setCell ⟨g, i, none⟩ u) := (Fr.refl (one g) w).setCell (p := ⟨g, i, none⟩) (.inl (show one g g from rfl)) u
theorem fr_one_row (w : World) (g : Nat) (cs : Array Value) : Fr (one g) w (w.setRow g cs) := fr_setRow (Fr.refl (one g) w) (.inl (show one g g from rfl)) cs
end Go.Proofs.YtanbddaecojijaaDoor.PB
