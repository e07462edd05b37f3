/- Structs and arrays that are loaded from within a block. -/
import Derived.Test.YtanbddaecojijaaDoorRowS
import Derived.Test.YtanbddaecojijaaDoorBd
set_option linter.unusedVariables false
set_option linter.unusedSimpArgs false
namespace Go.Proofs.YtanbddaecojijaaDoor.PB
open Go.RowKit Go.Proofs.YtanbddaecojijaaDoorW.PrintWords Go.Proofs.YtanbddaecojijaaDoor.B
/-- Cells from an address on. -/
def Cv (w : World) (p : Addr) (cs : List Value) : Prop := ∀ j v, cs[j]? = some v → w.cell? (p.add j) = some v
theorem Cv.fr {S : Nat → Prop} {w w' : World} {p : Addr} {cs : List Value} (h : Cv w p cs) (k : Fr S w w') (hs : ¬ S p.block) : Cv w' p cs := fun j v hv => k.cell (h j v hv) (by rw [add_block]; exact hs)
theorem Cv.no {w w' : World} {p : Addr} {cs : List Value} (h : Cv w p cs) (k : Fr No w w') : Cv w' p cs := h.fr k id
theorem Cv.of_block {w : World} {g : Nat} {cs : Array Value} {t : TypeId} {fz : Nat × Nat} (h : w.heap[g]? = some (.cells cs t fz)) (o : Nat) : Cv w ⟨g, o, none⟩ (cs.toList.drop o) := fun j v hv => by
  rw [add_at, cell_of_row w g _ cs t fz h, ← Array.getElem?_toList]
  rw [List.getElem?_drop] at hv
  exact hv
theorem Cv.take {w : World} {p : Addr} {cs ds : List Value} (h : Cv w p (cs ++ ds)) : Cv w p cs := fun j v hv => h j v (by
  have := (List.getElem?_eq_some_iff.1 hv).1
  rw [List.getElem?_append_left this]; exact hv)
section
variable {P : Program}
theorem run_loadVar_cells {w : World} {p : Addr} {ty : TypeId} {cs : List Value} {d : TypeDesc} (hc : Cv w p cs)
    (hu : P.underlying ty = some d) (hd : (match d with | .struct _ | .array _ _ => true | _ => false) = true) (hi : (P.info? ty).map (·.size) = some cs.length) :
    (loadVar ty p).run P w = .ok (.agg cs.toArray) w := by
  have hl : (loadCells p cs.length).run P w = .ok cs.toArray w := run_loadCells_list (P := P) w p cs hc
  cases hq : P.info? ty with
  | none => simp [hq] at hi
  | some i =>
    have hs : i.size = cs.length := by simpa [hq] using hi
    have hagg : (isAgg ty).run P w = .ok true w := by
      unfold isAgg
      rw [Sem.run_bind, run_underlying hu w]
      cases d <;> simp_all
    simp [loadVar, Sem.run_bind, hagg, sizeOf, typeInfo, hq, hs, hl]
theorem ldCells {ops : Array Oper} {rest : List Oper} {o : Oper} {a : Act} {W : World} {Q : Exit → Act → World → Prop} (s : Operand) (ty : TypeId) (p : Addr) (cs : List Value) (d : TypeDesc) (hgd : o.guard = none) (ho : o.op = .load ty s) (hs : a.eval s = .pointer (some p)) (hc : Cv W p cs)
    (hu : P.underlying ty = some d) (hd : (match d with | .struct _ | .array _ _ => true | _ => false) = true) (hi : (P.info? ty).map (·.size) = some cs.length)
    (h : wpList P ops Q rest (a.put o.dst (.agg cs.toArray)) W) : wpList P ops Q (o :: rest) a W := by
  refine wpList_plain hgd fun K hK => ?_
  unfold Oper.wp execOp
  simp only [ho, hs, Instr.loadAt, Instr.sureAddr, asAddr, Sem.run_bind, Sem.run_pure, Sem.run_map, Result.andThen_ok, run_loadVar_cells hc hu hd hi]
  exact hK _ _ h
/-- A load whose value is known, guarded or not. -/
theorem ldG {ops : Array Oper} {rest : List Oper} {o : Oper} {a : Act} {W : World} {Q : Exit → Act → World → Prop} (s : Operand) (ty : TypeId) (p : Addr) (v : Value) (ho : o.op = .load ty s) (hs : a.eval s = .pointer (some p)) (hl : (loadVar ty p).run P W = .ok v W)
    (hw : Region.wanted o (yielded ops a.tmps) = true) (h : wpList P ops Q rest (a.put o.dst v) W) : wpList P ops Q (o :: rest) a W := by
  refine wpList_step fun K hK => ?_
  rw [if_pos hw]
  unfold Oper.wp execOp
  simp only [ho, hs, Instr.loadAt, Instr.sureAddr, asAddr, Sem.run_bind, Sem.run_pure, Sem.run_map, Result.andThen_ok, hl]
  exact hK _ _ h
/-- A whole block as an array or struct: in whatever later world. -/
theorem ld_all {w : World} {g : Nat} {t ty : TypeId} {cs : Array Value} {fr : Nat × Nat} {d : TypeDesc} (hg : w.heap[g]? = some (.cells cs t fr)) (hu : P.underlying ty = some d) (hd : (match d with | .struct _ | .array _ _ => true | _ => false) = true) (hi : (P.info? ty).map (·.size) = some cs.size) :
    ∀ x, Fr No w x → (loadVar ty ⟨g, 0, none⟩).run P x = .ok (.agg cs) x := fun x hx => run_loadVar_row (P := P) x g t ty cs fr d (hx.heap hg id) hu hd hi
end
theorem ex_ld {P : Program} {ρ : Operand → Value} {o : Oper} {W : World} {ty : TypeId} {s : Operand} {p : Addr} {v : Value} (ho : o.op = .load ty s) (hs : ρ s = .pointer (some p)) (h : (loadVar ty p).run P W = .ok v W) : (execOp ρ o).run P W = .ok (.value v) W := by
  unfold execOp
  simp only [ho, hs, Instr.loadAt, Instr.sureAddr, asAddr, Sem.run_bind, Sem.run_pure, Sem.run_map, Result.andThen_ok, h]
theorem ex_slice {P : Program} {ρ : Operand → Value} {o : Oper} {W : World} {ty : TypeId} {s l h : Operand} {v : Value} (hu : P.underlying ty = some (.slice (P.elem ty))) (ho : o.op = .slice ty s (some l) (some h) none) (hr : (Instr.slice ty (ρ s) (some (ρ l)) (some (ρ h)) none).run P W = .ok v W) : (execOp ρ o).run P W = .ok (.value v) W := by
  unfold execOp
  simp only [ho, Option.map_some, Option.map_none, Sem.run_bind, Sem.run_pure, Sem.run_map, Result.andThen_ok, run_sliceAt_slice W ty _ _ _ _ hu, hr]
theorem ex_slice_lo {P : Program} {ρ : Operand → Value} {o : Oper} {W : World} {ty : TypeId} {s l : Operand} {v : Value} (hu : P.underlying ty = some (.slice (P.elem ty))) (ho : o.op = .slice ty s (some l) none none) (hr : (Instr.slice ty (ρ s) (some (ρ l)) none none).run P W = .ok v W) : (execOp ρ o).run P W = .ok (.value v) W := by
  unfold execOp
  simp only [ho, Option.map_some, Option.map_none, Sem.run_bind, Sem.run_pure, Sem.run_map, Result.andThen_ok, run_sliceAt_slice W ty _ _ _ _ hu, hr]
end Go.Proofs.YtanbddaecojijaaDoor.PB
