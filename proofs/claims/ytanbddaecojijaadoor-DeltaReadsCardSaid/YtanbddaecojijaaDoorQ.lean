/- A row of bytes of one's own that may begin inside its block: cuts from the left, appends. -/
import Derived.Test.YtanbddaecojijaaDoorPB
set_option linter.unusedVariables false
set_option linter.unusedSimpArgs false
namespace Go.Proofs.YtanbddaecojijaaDoor.PB
open Go.RowKit Go.Proofs.YtanbddaecojijaaDoorW.PrintWords Go.Proofs.YtanbddaecojijaaDoor.B

def Oq (B : Nat) (w : World) (v : Value) (xs : List UInt8) : Prop := QRow w B 5 1 v xs.length (xs.map vu8)
section
variable {B : Nat} {w w' : World} {v : Value} {xs : List UInt8}
theorem Oq.nil (B : Nat) (w : World) : Oq B w (.slice none 0 0) [] := q_of_own ⟨by simp, .inl ⟨rfl, rfl⟩⟩
theorem Oq.fr {S : Nat → Prop} (h : Oq B w v xs) (k : Fr S w w') (hs : ∀ b, v.ownBlock = some b → ¬ S b) : Oq B w' v xs :=
  q_move h (fun b hb => k.block b (q_lt h b hb) (hs b hb))
theorem Oq.no (h : Oq B w v xs) (k : Fr No w w') : Oq B w' v xs := h.fr k (fun _ _ => id)
theorem Oq.form (h : Oq B w v xs) : ∃ A c, v = .slice A xs.length c ∧ xs.length ≤ c := q_slice h
theorem Oq.base (h : Oq B w v xs) : ∀ k, v.ownBlock = some k → B ≤ k := fun k hk => (q_typed h k hk).1
theorem Oq.lt (h : Oq B w v xs) : ∀ k, v.ownBlock = some k → k < w.heap.size := fun k hk => q_lt h k hk
theorem Oq.apart (h : Oq B w v xs) {g : Nat} {cs : Array Value} {t : TypeId} (hg : w.heap[g]? = some (.cells cs t (0, 0))) (ht : t ≠ 5) : ∀ k, v.ownBlock = some k → k ≠ g := by
  rintro k hk rfl
  obtain ⟨_, cs', hc⟩ := q_typed h k hk
  rw [hg] at hc
  injection hc with hc
  injection hc with _ hc
  exact ht hc
theorem Oq.len_le (h : Oq B w v xs) : xs.length ≤ 9223372036854775807 := q_max h
theorem Oq.rd (h : Oq B w v xs) : RdB w v xs := by
  have hm := q_max h
  have h0 := h
  rcases h.2 with ⟨h1, A, rfl, hA⟩ | ⟨g, off, cap, cur, rfl, hg, hh, hnc, hm2, hcs, ht⟩
  · have : xs = [] := List.eq_nil_of_length_eq_zero h1
    subst this
    exact ⟨A, 0, rfl, by simp, by simp [maxLen], fun h => by simp at h⟩
  · refine ⟨_, cap, rfl, hnc, by omega, fun hn => ?_⟩
    obtain ⟨ad, e, hc⟩ := q_cells h0 hn
    exact ⟨ad, e, fun i u hu => hc i u (by rw [u8_cells] at hu; exact hu)⟩
/-- v[k:]. -/
theorem Oq.cut (h : Oq B w v xs) (k : Nat) (hk : k ≤ xs.length) : ∃ v', (∀ W : World, (Instr.slice 22 v (some (.int .i64 (k : Int))) none none).run Tryd.prog W = .ok v' W) ∧ Oq B w v' (xs.drop k) ∧ (∀ b, v'.ownBlock = some b → v.ownBlock = some b) := by
  obtain ⟨i, hi, hz⟩ := Option.map_eq_some_iff.1 infoU8
  simp only [Prod.mk.injEq] at hz
  obtain ⟨A, c, rfl, hc⟩ := h.form
  have hr := cut_from (P := Tryd.prog) 22 5 .i64 Tryd.underlying22 hi 1 hz.2.1 A xs.length c (k : Int) (by omega) (by omega)
  refine ⟨_, hr, ?_, ?_⟩
  · have hq := q_drop h (k := k) hk
    simp only [Int.toNat_natCast]
    unfold Oq
    rw [List.length_drop, List.map_drop]
    simpa using hq
  · intro b hb
    revert hb
    simp only [Int.toNat_natCast]
    split
    · cases A <;> simp [Value.ownBlock]
    · cases A <;> simp [Value.ownBlock, add_block]
theorem run_append_q (hB : B ≤ w.heap.size) (h : Oq B w v xs) (y : Value) (ys : List UInt8) (hy : RdB w y ys) (ty : TypeId) (hl : xs.length + ys.length ≤ 140737488355328) :
    ∃ v' w', (Builtin.append_ #[22, 22] ty #[v, y]).run Tryd.prog w = .ok v' w' ∧ Oq B w' v' (xs ++ ys) ∧ Fr (blk v) w w' := by
  obtain ⟨i0, hi, hzz⟩ := Option.map_eq_some_iff.1 infoU8
  simp only [Prod.mk.injEq] at hzz
  obtain ⟨hz0, hz1, hz2⟩ := hzz
  have ht := Tryd.underlying22
  obtain ⟨A, c, rfl, hyc, hcm, hcell⟩ := hy
  by_cases h0 : ys.length = 0
  · obtain rfl : ys = [] := List.eq_nil_of_length_eq_zero h0
    refine ⟨v, w, ?_, by simpa using h, Fr.refl _ _⟩
    rcases h.2 with ⟨h1, A', rfl, hA⟩ | ⟨g, off, cap, cur, rfl, hg, hh, hnc, hm2, hcs, hc⟩
    · cases A <;> cases A' <;> simp [Builtin.append_, run_underlying ht, sizeOf, typeInfo, hi, Builtin.lenOf, Builtin.firstCells, loadCells, loadCellsFrom, storeCells]
    · have hnc' : xs.length + 0 ≤ cap := hnc
      cases A <;> simp [Builtin.append_, run_underlying ht, sizeOf, typeInfo, hi, Builtin.lenOf, Builtin.firstCells, hnc, storeCells, loadCells, loadCellsFrom]
  · obtain ⟨ad, rfl, hc⟩ := hcell (by omega)
    obtain ⟨v', w', hr, hq, hg, _⟩ := q_append (P := Tryd.prog) w B 22 ty 5 i0 (.int .u8 0) 1 1 ht hi hz0 hz1 hz2 rfl Nat.one_pos v xs.length (xs.map vu8) h ad ys.length c (ys.map vu8) (by simp)
      (fun j u hu => hc j u (by rw [u8_cells]; exact hu)) (by simp [Value.oneCell']) (by omega) (by simp only [maxLen]; omega) (by omega) hB
    refine ⟨v', w', hr, ?_, Fr.ofGrown hg (fun k hk => hk)⟩
    unfold Oq
    rw [List.length_append, List.map_append]
    exact hq
end
section
variable {ops : Array Oper} {rest : List Oper} {o : Oper} {a : Act} {Q : Exit → Act → World → Prop} {W : World}
/-- append(b, y...). -/
theorem apQs (B : Nat) (v : Value) (xs : List UInt8) (y : Value) (ys : List UInt8) (hgd : o.guard = none) (s x : Operand)
    (ho : o.op = .call { callee := .builtin .append, args := #[s, x], argTypes := #[22, 22] })
    (hs : a.eval s = v) (hx : a.eval x = y) (HO : Oq B W v xs) (HY : RdB W y ys) (hl : xs.length + ys.length ≤ 140737488355328) (hB : B ≤ W.heap.size)
    (h : ∀ v1 w1, Oq B w1 v1 (xs ++ ys) → Fr (blk v) W w1 → wpList Tryd.prog ops Q rest (a.put o.dst v1) w1) :
    wpList Tryd.prog ops Q (o :: rest) a W := by
  obtain ⟨v', w', hr, h2, h3⟩ := run_append_q hB HO y ys HY o.type hl
  refine wpList_plain hgd fun K hK => ?_
  unfold Oper.wp execOp
  simp only [ho, resolve, invoke, builtin, Sem.run_bind, Sem.run_pure, Result.andThen_ok, List.map_toArray, List.map_cons, List.map_nil, hs, hx, hr]
  exact hK _ _ (h v' w' h2 h3)
/-- append(b, x): one byte. -/
theorem apQ1 (B : Nat) (v : Value) (xs : List UInt8) (y : UInt8) (n : Int) (hgd : o.guard = none) (s x : Operand)
    (ho : o.op = .call { callee := .builtin .append, args := #[s, x], argTypes := #[22, 22] })
    (hs : a.eval s = v) (hx : a.eval x = .slice (some ⟨W.heap.size, 0, none⟩) 1 1) (hn : n = (y.toNat : Int)) (HO : Oq B W v xs) (hl : xs.length + 1 ≤ 140737488355328) (hB : B ≤ W.heap.size)
    (h : ∀ v1 w1, Oq B w1 v1 (xs ++ [y]) → Fr (blk v) W w1 → wpList Tryd.prog ops Q rest (a.put o.dst v1) w1) :
    wpList Tryd.prog ops Q (o :: rest) a (W.alloc (.cells #[.int .u8 n] 5)) := by
  subst hn
  have hfr : Fr No W (W.alloc (.cells #[vu8 y] 5)) := (Fr.refl _ _).alloc _
  have hyr : RdB (W.alloc (.cells #[vu8 y] 5)) (.slice (some ⟨W.heap.size, 0, none⟩) 1 1) [y] := ⟨_, 1, rfl, by simp, by simp [maxLen], fun _ => ⟨_, rfl, fun i u hu => by
    rw [u8.cells_one] at hu
    exact heap_new_cells W [vu8 y] 5 i u hu⟩⟩
  refine apQs B v xs _ [y] hgd s x ho hs hx (HO.no hfr) hyr (by simpa using hl) (Nat.le_trans hB (by simp)) fun v1 w1 h1 h2 => ?_
  exact h v1 w1 h1 ((hfr.mono (fun _ _ h => h.elim)).trans h2 (fun _ _ h => h))
end
end Go.Proofs.YtanbddaecojijaaDoor.PB
