/- A block's sums: how they lie, how they are built and held against each other. -/
import Derived.Test.YtanbddaecojijaaDoorArr
import Derived.Test.YtanbddaecojijaaDoorLd
import Derived.Great.BuildSlice
set_option linter.unusedVariables false
set_option linter.unusedSimpArgs false
namespace Go.Proofs.YtanbddaecojijaaDoor.Bk
open Go.RowKit Go.Proofs.YtanbddaecojijaaDoorW.PrintWords Go.Proofs.YtanbddaecojijaaDoor.B Go.Proofs.YtanbddaecojijaaDoor.PB

structure BK where
  w : Nat
  st : List UInt8
  h : st.length = 32
  hw : w < 4294967296
theorem BK.ext' {a b : BK} (h1 : a.w = b.w) (h2 : a.st = b.st) : a = b := by
  obtain ⟨_, _, _, _⟩ := a; obtain ⟨_, _, _, _⟩ := b; cases h1; cases h2; rfl
instance : DecidableEq BK := fun a b => if h : a.w = b.w ∧ a.st = b.st then .isTrue (BK.ext' h.1 h.2) else .isFalse (fun e => h (by rw [e]; exact ⟨rfl, rfl⟩))
/-- A block's cells: the weak sum's number of kind k, the strong one's bytes. -/
def bkL (k : IntKind) (b : BK) : List Value := .int k (b.w : Int) :: b.st.map vu8
def bkC (k : IntKind) (b : BK) : Array Value := (bkL k b).toArray
theorem bkL_length (k : IntKind) (b : BK) : (bkL k b).length = 33 := by simp [bkL, b.h]
theorem bkC_size (k : IntKind) (b : BK) : (bkC k b).size = 33 := by simp [bkC, bkL_length]
theorem bkL_one (k : IntKind) (b : BK) : ∀ u ∈ bkL k b, u.oneCell' = true := by
  intro u hu
  rcases List.mem_cons.1 hu with rfl | hu
  · rfl
  · obtain ⟨x, _, rfl⟩ := List.mem_map.1 hu
    rfl
theorem bkC_one (k : IntKind) (b : BK) : (bkC k b).all (·.oneCell') = true := by
  rw [Array.all_eq_true]
  intro i hi
  exact bkL_one k b _ (by simp [bkC])
def zBK : BK := ⟨0, List.replicate 32 0, rfl, by decide⟩
def fBk (k : IntKind) : Fl BK := ⟨33, bkL k, bkL_length k, bkL_one k⟩

section
variable {P : Program}
theorem fill_two {pl : Nat → Option (Nat × Nat)} {cells : Array Value} {a : Value} {v : Array Value} {n : Nat} (h0 : pl 0 = some (0, 1)) (h1 : pl 1 = some (1, n)) (ha : a.cells = #[a]) (hv : v.size = n) (hc : cells.size = n + 1) :
    Instr.fill pl cells [(0, a), (1, .agg v)] = some (#[a] ++ v) := by
  unfold Instr.fill
  simp only [h0, ha]
  have e0 : (#[a] : Array Value).size = 1 := rfl
  rw [if_neg (by rw [e0, hc]; simp)]
  unfold Instr.fill
  simp only [h1, Value.cells, hv]
  rw [if_neg (by simp [hc]; try omega)]
  unfold Instr.fill
  congr 1
  have g := Great.foldl_set 1 v.toList 0 (cells.setIfInBounds 0 a)
  apply Array.ext'
  apply List.ext_getElem?
  intro k
  have hk := g.2 k
  rw [← Array.foldl_toList, Array.toList_zipIdx]
  simp only [List.getElem?_toArray, Array.getElem?_toList] at hk ⊢
  have e1 : (Array.foldl (fun cs (x : Value × Nat) => cs.setIfInBounds (0 + x.2) x.1) cells (#[a] : Array Value).zipIdx) = cells.setIfInBounds 0 a := rfl
  rw [e1, hk]
  by_cases hk0 : k = 0
  · subst hk0
    rw [if_neg (by omega)]
    rw [Array.getElem?_append_left (by simp)]
    simp [hc]
  · by_cases hkn : k < n + 1
    · rw [if_pos (by simp [hv, hc]; omega)]
      rw [Array.getElem?_append_right (by simp; omega)]
      simp
    · rw [if_neg (by simp [hv]; omega), Array.getElem?_append_right (by simp; omega)]
      rw [Array.getElem?_eq_none (by simp [hc]; omega), Array.getElem?_eq_none (by simp [hv]; omega)]
theorem run_build2 {t : TypeId} {fs : Array Field} {n : Nat} (hu : P.underlying t = some (.struct fs)) (hz : ((P.info? t).bind (·.zero)).map (·.cells.size) = some (n + 1)) (hp : fs.toList.mapM (fun f => (P.info? f.type).map fun i => (f.offset, i.size)) = some [(0, 1), (1, n)])
    (a : Value) (ha : a.cells = #[a]) (v : Array Value) (hv : v.size = n) (W : World) : (Instr.build t #[(0, a), (1, .agg v)]).run P W = .ok (.agg (#[a] ++ v)) W := by
  refine run_build W t _ _ ?_
  unfold Program.built
  cases hit : P.info? t with
  | none => simp [hit] at hz
  | some it =>
    cases hzz : it.zero with
    | none => simp [hit, hzz] at hz
    | some z =>
      simp only [hit, hzz, Option.bind_some, Option.map_some, Option.some.injEq] at hz
      simp only [hu, hzz, hp]
      exact fill_two rfl rfl ha hv hz
theorem run_bs1 {t e : TypeId} {s : Nat} (hu : P.underlying t = some (.slice e)) (hi : (P.info? e).map (·.size) = some s) (hz : ((P.info? e).bind (·.zero)).isSome = true) (hs0 : 0 < s) (hs1 : s ≤ 1000) (v : Array Value) (hv : v.size = s) (W : World) :
    (Instr.buildSlice t 1 #[(0, .agg v)]).run P W = .ok (.slice (some ⟨W.heap.size, 0, none⟩) 1 1) (W.alloc (.cells v e)) := by
  cases hie : P.info? e with
  | none => simp [hie] at hi
  | some ie =>
    simp only [hie, Option.map_some, Option.some.injEq, Option.bind_some] at hi hz
    obtain ⟨z, hzz⟩ := Option.isSome_iff_exists.1 hz
    refine run_buildSlice W t e 1 _ _ ie z hu hie hzz (by rw [hi]; omega) (by rw [hi]; omega) ?_
    rw [hi]
    have := Great.fill_whole (s := s) hs0 [.agg v] ((Array.range (1 * s)).map (z.cells[· % z.cells.size]!)) (fun u hu => by simp at hu; subst hu; exact hv) (by simp)
    simpa [Value.cells] using this
theorem ex_build {ρ : Operand → Value} {o : Oper} {W : World} {t : TypeId} {parts : Array (Nat × Operand)} {vs : Array (Nat × Value)} {v : Value} (h : (Instr.build t vs).run P W = .ok v W) (ho : o.op = .build t parts) (hp' : (parts.toList.map fun (x : Nat × Operand) => (x.1, ρ x.2)) = vs.toList) : (execOp ρ o).run P W = .ok (.value v) W := by
  have hp : (parts.map fun (i, x) => (i, ρ x)) = vs := by apply Array.ext'; rw [Array.toList_map]; exact hp'
  unfold execOp
  simp only [ho, hp, Sem.run_bind, Sem.run_pure, Sem.run_map, Result.andThen_ok, h]
theorem ex_buildSlice {ρ : Operand → Value} {o : Oper} {W W' : World} {t : TypeId} {n : Nat} {parts : Array (Nat × Operand)} {vs : Array (Nat × Value)} {v : Value} (h : (Instr.buildSlice t n vs).run P W = .ok v W') (ho : o.op = .buildSlice t n parts) (hp' : (parts.toList.map fun (x : Nat × Operand) => (x.1, ρ x.2)) = vs.toList) : (execOp ρ o).run P W = .ok (.value v) W' := by
  have hp : (parts.map fun (i, x) => (i, ρ x)) = vs := by apply Array.ext'; rw [Array.toList_map]; exact hp'
  unfold execOp
  simp only [ho, hp, Sem.run_bind, Sem.run_pure, Sem.run_map, Result.andThen_ok, h]
theorem lsX {ops : Array Oper} {rest : List Oper} {o : Oper} {a : Act} {Q : Exit → Act → World → Prop} {W W' : World} {v : Value} (hgd : o.guard = none) (hr : (execOp a.eval o).run P W = .ok (.value v) W') (h : wpList P ops Q rest (a.put o.dst v) W') : wpList P ops Q (o :: rest) a W := by
  refine wpList_plain hgd fun K hK => ?_
  unfold Oper.wp
  rw [hr]
  exact hK _ _ h
theorem opX {a : Act} {K : Act → World → Prop} {Q : Exit → Act → World → Prop} {W W' : World} {o : Oper} {v : Value} (hr : (execOp a.eval o).run P W = .ok (.value v) W') (h : K (a.put o.dst v) W') : Oper.wp P o a W K Q := by
  unfold Oper.wp
  rw [hr]
  exact h
end

/-- An append as one operation. -/
theorem opN {P : Program} {α : Type} {f : Fl α} {a : Act} {K : Act → World → Prop} {Q : Exit → Act → World → Prop} {W : World} {o : Oper} (s x : Operand) (t e : Nat) (z : Value) (bytes : Nat)
    (ho : o.op = .call { callee := .builtin .append, args := #[s, x], argTypes := #[t, t] })
    (ht : P.underlying t = some (.slice e)) (hinfo : (P.info? e).map (fun i => (i.zero, i.size, i.bytes)) = some (some z, f.sz, bytes)) (hz : z.cells.size = f.sz) (hs0 : 0 < f.sz) (hb0 : 0 < bytes)
    (v : Value) (xs : List α) (y : Value) (ys : List α) (hs : a.eval s = v) (hx : a.eval x = y) (HO : Ow f e W v xs) (HY : Rd f W y ys) (hl : (xs.length + ys.length) * bytes ≤ 140737488355328)
    (h : ∀ v1 w1, Ow f e w1 v1 (xs ++ ys) → Fr (blk v) W w1 → At W v v1 → Ow f e w1 v xs → K (a.put o.dst v1) w1) : Oper.wp P o a W K Q := by
  obtain ⟨v', w', hr, h2, h3, h4, h5⟩ := run_append (f := f) (P := P) W t o.type e z bytes ht hinfo hz hs0 hb0 v xs HO y ys HY hl
  unfold Oper.wp execOp
  simp only [ho, resolve, invoke, builtin, Sem.run_bind, Sem.run_pure, Result.andThen_ok, List.map_toArray, List.map_cons, List.map_nil, hs, hx, hr]
  exact h v' w' h2 h3 h4 h5
/-- One that was just laid. -/
theorem rd_one {α : Type} {f : Fl α} (W : World) (x : α) (cs : Array Value) (hcs : cs = (f.enc x).toArray) (t : TypeId) : Rd f (W.alloc (.cells cs t)) (.slice (some ⟨W.heap.size, 0, none⟩) 1 1) [x] := by
  subst hcs
  refine ⟨_, 1, rfl, by simp, by simp [maxLen], fun _ => ⟨_, rfl, fun i u hu => ?_⟩⟩
  rw [f.cells_one] at hu
  exact heap_new_cells W (f.enc x) t i u hu

/-! ### held against each other -/
theorem part_arr {t : TypeId} (ht : Tryd.prog.underlying t = some (.array 32 5)) (hs : (Tryd.prog.info? t).map (·.size) = some 32) (k : IntKind) (b : BK) (w : World) : (part t (bkC k b) 1).run Tryd.prog w = .ok (Arr.av b.st) w := by
  cases hi : Tryd.prog.info? t with
  | none => simp [hi] at hs
  | some i =>
    have hz : i.size = 32 := by simpa [hi] using hs
    have e : (bkC k b).extract 1 (1 + 32) = (b.st.map vu8).toArray := by
      apply Array.ext'
      have := b.h
      simp [bkC, bkL, List.take_of_length_le, this]
    simp [part, isAgg, run_underlying ht, sizeOf, typeInfo, hi, hz, e, Arr.av]
theorem eq_run {t ts tw : TypeId} {k : IntKind} {f0 f1 : Field} (hu : Tryd.prog.underlying t = some (.struct (Tryd.prog.fieldsOf t))) (hp : Tryd.prog.stoodInHeld t = false) (hf : (Tryd.prog.fieldsOf t).toList = [f0, f1]) (n0 : f0.name ≠ "_") (n1 : f1.name ≠ "_")
    (o0 : f0.offset = 0) (o1 : f1.offset = 1) (t0 : f0.type = tw) (t1 : f1.type = ts) (hk : Tryd.prog.underlying tw = some (.int k)) (pk : Tryd.prog.plainKey tw = true) (ht : Tryd.prog.underlying ts = some (.array 32 5)) (hs : (Tryd.prog.info? ts).map (·.size) = some 32) (a b : BK) (d : Nat) (w : World) :
    (Op.equalIn (d + 3) t (.agg (bkC k a)) (.agg (bkC k b))).run Tryd.prog w = .ok (decide (a = b)) w := by
  obtain ⟨i, hi, _⟩ := Option.map_eq_some_iff.1 infoU8
  have pa := run_part_plain (P := Tryd.prog) w pk (xs := bkC k a) (off := 0) (v := .int k (a.w : Int)) rfl
  have pb := run_part_plain (P := Tryd.prog) w pk (xs := bkC k b) (off := 0) (v := .int k (b.w : Int)) rfl
  have qa := part_arr ht hs k a w
  have qb := part_arr ht hs k b w
  have ea : (Op.equalIn (d + 2) ts (Arr.av a.st) (Arr.av b.st)).run Tryd.prog w = .ok (decide (a.st = b.st)) w := by
    unfold Arr.av
    rw [run_equalIn_array (P := Tryd.prog) w (d + 1) _ _ ht hi, Arr.run_items w d a.st b.st _ (fun j hj => by rw [a.h, b.h]; have := List.mem_range.1 hj; exact ⟨this, this⟩), Arr.all_eq a.st b.st 32 a.h b.h]
  rw [run_equalIn_struct w (d + 2) t _ _ hu hp, hf]
  simp only [Op.eqFields, n0, n1, ne_eq, not_false_eq_true, if_true, Sem.run_bind, o0, o1, t0, t1, pa, pb, qa, qb, Result.andThen_ok, run_equalIn_int w (d + 1) tw k k _ _ hk, ea]
  by_cases hw : a.w = b.w
  · have e1 : ((a.w : Int) == (b.w : Int)) = true := by rw [hw]; simp
    by_cases hst : a.st = b.st
    · have hab : a = b := BK.ext' hw hst
      subst hab
      simp [qa, ea]
    · have hab : a ≠ b := fun e => hst (by rw [e])
      simp [e1, qa, qb, ea, hst, hab]
  · have e1 : ((a.w : Int) == (b.w : Int)) = false := by rw [beq_eq_false_iff_ne]; omega
    have hab : a ≠ b := fun e => hw (by rw [e])
    simp [e1, hab]
set_option maxRecDepth 100000 in
/-- The program's blocks, and the document's. -/
theorem eqP (a b : BK) (d : Nat) (w : World) : (Op.equalIn (d + 3) 101 (.agg (bkC .u32 a)) (.agg (bkC .u32 b))).run Tryd.prog w = .ok (decide (a = b)) w :=
  eq_run (ts := 57) (tw := 87) Tryd.underlying101 (by kernel_rfl) rfl (by decide) (by decide) rfl rfl rfl rfl Tryd.underlying87 (by kernel_rfl) Tryd.underlying57 (by kernel_rfl) a b d w
set_option maxRecDepth 100000 in
theorem eqR (a b : BK) (d : Nat) (w : World) : (Op.equalIn (d + 3) 108 (.agg (bkC .i64 a)) (.agg (bkC .i64 b))).run Tryd.prog w = .ok (decide (a = b)) w :=
  eq_run (ts := 57) (tw := 3) Tryd.underlying108 (by kernel_rfl) rfl (by decide) (by decide) rfl rfl rfl rfl Tryd.underlying3 (by kernel_rfl) Tryd.underlying57 (by kernel_rfl) a b d w
theorem eqlP (a b : BK) (w : World) : (binOp .eql 101 (.agg (bkC .u32 a)) (.agg (bkC .u32 b))).run Tryd.prog w = .ok (.bool (decide (a = b))) w := by
  rw [run_eql_struct, eqP a b 9997 w]; rfl
theorem neqP (a b : BK) (w : World) : (binOp .neq 101 (.agg (bkC .u32 a)) (.agg (bkC .u32 b))).run Tryd.prog w = .ok (.bool (!decide (a = b))) w := by
  rw [run_neq_struct, eqP a b 9997 w]; rfl
theorem neqR (a b : BK) (w : World) : (binOp .neq 108 (.agg (bkC .i64 a)) (.agg (bkC .i64 b))).run Tryd.prog w = .ok (.bool (!decide (a = b))) w := by
  rw [run_neq_struct, eqR a b 9997 w]; rfl
set_option maxRecDepth 100000 in
/-- Built of a number and a sum; a slice of one of them. -/
theorem buildP (b : BK) (W : World) : (Instr.build 101 #[(0, .int .u32 (b.w : Int)), (1, Arr.av b.st)]).run Tryd.prog W = .ok (.agg (bkC .u32 b)) W := by
  have := run_build2 (P := Tryd.prog) (t := 101) (n := 32) Tryd.underlying101 (by kernel_rfl) (by kernel_rfl) (.int .u32 (b.w : Int)) rfl (b.st.map vu8).toArray (by simp [b.h]) W
  unfold Arr.av
  rw [this]
  congr 2
  simp [bkC, bkL]
set_option maxRecDepth 100000 in
theorem buildR (b : BK) (W : World) : (Instr.build 108 #[(0, .int .i64 (b.w : Int)), (1, Arr.av b.st)]).run Tryd.prog W = .ok (.agg (bkC .i64 b)) W := by
  have := run_build2 (P := Tryd.prog) (t := 108) (n := 32) Tryd.underlying108 (by kernel_rfl) (by kernel_rfl) (.int .i64 (b.w : Int)) rfl (b.st.map vu8).toArray (by simp [b.h]) W
  unfold Arr.av
  rw [this]
  congr 2
  simp [bkC, bkL]
theorem oneP (b : BK) (W : World) : (Instr.buildSlice 24 1 #[(0, .agg (bkC .u32 b))]).run Tryd.prog W = .ok (.slice (some ⟨W.heap.size, 0, none⟩) 1 1) (W.alloc (.cells (bkC .u32 b) 101)) :=
  run_bs1 (s := 33) Tryd.underlying24 (by kernel_rfl) (by kernel_rfl) (by decide) (by decide) _ (bkC_size _ _) W
theorem oneR (b : BK) (W : World) : (Instr.buildSlice 31 1 #[(0, .agg (bkC .i64 b))]).run Tryd.prog W = .ok (.slice (some ⟨W.heap.size, 0, none⟩) 1 1) (W.alloc (.cells (bkC .i64 b) 108)) :=
  run_bs1 (s := 33) Tryd.underlying31 (by kernel_rfl) (by kernel_rfl) (by decide) (by decide) _ (bkC_size _ _) W
/-- A []Block that is read: where each lies. -/
theorem rd_at {k : IntKind} {w : World} {A : Option Addr} {n c : Nat} {bs : List BK} (h : Rd (fBk k) w (.slice A n c) bs) (j : Nat) (b : BK) (hb : bs[j]? = some b) : ∃ ad, A = some ad ∧ Cv w (ad.add (j * 33)) (bkL k b) := by
  obtain ⟨A', c', he, _, _, hc⟩ := h
  injection he with e1 _ _
  subst e1
  have hj := (List.getElem?_eq_some_iff.1 hb).1
  obtain ⟨ad, rfl, h2⟩ := hc (by omega)
  refine ⟨ad, rfl, fun i v hv => ?_⟩
  rw [add_add]
  have hi : i < 33 := by have := (List.getElem?_eq_some_iff.1 hv).1; rw [bkL_length] at this; exact this
  refine h2 _ _ ?_
  have := (fBk k).cells_get bs j b hb i hi
  rw [show j * (fBk k).sz + i = j * 33 + i from rfl] at this
  rw [this]
  exact hv
theorem infoP : (Tryd.prog.info? 101).map (fun i => (i.zero, i.size, i.bytes)) = some (some (.agg (bkC .u32 zBK)), 33, 36) := by kernel_rfl
theorem infoR : (Tryd.prog.info? 108).map (fun i => (i.zero, i.size, i.bytes)) = some (some (.agg (bkC .i64 zBK)), 33, 40) := by kernel_rfl
end Go.Proofs.YtanbddaecojijaaDoor.Bk
