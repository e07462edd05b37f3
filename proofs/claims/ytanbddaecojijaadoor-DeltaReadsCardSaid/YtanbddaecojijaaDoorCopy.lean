/- copy of bytes into a block; literals of slices. -/
import Derived.Test.YtanbddaecojijaaDoorBd
import Derived.Test.YtanbddaecojijaaDoorVs
import Derived.Laws.CopyRow
set_option linter.unusedVariables false
set_option linter.unusedSimpArgs false
namespace Go.Proofs.YtanbddaecojijaaDoor.PB
open Go.RowKit Go.Proofs.YtanbddaecojijaaDoorW.PrintWords Go.Proofs.YtanbddaecojijaaDoor.B
theorem sizeU8 : (Tryd.prog.info? 5).map (·.size) = some 1 := by kernel_rfl
theorem copy_bd (W : World) (g t : Nat) (ds : List UInt8) (hd : Bd W g t ds) (o dl dc : Nat) (v : Value) (ss : List UInt8) (hv : RdB W v ss) (k : Nat) (hk : min ss.length dl = k) (hfit : o + k ≤ ds.length) (ty : TypeId) :
    ∃ W', (Builtin.copy_ #[22, 22] ty #[.slice (some ⟨g, o, none⟩) dl dc, v]).run Tryd.prog W = .ok (goInt (k : Int)) W' ∧ Bd W' g t (ds.take o ++ ss.take k ++ ds.drop (o + k)) ∧ Fr (one g) W W' := by
  obtain ⟨A, c, rfl, hc, hm, hcell⟩ := hv
  rcases A with _ | a
  · have h0 : ss = [] := by
      rcases Nat.eq_zero_or_pos ss.length with h | h
      · exact List.eq_nil_of_length_eq_zero h
      · obtain ⟨_, h, _⟩ := hcell h
        cases h
    subst h0
    obtain rfl : k = 0 := by simpa using hk.symm
    obtain ⟨i, hi, hz⟩ := Option.map_eq_some_iff.1 sizeU8
    refine ⟨W, ?_, by simpa using hd, Fr.refl _ _⟩
    simp [Builtin.copy_, run_underlying Tryd.underlying22, Builtin.lenOf, Builtin.firstCells, sizeOf, typeInfo, hi, storeCells]
  · have hlk : ((ss.take k).map vu8).length = k := by simp; omega
    have hl : ((ss.take k).map vu8).length = Nat.min ss.length dl := by rw [hlk, ← hk]
    have hcp := run_copy_row (P := Tryd.prog) W 22 22 ty 5 g o dl dc a ss.length c (ds.map vu8).toArray t ((ss.take k).map vu8) Tryd.underlying22 sizeU8 hd hl ?_ (by rw [hlk]; simpa using hfit) (fun u hu => u8.cells_oneCell (ss.take k) u (by rw [u8_cells]; exact hu))
    · rw [hlk] at hcp
      refine ⟨_, hcp, ?_, ⟨rfl, rfl, rfl, by simp, fun q _ hq => setRow_other W g q _ hq⟩⟩
      unfold Bd
      rw [setRow_heap W g _ _ t _ hd]
      simp [List.map_append, List.map_take, List.map_drop]
    · intro j u hu
      have hj : j < ss.length := by
        have := (List.getElem?_eq_some_iff.1 hu).1
        simp at this
        omega
      obtain ⟨ad, e, h⟩ := hcell (by omega)
      injection e with e
      subst e
      refine h j u ?_
      rw [u8_cells]
      rw [List.getElem?_map, List.getElem?_take] at hu
      split at hu
      · rw [List.getElem?_map]; exact hu
      · cases hu
/-- One operation: copy. -/
theorem opCopyB {a : Act} {K : Act → World → Prop} {Q : Exit → Act → World → Prop} {W : World} {o : Oper} (d s : Operand) (v u : Value) (x : Value) (W' : World)
    (ho : o.op = .call { callee := .builtin .copy, args := #[d, s], argTypes := #[22, 22] })
    (hs : a.eval d = v) (hx : a.eval s = u) (hr : (Builtin.copy_ #[22, 22] o.type #[v, u]).run Tryd.prog W = .ok x W')
    (h : K (a.put o.dst x) W') : Oper.wp Tryd.prog o a W K Q := by
  unfold Oper.wp execOp
  simp only [ho, resolve, invoke, builtin, Sem.run_bind, Sem.run_pure, Result.andThen_ok, List.map_toArray, List.map_cons, List.map_nil, hs, hx, hr]
  exact h
section
variable {ops : Array Oper} {rest : List Oper} {o : Oper} {a : Act} {Q : Exit → Act → World → Prop} {W : World}
theorem lsCopyB (d s : Operand) (v u : Value) (x : Value) (W' : World) (hgd : o.guard = none)
    (ho : o.op = .call { callee := .builtin .copy, args := #[d, s], argTypes := #[22, 22] })
    (hs : a.eval d = v) (hx : a.eval s = u) (hr : (Builtin.copy_ #[22, 22] o.type #[v, u]).run Tryd.prog W = .ok x W')
    (h : wpList Tryd.prog ops Q rest (a.put o.dst x) W') : wpList Tryd.prog ops Q (o :: rest) a W :=
  wpList_plain hgd fun K hK => opCopyB d s v u x W' ho hs hx hr (hK _ _ h)
end
/-- [][]byte{..}, just laid. -/
theorem rdV_lit (W : World) (ss : List Sl) (ps : List (List UInt8)) (hl : ss.length = ps.length) (hm : ss.length ≤ maxLen) (h : ∀ j s, ss[j]? = some s → RdB W s.v (ps.getD j [])) (t : TypeId) :
    RdV (W.alloc (.cells (ss.map Sl.v).toArray t)) (.slice (some ⟨W.heap.size, 0, none⟩) ss.length ss.length) ps := by
  have hfr : Fr No W (W.alloc (.cells (ss.map Sl.v).toArray t)) := (Fr.refl _ _).alloc _
  refine ⟨ss, ⟨_, ss.length, rfl, Nat.le_refl _, hm, fun _ => ⟨_, rfl, fun i u hu => ?_⟩⟩, hl, fun j s hs => (h j s hs).no hfr⟩
  rw [vsl_cells] at hu
  exact heap_new_cells W _ t i u hu
theorem ow_lit {α : Type} (f : Fl α) (e : Nat) (W : World) (g : Nat) (hg : W.heap.size = g) (xs : List α) (cs : List Value) (hcs : cs = f.cells xs) (hm : xs.length ≤ maxLen) : Ow f e (W.alloc (.cells cs.toArray e)) (.slice (some ⟨g, 0, none⟩) xs.length xs.length) xs := by
  subst hg
  subst hcs
  refine ⟨f.cells_length xs, .inr ⟨W.heap.size, xs.length, _, rfl, Nat.zero_le _, heap_alloc_new W _, Nat.le_refl _, hm, by simp [f.cells_length], ?_⟩⟩
  rw [List.take_of_length_le (by simp [f.cells_length])]
theorem rdV_one (W : World) (A : Option Addr) (n c : Nat) (p : List UInt8) (h : RdB W (.slice A n c) p) (t : TypeId) : RdV (W.alloc (.cells #[.slice A n c] t)) (.slice (some ⟨W.heap.size, 0, none⟩) 1 1) [p] :=
  rdV_lit W [⟨A, n, c⟩] [p] rfl (by simp [maxLen]) (fun j s hs => by
    rcases j with _ | j
    · simp at hs; subst hs; exact h
    · simp at hs) t
theorem rdV_two (W : World) (A A' : Option Addr) (n c n' c' : Nat) (p q : List UInt8) (h : RdB W (.slice A n c) p) (h' : RdB W (.slice A' n' c') q) (t : TypeId) : RdV (W.alloc (.cells #[.slice A n c, .slice A' n' c'] t)) (.slice (some ⟨W.heap.size, 0, none⟩) 2 2) [p, q] :=
  rdV_lit W [⟨A, n, c⟩, ⟨A', n', c'⟩] [p, q] rfl (by simp [maxLen]) (fun j s hs => by
    rcases j with _ | _ | j
    · simp at hs; subst hs; exact h
    · simp at hs; subst hs; exact h'
    · simp at hs) t
theorem rdV_one' (W : World) (g : Nat) (hg : W.heap.size = g) (A : Option Addr) (n c : Nat) (p : List UInt8) (h : RdB W (.slice A n c) p) (t : TypeId) : RdV (W.alloc (.cells #[.slice A n c] t)) (.slice (some ⟨g, 0, none⟩) 1 1) [p] := by
  subst hg; exact rdV_one W A n c p h t
theorem rdV_two' (W : World) (g : Nat) (hg : W.heap.size = g) (A A' : Option Addr) (n c n' c' : Nat) (p q : List UInt8) (h : RdB W (.slice A n c) p) (h' : RdB W (.slice A' n' c') q) (t : TypeId) : RdV (W.alloc (.cells #[.slice A n c, .slice A' n' c'] t)) (.slice (some ⟨g, 0, none⟩) 2 2) [p, q] := by
  subst hg; exact rdV_two W A A' n c n' c' p q h h' t
theorem bd_new (W : World) (g t : Nat) (hg : W.heap.size = g) (xs : List UInt8) : Bd (W.alloc (.cells (xs.map vu8).toArray t)) g t xs := by
  subst hg; exact heap_alloc_new W _
theorem Bd.alloc {w : World} {g t : Nat} {xs : List UInt8} (h : Bd w g t xs) (o : Obj) : Bd (w.alloc o) g t xs := blk_alloc h o
end Go.Proofs.YtanbddaecojijaaDoor.PB
