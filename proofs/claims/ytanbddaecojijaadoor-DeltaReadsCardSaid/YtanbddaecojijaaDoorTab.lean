/- A slice of ints that is read. A table of blocks by their weak sums: the map, what is looked up. Where a block is found: plain. -/
import Derived.Test.YtanbddaecojijaaDoorPB
import Derived.Test.YtanbddaecojijaaDoorRowS
import Derived.Test.YtanbddaecojijaaDoorBlkC
import Derived.Maps.GroupsBeside
import Derived.Maps.Views
set_option linter.unusedVariables false
set_option linter.unusedSimpArgs false
namespace Go.Proofs.YtanbddaecojijaaDoor.PB
open Go.RowKit Go.Proofs.YtanbddaecojijaaDoorW.PrintWords Go.Proofs.YtanbddaecojijaaDoor.B
def vint (z : Int) : Value := .int .i64 z
def fI : Fl Int := Fl.of vint (fun _ => rfl)
theorem fI_cells (xs : List Int) : fI.cells xs = xs.map vint := Fl.of_cells _ _ _
abbrev RdI (w : World) (v : Value) (xs : List Int) : Prop := Rd fI w v xs
/-- The address of an element. -/
theorem ixI {ops : Array Oper} {rest : List Oper} {o : Oper} {a : Act} {Q : Exit → Act → World → Prop} {W : World} (s x : Operand) (ad : Addr) (A : Option Addr) (n c j : Nat) (hgd : o.guard = none) (ho : o.op = .indexAddr 135 s x) (hs : a.eval s = .slice A n c) (hA : A = some ad) (hx : a.eval x = .int .i64 (j : Int)) (hj : j < n)
    (h : wpList Tryd.prog ops Q rest (a.put o.dst (.pointer (some (ad.add j)))) W) : wpList Tryd.prog ops Q (o :: rest) a W := by
  subst hA
  refine stepV (.pointer (some (ad.add j))) hgd ?_ h
  obtain ⟨d, hd, hz⟩ := Option.map_eq_some_iff.1 (show (Tryd.prog.info? 3).map (·.size) = some 1 by kernel_rfl)
  have hu : Tryd.prog.underlying 135 = some (.slice (Tryd.prog.elem 135)) := by simp [Program.elem, Tryd.underlying135]
  have he : Tryd.prog.elem 135 = 3 := by simp [Program.elem, Tryd.underlying135]
  unfold execOp
  simp only [ho, hs, hx, Sem.run_bind, Sem.run_pure, run_indexAt_slice _ _ _ _ _ _ _ hu]
  rw [if_pos (by omega), he]
  simp [sizeOf, typeInfo, hd, hz, Result.andThen]
end Go.Proofs.YtanbddaecojijaaDoor.PB
namespace Go.Proofs.YtanbddaecojijaaDoor.Blk
open Go.RowKit Go.IntWalk Go.ChangeShapes Go.Proofs.YtanbddaecojijaaDoorW.PrintWords Go.Proofs.YtanbddaecojijaaDoor.B Go.Proofs.YtanbddaecojijaaDoor.PB Go.Proofs.YtanbddaecojijaaDoor.SWeak Go.Proofs.YtanbddaecojijaaDoor.Bk Go.Proofs.YtanbddaecojijaaDoor.SBlk

/-- Where blocks with a weak sum stand. -/
def idxL : Nat → List BK → Nat → List Int
  | _, [], _ => []
  | i, b :: bs, n => if b.w = n then (i : Int) :: idxL (i + 1) bs n else idxL (i + 1) bs n
theorem idxL_snoc (b : BK) (n : Nat) : ∀ (bs : List BK) (i : Nat), idxL i (bs ++ [b]) n = idxL i bs n ++ (if b.w = n then [((i + bs.length : Nat) : Int)] else [])
  | [], i => by simp [idxL]
  | c :: bs, i => by
    rw [List.cons_append, idxL, idxL, idxL_snoc b n bs (i + 1), List.length_cons, show i + 1 + bs.length = i + (bs.length + 1) by omega]
    split <;> simp
def idx (bs : List BK) (n : Nat) : List Int := idxL 0 bs n
theorem idx_snoc (bs : List BK) (b : BK) (n : Nat) : idx (bs ++ [b]) n = idx bs n ++ (if b.w = n then [(bs.length : Int)] else []) := by
  have := idxL_snoc b n bs 0
  rw [Nat.zero_add] at this
  exact this
theorem idxL_le (n : Nat) : ∀ (bs : List BK) (i : Nat), (idxL i bs n).length ≤ bs.length
  | [], _ => Nat.le_refl _
  | b :: bs, i => by
    have := idxL_le n bs (i + 1)
    rw [idxL]
    split <;> simp <;> omega
theorem idxL_mem (n : Nat) : ∀ (bs : List BK) (i : Nat) (z : Int), z ∈ idxL i bs n → ∃ j, z = ((i + j : Nat) : Int) ∧ ∃ b, bs[j]? = some b ∧ b.w = n
  | [], _, z, h => by cases h
  | b :: bs, i, z, h => by
    rw [idxL] at h
    split at h
    · rename_i hb
      rcases List.mem_cons.1 h with rfl | h
      · exact ⟨0, rfl, b, rfl, hb⟩
      · obtain ⟨j, rfl, c, h1, h2⟩ := idxL_mem n bs (i + 1) z h
        exact ⟨j + 1, by rw [show i + (j + 1) = i + 1 + j by omega], c, h1, h2⟩
    · obtain ⟨j, rfl, c, h1, h2⟩ := idxL_mem n bs (i + 1) z h
      exact ⟨j + 1, by rw [show i + (j + 1) = i + 1 + j by omega], c, h1, h2⟩
def datI (zs : List Int) : DataW Unit := if zs = [] then .nil else .slice (lits .i64 zs) []
theorem lits_inj {zs ys : List Int} (h : (lits .i64 zs : List (DataW Unit)) = lits .i64 ys) : zs = ys := by
  unfold lits at h
  exact (List.map_inj_right (fun a b hab => by injection hab with hab; injection hab)).1 h
theorem datI_row {v : Value} {zs ys : List Int} {w : World} {base : Nat} {e : TypeId} (ho : w.ownsInts base e .i64 v zs) (h : datI ys = rowDatum .i64 v zs) : zs = ys := by
  unfold datI at h
  rcases ho.datum (H := Unit) with ⟨h1, h2⟩ | h1
  · rw [h1] at h
    split at h
    · rename_i hy; rw [h2, hy]
    · cases h
  · rw [h1] at h
    split at h
    · cases h
    · injection h with h; exact (lits_inj h).symm

/-- The map of the positions: block mb, its rows from 'base' on. -/
def Grp (w : World) (mb base : Nat) (bs : List BK) : Prop := ∃ D : DataW Unit, w.ownsGroups Tryd.prog 87 base 3 .i64 mb bs.length D ∧ Maps.IsMap D ∧ ∀ n : Nat, n < 4294967296 → D.atKey (.int .u32 (n : Int)) .nil = datI (idx bs n)
theorem grown_of {w w' : World} {v : Value} (h : Fr (blk v) w w') : w.grownBy w' v.ownBlock := ⟨h.os, h.tape, h.output, h.size, fun k hk hn => h.block k hk (fun hb => hn hb.symm)⟩
theorem grown_no {w w' : World} (h : Fr No w w') : w.grownBy w' none := ⟨h.os, h.tape, h.output, h.size, fun k hk _ => h.block k hk id⟩
theorem fr_grown {w w' : World} {b : Nat} (h : w.grownBy w' (some b)) : Fr (one b) w w' := ⟨h.os, h.tape, h.output, h.size, fun k hk hn => h.block k hk (fun e => hn (by injection e))⟩
theorem Grp.no {w w' : World} {mb base : Nat} {bs : List BK} (h : Grp w mb base bs) (k : Fr No w w') : Grp w' mb base bs := by
  obtain ⟨D, h1, h2, h3⟩ := h
  refine ⟨D, h1.kept (grown_no k) (by simp) (fun _ _ _ x _ => ?_), h2, h3⟩
  cases x.val.ownBlock <;> simp
theorem Grp.new (w : World) : Grp (w.alloc (.map #[] 0)) w.heap.size (w.heap.size + 1) [] :=
  ⟨.map [], World.ownsGroups_made w Tryd.prog 87 3 .i64, Maps.isMap_empty, fun n _ => rfl⟩
theorem lawU32 : Maps.Keyed Tryd.prog 87 := Maps.int_keyed Tryd.underlying87
theorem zeroI (w : World) : (zeroValue 135).run Tryd.prog w = .ok (.slice none 0 0) w := by kernel_rfl
theorem ow_of_ints {w : World} {base : Nat} {v : Value} {zs : List Int} (h : w.ownsInts base 3 .i64 v zs) : Ow fI 3 w v zs := by
  obtain ⟨⟨h1, h2⟩, h3⟩ := h
  unfold Ow
  rw [fI_cells]
  refine ⟨h1, ?_⟩
  rcases h2 with h2 | ⟨g, cap, cur, r1, r2, r⟩
  · exact .inl h2
  · exact .inr ⟨g, cap, cur, r1, Nat.zero_le _, r⟩
theorem ints_of_ow {w : World} {base : Nat} {v : Value} {zs : List Int} (h : Ow fI 3 w v zs) (hb : ∀ q, v.ownBlock = some q → base ≤ q) (hz : ∀ z ∈ zs, (Lit.int .i64 z).wf = true) : w.ownsInts base 3 .i64 v zs := by
  unfold Ow at h
  rw [fI_cells] at h
  obtain ⟨h1, h2⟩ := h
  refine ⟨⟨h1, ?_⟩, hz⟩
  rcases h2 with h2 | ⟨g, cap, cur, rfl, r2, r⟩
  · exact .inl h2
  · exact .inr ⟨g, cap, cur, rfl, hb g rfl, r⟩
set_option maxRecDepth 100000 in
/-- The list at a weak sum; and how one more is put there. -/
theorem Grp.at_ {w : World} {mb base : Nat} {bs : List BK} (h : Grp w mb base bs) (n : Nat) (hn : n < 4294967296) (hl : bs.length ≤ 1000000) :
    ∃ v, (Instr.lookup 132 (.map (some mb)) (.int .u32 (n : Int)) false).run Tryd.prog w = .ok v w ∧ Ow fI 3 w v (idx bs n) ∧ (∀ q, v.ownBlock = some q → base ≤ q) ∧
      ∀ (w1 : World) (v' : Value) (b : BK), b.w = n → Fr (blk v) w w1 → Ow fI 3 w1 v' (idx bs n ++ [(bs.length : Int)]) → At w v v' → base ≤ w.heap.size → ∃ w2, (Instr.mapUpdate 132 (.map (some mb)) (.int .u32 (n : Int)) v').run Tryd.prog w1 = .ok () w2 ∧ Grp w2 mb base (bs ++ [b]) ∧ Fr (one mb) w1 w2 := by
  obtain ⟨D, h1, h2, h3⟩ := h
  have hkey : keyOf Tryd.prog 87 (.int .u32 (n : Int)) = some (.int .u32 (n : Int)) := Maps.keyOf_int_mk Tryd.underlying87 (by simp [Lit.wf, IntKind.min, IntKind.max, IntKind.signed, IntKind.bits]; omega)
  obtain ⟨v, zs, hrun, hat, hoi, hzl, hback⟩ := h1.at (t := 132) (E := 135) lawU32 Tryd.underlying132 (zeroI w) (by unfold maxLen; omega) hkey
  have hzs : zs = idx bs n := datI_row hoi ((h3 n hn).symm.trans hat)
  subst hzs
  refine ⟨v, hrun, ow_of_ints hoi, fun q hq => (hoi.1.lt q hq).1, fun w1 v' b hb hF ho hA hbase => ?_⟩
  have hb' : ∀ q, v'.ownBlock = some q → base ≤ q := fun q hq => by
    rcases hA with h9 | ⟨q', h9, h10⟩
    · rw [hq] at h9; exact (hoi.1.lt q h9.symm).1
    · rw [hq] at h9; injection h9 with h9; omega
  have hwf : ∀ z ∈ idx bs n ++ [(bs.length : Int)], (Lit.int .i64 z).wf = true := fun z hz => by
    rcases List.mem_append.1 hz with hz | hz
    · exact hoi.2 z hz
    · obtain rfl : z = (bs.length : Int) := by simpa using hz
      simp [Lit.wf, IntKind.min, IntKind.max, IntKind.signed, IntKind.bits]; omega
  obtain ⟨w2, r1, r2, r3⟩ := hback w1 v' (idx bs n ++ [(bs.length : Int)]) (grown_of hF) (ints_of_ow ho hb' hwf) (by simp; omega) hA
  refine ⟨w2, r1, ⟨_, by rw [List.length_append]; exact r2, h2.put _ _, fun m hm => ?_⟩, fr_grown r3⟩
  have hrow : rowDatum (H := Unit) .i64 v' (idx bs n ++ [(bs.length : Int)]) = .slice (lits .i64 (idx bs n ++ [(bs.length : Int)])) [] := (ints_of_ow ho hb' hwf).datum_pos (by simp)
  rw [idx_snoc]
  by_cases hmn : m = n
  · subst hmn
    rw [Maps.atKey_put_same h2 (by trivial), hrow, if_pos hb]
    unfold datI
    rw [if_neg (by simp)]
  · rw [Maps.atKey_put_other (fun e => hmn (by injection e with _ e; omega)), h3 m hm, if_neg (by rw [hb]; exact fun e => hmn e.symm), List.append_nil]
end Go.Proofs.YtanbddaecojijaaDoor.Blk
namespace Go.Proofs.YtanbddaecojijaaDoor.Blk
open Go.Proofs.YtanbddaecojijaaDoor.Bk Go.Proofs.YtanbddaecojijaaDoor.SBlk

/-- Whether the i-th block is the one with these sums and so many bytes. -/
def hit (s L : Nat) (t : BK) (m : Nat) (i : Nat) (b : BK) : Bool := decide (min s (L - i * s) = m) && decide (b = t)
def findL (p : Nat → BK → Bool) : Nat → List BK → Option Nat
  | _, [] => none
  | i, b :: bs => if p i b = true then some i else findL p (i + 1) bs
def hitZ (p : Nat → BK → Bool) (bs : List BK) (z : Int) : Bool := match bs[z.toNat]? with | some b => p z.toNat b | none => false
theorem find_idxL (p : Nat → BK → Bool) (n : Nat) (hp : ∀ i b, p i b = true → b.w = n) : ∀ (bs pre : List BK), (idxL pre.length bs n).find? (hitZ p (pre ++ bs)) = (findL p pre.length bs).map (fun i : Nat => (i : Int))
  | [], pre => rfl
  | b :: bs, pre => by
    have ih := find_idxL p n hp bs (pre ++ [b])
    rw [List.length_append, List.length_singleton, List.append_assoc, List.singleton_append] at ih
    have hz : hitZ p (pre ++ b :: bs) (pre.length : Int) = p pre.length b := by unfold hitZ; simp
    rw [idxL, findL]
    by_cases hb : b.w = n
    · rw [if_pos hb, List.find?_cons, hz]
      cases h : p pre.length b
      · simp only [Bool.false_eq_true, if_false]; exact ih
      · simp
    · rw [if_neg hb, ih, if_neg (fun h => hb (hp _ _ h))]
theorem find_idx (p : Nat → BK → Bool) (n : Nat) (hp : ∀ i b, p i b = true → b.w = n) (bs : List BK) : (idx bs n).find? (hitZ p bs) = (findL p 0 bs).map (fun i : Nat => (i : Int)) := find_idxL p n hp bs []
theorem hit_w {s L : Nat} {t : BK} {m i : Nat} {b : BK} (h : hit s L t m i b = true) : b.w = t.w := by
  unfold hit at h
  simp at h
  rw [h.2]
/-- In steps over the places. -/
theorem find_none {α : Type} {q : α → Bool} {zs : List α} (h : ∀ (j : Nat) (z : α), zs[j]? = some z → q z = false) : zs.find? q = none := by
  rw [List.find?_eq_none]
  intro z hz
  obtain ⟨j, hj⟩ := List.getElem?_of_mem hz
  simp [h j z hj]
theorem find_some {α : Type} {q : α → Bool} {zs : List α} {j : Nat} {z : α} (hz : zs[j]? = some z) (hq : q z = true) (h : ∀ (k : Nat) (y : α), k < j → zs[k]? = some y → q y = false) : zs.find? q = some z := by
  induction zs generalizing j with
  | nil => simp at hz
  | cons x xs ih =>
    cases j with
    | zero => simp at hz; subst hz; simp [hq]
    | succ j =>
      rw [List.find?_cons, h 0 x (by omega) rfl]
      simp only [List.getElem?_cons_succ] at hz
      exact ih hz (fun k y hk hy => h (k + 1) y (by omega) hy)
/-- What is told of a place that may be none. -/
def fnd (r : Option Nat) : Int × Bool := match r with | some i => ((i : Int), true) | none => (0, false)
theorem findL_lt (p : Nat → BK → Bool) : ∀ (bs : List BK) (i j : Nat), findL p i bs = some j → i ≤ j ∧ j < i + bs.length
  | [], _, _, h => by cases h
  | b :: bs, i, j, h => by
    rw [findL] at h
    split at h
    · injection h with h; subst h; simp
    · have := findL_lt p bs (i + 1) j h
      simp only [List.length_cons]
      omega
end Go.Proofs.YtanbddaecojijaaDoor.Blk
