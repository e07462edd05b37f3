/- Words that all later texts use: what a call keeps ('Fr'), a slice that is read ('Rd'), a row of the call's own ('Ow'), append, string(b), cuts. No program. -/
import Derived.Test.YtanbddaecojijaaDoorWWords
set_option linter.unusedVariables false
set_option linter.unusedSimpArgs false
namespace Go.Proofs.YtanbddaecojijaaDoor.B
open Go.RowKit Go.Proofs.YtanbddaecojijaaDoorW.PrintWords

/-! ### what a call keeps -/
def No : Nat → Prop := fun _ => False
def blk (v : Value) : Nat → Prop := fun k => v.ownBlock = some k
def one (g : Nat) : Nat → Prop := fun k => k = g

/-- Old blocks but those of S are as they were. -/
structure Fr (S : Nat → Prop) (w w' : World) : Prop where
  os : w'.os = w.os
  tape : w'.tape = w.tape
  output : w'.output = w.output
  size : w.heap.size ≤ w'.heap.size
  block : ∀ k, k < w.heap.size → ¬ S k → w'.heap[k]? = w.heap[k]?

theorem Fr.refl (S : Nat → Prop) (w : World) : Fr S w w := ⟨rfl, rfl, rfl, Nat.le_refl _, fun _ _ _ => rfl⟩
theorem Fr.mono {S T : Nat → Prop} {w w' : World} (h : Fr S w w') (hs : ∀ k, k < w.heap.size → S k → T k) : Fr T w w' :=
  ⟨h.os, h.tape, h.output, h.size, fun k hk hn => h.block k hk (fun hk' => hn (hs k hk hk'))⟩
theorem Fr.trans {S T : Nat → Prop} {a b c : World} (h : Fr S a b) (k : Fr T b c) (hs : ∀ k, k < a.heap.size → T k → S k) : Fr S a c :=
  ⟨k.os.trans h.os, k.tape.trans h.tape, k.output.trans h.output, Nat.le_trans h.size k.size,
    fun i hi hn => (k.block i (Nat.lt_of_lt_of_le hi h.size) (fun ht => hn (hs i hi ht))).trans (h.block i hi hn)⟩
theorem Fr.none {S : Nat → Prop} {a b c : World} (h : Fr S a b) (k : Fr No b c) : Fr S a c := h.trans k (fun _ _ h => h.elim)
theorem Fr.alloc {S : Nat → Prop} {w W : World} (h : Fr S w W) (o : Obj) : Fr S w (W.alloc o) :=
  h.none ⟨rfl, rfl, rfl, by simp, fun k hk _ => Below.heap_alloc W o k hk⟩
theorem Fr.drew {S : Nat → Prop} {w W : World} (h : Fr S w W) : Fr S w W.drew := ⟨h.os, h.tape, h.output, h.size, h.block⟩
theorem Fr.drewN {S : Nat → Prop} {w W : World} (h : Fr S w W) (n : Nat) : Fr S w (W.drewN n) := ⟨h.os, h.tape, h.output, h.size, h.block⟩
theorem Fr.setCell {S : Nat → Prop} {w W : World} (h : Fr S w W) {p : Addr} (hp : S p.block ∨ w.heap.size ≤ p.block) (u : Value) : Fr S w (W.setCell p u) :=
  h.trans (T := one p.block) ⟨rfl, rfl, rfl, by simp [World.setCell], fun i _ hn => Below.heap_setCell W p u i hn⟩
    (fun k hk e => by rcases hp with hp | hp; · rw [show k = p.block from e]; exact hp
                      · exact absurd hk (by rw [show k = p.block from e]; omega))
theorem Fr.below {w W : World} (h : Fr No w W) : Below w.heap.size w W := ⟨h.os, h.tape, h.output, h.size, fun k hk => h.block k hk id⟩
theorem Fr.ofBelow {w W : World} (h : Below w.heap.size w W) (S : Nat → Prop) : Fr S w W := ⟨h.os, h.tape, h.output, h.size, fun k hk _ => h.block k hk⟩
theorem Fr.ofGrown {S : Nat → Prop} {w W : World} {row : Option Nat} (h : w.grownBy W row) (hr : ∀ k, row = some k → S k) : Fr S w W :=
  ⟨h.os, h.tape, h.output, h.size, fun k hk hn => h.block k hk (fun e => hn (hr k e.symm))⟩
theorem Fr.cell {S : Nat → Prop} {w W : World} (h : Fr S w W) {a : Addr} {v : Value} (hc : w.cell? a = some v) (hn : ¬ S a.block) : W.cell? a = some v :=
  (World.cell?_of_block (h.block a.block (World.block_lt_of_cell? w a hc) hn)).trans hc
theorem Fr.heap {S : Nat → Prop} {w W : World} (h : Fr S w W) {k : Nat} {o : Obj} (hc : w.heap[k]? = some o) (hn : ¬ S k) : W.heap[k]? = some o :=
  (h.block k (Array.getElem?_eq_some_iff.1 hc).1 hn).trans hc
/-- For the walk: cells and marks of old blocks read as before. -/
theorem Fr.rules {w W : World} (h : Fr No w W) : (∀ b o, b < w.heap.size → W.cell? ⟨b, o, .none⟩ = w.cell? ⟨b, o, .none⟩) ∧ (∀ b o, b < w.heap.size → W.frozen? ⟨b, o, .none⟩ = w.frozen? ⟨b, o, .none⟩) :=
  ⟨fun b o hb => World.cell?_of_block (h.block b hb id), fun b o hb => World.frozen?_of_block (h.block b hb id)⟩

/-! ### elements: their cells -/
structure Fl (α : Type) where
  sz : Nat
  enc : α → List Value
  len : ∀ a, (enc a).length = sz
  one : ∀ a, ∀ u ∈ enc a, u.oneCell' = true

namespace Fl
variable {α : Type} (f : Fl α)
def cells (xs : List α) : List Value := xs.flatMap f.enc
@[simp] theorem cells_nil : f.cells [] = [] := rfl
theorem cells_cons (x : α) (xs : List α) : f.cells (x :: xs) = f.enc x ++ f.cells xs := by simp [cells]
theorem cells_append (xs ys : List α) : f.cells (xs ++ ys) = f.cells xs ++ f.cells ys := by simp [cells]
theorem cells_one (x : α) : f.cells [x] = f.enc x := by simp [cells]
theorem cells_length (xs : List α) : (f.cells xs).length = xs.length * f.sz := by
  induction xs with
  | nil => simp
  | cons x xs ih => rw [cells_cons, List.length_append, ih, f.len, List.length_cons, Nat.succ_mul, Nat.add_comm]
theorem cells_oneCell (xs : List α) : ∀ u ∈ f.cells xs, u.oneCell' = true := by
  intro u hu
  obtain ⟨x, _, hx⟩ := List.mem_flatMap.1 hu
  exact f.one x u hx
theorem cells_take (xs : List α) (n : Nat) : f.cells (xs.take n) = (f.cells xs).take (n * f.sz) := by
  induction xs generalizing n with
  | nil => simp
  | cons x xs ih =>
    cases n with
    | zero => simp
    | succ n =>
      rw [List.take_succ_cons, cells_cons, cells_cons, ih, List.take_append]
      have : (f.enc x).length = f.sz := f.len x
      rw [List.take_of_length_le (l := f.enc x) (by rw [this, Nat.succ_mul]; omega), this, Nat.succ_mul, Nat.add_sub_cancel]
theorem cells_drop (xs : List α) (n : Nat) : f.cells (xs.drop n) = (f.cells xs).drop (n * f.sz) := by
  induction xs generalizing n with
  | nil => simp
  | cons x xs ih =>
    cases n with
    | zero => simp
    | succ n =>
      rw [List.drop_succ_cons, cells_cons, ih, List.drop_append]
      have : (f.enc x).length = f.sz := f.len x
      rw [List.drop_of_length_le (l := f.enc x) (by rw [this, Nat.succ_mul]; omega), this, Nat.succ_mul, Nat.add_sub_cancel, List.nil_append]
theorem cells_get (xs : List α) (j : Nat) (x : α) (h : xs[j]? = some x) (i : Nat) (hi : i < f.sz) : (f.cells xs)[j * f.sz + i]? = (f.enc x)[i]? := by
  induction xs generalizing j with
  | nil => simp at h
  | cons y xs ih =>
    rw [cells_cons]
    cases j with
    | zero =>
      simp at h
      subst h
      rw [Nat.zero_mul, Nat.zero_add, List.getElem?_append_left (by rw [f.len]; exact hi)]
    | succ j =>
      rw [List.getElem?_append_right (by rw [f.len, Nat.succ_mul]; omega), f.len, Nat.succ_mul, show j * f.sz + f.sz + i - f.sz = j * f.sz + i by omega]
      exact ih j (by simpa using h)
theorem cells_set (xs : List α) (j : Nat) (x : α) (h : j < xs.length) : f.cells (xs.set j x) = (f.cells xs).take (j * f.sz) ++ f.enc x ++ (f.cells xs).drop ((j + 1) * f.sz) := by
  rw [← cells_take, ← cells_drop, List.set_eq_take_append_cons_drop, if_pos h, cells_append, cells_cons, List.append_assoc]
end Fl

/-- One cell an element. -/
def Fl.of {α : Type} (enc : α → Value) (h : ∀ x, (enc x).oneCell' = true) : Fl α := ⟨1, fun x => [enc x], fun _ => rfl, fun x u hu => by simp at hu; subst hu; exact h x⟩
theorem Fl.of_cells {α : Type} (enc : α → Value) (h : ∀ x, (enc x).oneCell' = true) (xs : List α) : (Fl.of enc h).cells xs = xs.map enc := by
  induction xs with
  | nil => rfl
  | cons x xs ih => rw [Fl.cells_cons, ih]; rfl
abbrev vu8 (b : UInt8) : Value := .int .u8 (b.toNat : Int)
def u8 : Fl UInt8 := Fl.of vu8 (fun _ => rfl)
theorem u8_cells (xs : List UInt8) : u8.cells xs = xs.map vu8 := Fl.of_cells _ _ _
theorem u8_sz : u8.sz = 1 := rfl

/-! ### a slice that is read -/
section
variable {α : Type} {f : Fl α} {w w' : World} {v : Value} {xs : List α}
def Rd (f : Fl α) (w : World) (v : Value) (xs : List α) : Prop :=
  ∃ A c, v = .slice A xs.length c ∧ xs.length ≤ c ∧ c ≤ maxLen ∧ (0 < xs.length → ∃ ad, A = some ad ∧ ∀ i u, (f.cells xs)[i]? = some u → w.cell? (ad.add i) = some u)

theorem Rd.nil (f : Fl α) (w : World) : Rd f w (.slice none 0 0) [] := ⟨none, 0, rfl, by simp, by simp, fun h => by simp at h⟩
theorem Rd.fr {S : Nat → Prop} (h : Rd f w v xs) (k : Fr S w w') (hs : 0 < xs.length → ∀ b, v.ownBlock = some b → ¬ S b) : Rd f w' v xs := by
  obtain ⟨A, c, rfl, h1, h2, h3⟩ := h
  refine ⟨A, c, rfl, h1, h2, fun hn => ?_⟩
  obtain ⟨ad, rfl, hc⟩ := h3 hn
  refine ⟨ad, rfl, fun i u hu => k.cell (hc i u hu) ?_⟩
  rw [add_block]
  exact hs hn _ rfl
theorem Rd.no (h : Rd f w v xs) (k : Fr No w w') : Rd f w' v xs := h.fr k (fun _ _ _ => id)
theorem Rd.len_le (h : Rd f w v xs) : xs.length ≤ 9223372036854775807 := by
  obtain ⟨A, c, rfl, h1, h2, h3⟩ := h
  simp only [maxLen] at h2
  omega
/-- Where a slice that has elements lies. -/
theorem Rd.lt (hs : 0 < f.sz) (h : Rd f w v xs) (hn : 0 < xs.length) : ∀ b, v.ownBlock = some b → b < w.heap.size := by
  obtain ⟨A, c, rfl, h1, h2, h3⟩ := h
  obtain ⟨ad, rfl, hc⟩ := h3 hn
  intro b hb
  have hb' : ad.block = b := by simpa [Value.ownBlock] using hb
  have hl : 0 < (f.cells xs).length := by rw [f.cells_length]; exact Nat.mul_pos hn hs
  have := World.block_lt_of_cell? w _ (hc 0 _ (List.getElem?_eq_getElem hl))
  rw [add_block] at this
  omega
end

/-- Cuts of a slice that is read. -/
theorem Rd.take {α : Type} {f : Fl α} {w : World} {A : Option Addr} {c : Nat} {xs : List α} (h : Rd f w (.slice A xs.length c) xs) (k : Nat) (hk : k ≤ xs.length) : Rd f w (.slice A k c) (xs.take k) := by
  obtain ⟨A', c', he, h1, h2, h3⟩ := h
  injection he with e1 _ e3
  subst e1
  subst e3
  have hl : (xs.take k).length = k := by simp; omega
  refine ⟨A, c, by rw [hl], by omega, h2, fun hn => ?_⟩
  obtain ⟨ad, hA, hc⟩ := h3 (by omega)
  refine ⟨ad, hA, fun i u hu => hc i u ?_⟩
  rw [f.cells_take] at hu
  rw [List.getElem?_take] at hu
  split at hu
  · exact hu
  · cases hu

/-! ### a row of the call's own -/
section
variable {α : Type} {f : Fl α} {e : Nat} {w w' : World} {v : Value} {xs : List α}
def Ow (f : Fl α) (e : Nat) (w : World) (v : Value) (xs : List α) : Prop := w.ownsRow 0 e f.sz v xs.length (f.cells xs)
theorem Ow.nil (f : Fl α) (e : Nat) (w : World) : Ow f e w (.slice none 0 0) [] := by
  unfold Ow; simpa using World.ownsRow_nil w 0 e f.sz
theorem Ow.form (h : Ow f e w v xs) : ∃ A c, v = .slice A xs.length c := by
  rcases h.2 with ⟨rfl, h0⟩ | ⟨g, cap, cur, rfl, _⟩
  · exact ⟨_, _, by rw [h0]⟩
  · exact ⟨_, _, rfl⟩
theorem Ow.fr {S : Nat → Prop} (h : Ow f e w v xs) (k : Fr S w w') (hs : ∀ b, v.ownBlock = some b → ¬ S b) : Ow f e w' v xs := by
  refine ⟨h.1, ?_⟩
  rcases h.2 with h2 | ⟨g, cap, cur, rfl, hg, hh, r⟩
  · exact .inl h2
  · exact .inr ⟨g, cap, cur, rfl, hg, k.heap hh (hs g rfl), r⟩
theorem Ow.no (h : Ow f e w v xs) (k : Fr No w w') : Ow f e w' v xs := h.fr k (fun _ _ => id)
theorem Ow.lt (h : Ow f e w v xs) : ∀ b, v.ownBlock = some b → b < w.heap.size := fun b hb => (World.ownsRow.lt h b hb).2
/-- Rows of unlike element types are apart. -/
theorem Ow.typed (h : Ow f e w v xs) (b : Nat) (hb : v.ownBlock = some b) : ∃ cells, w.heap[b]? = some (.cells cells e (0, 0)) := own_typed h b hb
theorem Ow.ne {β : Type} {f' : Fl β} {e' : Nat} {v' : Value} {ys : List β} (h : Ow f e w v xs) (h' : Ow f' e' w v' ys) (hne : e ≠ e') : ∀ b, v.ownBlock = some b → v'.ownBlock ≠ some b := by
  intro b hb hb'
  obtain ⟨c, hc⟩ := h.typed b hb
  obtain ⟨c', hc'⟩ := h'.typed b hb'
  rw [hc] at hc'
  injection hc' with hc'
  injection hc' with _ ht
  exact hne ht
theorem Ow.rd (h : Ow f e w v xs) : Rd f w v xs := by
  rcases h.2 with ⟨rfl, h0⟩ | ⟨g, cap, cur, rfl, hg, hh, hnc, hm, hcs, ht⟩
  · have : xs = [] := List.eq_nil_of_length_eq_zero h0
    subst this
    exact Rd.nil _ _
  · exact ⟨_, cap, rfl, hnc, hm, fun _ => ⟨_, rfl, fun i u hu => World.ownsRow.cells h (g := g) rfl i u hu⟩⟩
theorem Ow.len_le (h : Ow f e w v xs) : xs.length ≤ 9223372036854775807 := h.rd.len_le
/-- The shape, where there are elements. -/
theorem Ow.at_ (h : Ow f e w v xs) (hn : 0 < xs.length) : ∃ g c, v = .slice (some ⟨g, 0, none⟩) xs.length c ∧ g < w.heap.size := by
  obtain ⟨g, cap, h1, _, h2⟩ := World.ownsRow.form h hn
  exact ⟨g, cap, h1, h2⟩
end

/-- What an append leaves of a slice's value: its block, or a new one. -/
def At (w : World) (v v' : Value) : Prop := v'.ownBlock = v.ownBlock ∨ ∃ b, v'.ownBlock = some b ∧ w.heap.size ≤ b
theorem At.refl (w : World) (v : Value) : At w v v := .inl rfl
theorem At.trans {a b : World} {u v x : Value} (h : At a u v) (k : At b v x) (hs : a.heap.size ≤ b.heap.size) : At a u x := by
  rcases k with k | ⟨q, hq, hl⟩
  · rcases h with h | ⟨q, hq, hl⟩
    · exact .inl (k.trans h)
    · exact .inr ⟨q, k.trans hq, hl⟩
  · exact .inr ⟨q, hq, Nat.le_trans hs hl⟩
/-- A block of w's that v' has is v's. -/
theorem At.back {w : World} {v v' : Value} (h : At w v v') {k : Nat} (hb : blk v' k) (hk : k < w.heap.size) : blk v k := by
  rcases h with h | ⟨q, hq, hle⟩
  · exact h.symm.trans hb
  · have : q = k := by have := hq.symm.trans hb; injection this
    omega
/-- A slice apart from v (of w) is apart from what v has become. -/
theorem At.sep {w : World} {u v v' : Value} (h : At w v v') (hs : ∀ b, u.ownBlock = some b → v.ownBlock ≠ some b) (hl : ∀ b, u.ownBlock = some b → b < w.heap.size) : ∀ b, u.ownBlock = some b → v'.ownBlock ≠ some b := by
  intro b hb
  rcases h with h | ⟨q, hq, hle⟩
  · rw [h]; exact hs b hb
  · rw [hq]
    have := hl b hb
    intro e
    injection e with e
    omega

/-- An elder value of a row that has grown is still a row, when the row grows on. -/
theorem Ow.keep {α : Type} {f : Fl α} {e : Nat} {w w1 : World} {v v0 : Value} {xs ys : List α} (h0 : Ow f e w v xs) (o0 : Ow f e w v0 (xs ++ ys)) (hF : Fr (blk v0) w w1) (h1 : Ow f e w1 v0 (xs ++ ys)) : Ow f e w1 v xs := by
  refine Classical.byContradiction fun hcon => ?_
  have hb : ¬ ∀ b, v.ownBlock = some b → ¬ blk v0 b := fun hb => hcon (h0.fr hF hb)
  refine hcon ⟨h0.1, ?_⟩
  rcases h0.2 with h2 | ⟨g, cap, cur, rfl, hg, hh, hnc, hm, hcs, ht⟩
  · exact .inl h2
  rcases o0.2 with ⟨rfl, _⟩ | ⟨g', cap', cur', rfl, hg', hh', hnc', hm', hcs', ht'⟩
  · exact absurd (fun b _ hk => by simp [blk, Value.ownBlock] at hk) hb
  have : g' = g := by
    refine Classical.byContradiction fun hne => hb fun b hb' hk => hne ?_
    have e1 : g = b := by simpa [Value.ownBlock] using hb'
    have e2 : g' = b := by simpa [blk, Value.ownBlock] using hk
    omega
  subst this
  rcases h1.2 with ⟨he, _⟩ | ⟨g2, cap2, cur2, he, hg2, hh2, hnc2, hm2, hcs2, ht2⟩
  · cases he
  injection he with e1 e2 e3
  injection e1 with e1
  injection e1 with e1
  subst e1
  subst e3
  rw [hh] at hh'
  injection hh' with hh'
  injection hh' with hh'
  subst hh'
  refine .inr ⟨g', cap, cur2, rfl, hg2, hh2, hnc, hm, by rw [hcs2, ← hcs', hcs], ?_⟩
  have h3 : cur2.toList.take ((xs ++ ys).length * f.sz) = f.cells (xs ++ ys) := ht2
  have h4 : cur2.toList.take (xs.length * f.sz) = (cur2.toList.take ((xs ++ ys).length * f.sz)).take (xs.length * f.sz) := by
    rw [List.take_take, Nat.min_eq_left]
    exact Nat.mul_le_mul_right _ (by simp)
  show cur2.toList.take (xs.length * f.sz) = f.cells xs
  rw [h4, h3, f.cells_append, List.take_left' (f.cells_length xs)]

/-! ### append -/
section
variable {P : Program} {α : Type} {f : Fl α}

theorem heap_new_cells (w : World) (cs : List Value) (t : Nat) : ∀ j u, cs[j]? = some u → (w.alloc (.cells cs.toArray t)).cell? ((⟨w.heap.size, 0, none⟩ : Addr).add j) = some u := by
  intro j u hj
  rw [add_plain]
  have := (List.getElem?_eq_some_iff.1 hj).1
  simpa [World.cell?, World.alloc, -World.alloc_eq] using hj

/-- The law: what is appended is read at 'ad'; the old row still reads. -/
theorem run_append (w : World) (t ty e : Nat) (z : Value) (bytes : Nat) (ht : P.underlying t = some (.slice e)) (hinfo : (P.info? e).map (fun i => (i.zero, i.size, i.bytes)) = some (some z, f.sz, bytes))
    (hz : z.cells.size = f.sz) (hs0 : 0 < f.sz) (hb0 : 0 < bytes) (v : Value) (xs : List α) (hown : Ow f e w v xs) (y : Value) (ys : List α) (hy : Rd f w y ys) (hl : (xs.length + ys.length) * bytes ≤ 140737488355328) :
    ∃ v' w', (Builtin.append_ #[t, t] ty #[v, y]).run P w = .ok v' w' ∧ Ow f e w' v' (xs ++ ys) ∧ Fr (blk v) w w' ∧ At w v v' ∧ Ow f e w' v xs := by
  obtain ⟨i0, hi, hzz⟩ := Option.map_eq_some_iff.1 hinfo
  simp only [Prod.mk.injEq] at hzz
  obtain ⟨hz0, hz1, hz2⟩ := hzz
  have hle : xs.length + ys.length ≤ 140737488355328 := Nat.le_trans (Nat.le_mul_of_pos_right _ hb0) hl
  have hlen : (xs ++ ys).length = xs.length + ys.length := List.length_append
  obtain ⟨A, c, rfl, hyc, hcm, hcell⟩ := hy
  by_cases h0 : ys.length = 0
  · obtain rfl : ys = [] := List.eq_nil_of_length_eq_zero h0
    refine ⟨v, w, ?_, by simpa using hown, Fr.refl _ _, At.refl _ _, hown⟩
    rcases hown.2 with ⟨rfl, hn⟩ | ⟨g, cap, cur, rfl, _, _, hnc, _⟩
    · cases A <;> simp [Builtin.append_, run_underlying ht, sizeOf, typeInfo, hi, Builtin.lenOf, Builtin.firstCells, loadCells, loadCellsFrom]
    · have hnc' : xs.length + 0 ≤ cap := hnc
      cases A <;> simp [Builtin.append_, run_underlying ht, sizeOf, typeInfo, hi, Builtin.lenOf, Builtin.firstCells, hnc, storeCells, loadCells, loadCellsFrom]
  · obtain ⟨ad, rfl, hc⟩ := hcell (by omega)
    obtain ⟨v', w', hr, h2, h3, _, h5⟩ := run_append_own_at (P := P) w 0 t ty e i0 z f.sz bytes ht hi hz0 hz1 hz2 hz hs0 v xs.length (f.cells xs) hown ad ys.length c (f.cells ys) (f.cells_length ys) hc (f.cells_oneCell ys)
      (by simp only [maxLen]; omega) hl (Nat.zero_le _)
    have how : Ow f e w' v' (xs ++ ys) := by unfold Ow; rw [hlen, f.cells_append]; exact h2
    have hat : At w v v' := by
      rcases h5 with h5 | h5
      · exact .inl h5
      · exact .inr ⟨_, h5, Nat.le_refl _⟩
    refine ⟨v', w', hr, how, Fr.ofGrown h3 (fun k hk => hk), hat, ?_⟩
    -- the old row: it was in place, or it is untouched
    rcases hown.2 with ⟨rfl, hn⟩ | ⟨g, cap, cur, rfl, hbg, hg, hnc, hcm', hcs, htake⟩
    · obtain rfl : xs = [] := List.eq_nil_of_length_eq_zero hn
      exact Ow.nil _ _ _
    · by_cases hroom : xs.length + ys.length ≤ cap
      · have hfit : xs.length * i0.size + (f.cells ys).length ≤ cur.size := by rw [f.cells_length, hcs, hz1, ← Nat.add_mul]; exact Nat.mul_le_mul_right _ hroom
        have hr2 := run_append_room (P := P) w t ty e i0 ht hi g xs.length cap cur hg ad ys.length c (f.cells ys) (by rw [f.cells_length, hz1]) hc (f.cells_oneCell ys) hroom hfit
        rw [hr] at hr2
        injection hr2 with hv' hw'
        subst hv'
        refine ⟨hown.1, .inr ?_⟩
        rcases h2.2 with ⟨he, _⟩ | ⟨g2, cap2, cur2, he, hg2, hh2, hnc2, hm2, hcs2, ht2⟩
        · cases he
        injection he with e1 e2 e3
        injection e1 with e1
        injection e1 with e1
        subst e1
        subst e3
        refine ⟨g, cap, cur2, rfl, hg2, hh2, hnc, hcm', hcs2, ?_⟩
        have h3 : cur2.toList.take ((xs.length + ys.length) * f.sz) = f.cells xs ++ f.cells ys := ht2
        have h4 : cur2.toList.take (xs.length * f.sz) = (cur2.toList.take ((xs.length + ys.length) * f.sz)).take (xs.length * f.sz) := by
          rw [List.take_take, Nat.min_eq_left]
          exact Nat.mul_le_mul_right _ (by omega)
        show cur2.toList.take (xs.length * f.sz) = f.cells xs
        rw [h4, h3, List.take_left' (f.cells_length xs)]
      · have holds : ∀ j u, (f.cells xs)[j]? = some u → w.cell? ((⟨g, 0, none⟩ : Addr).add j) = some u := World.ownsRow.cells hown (g := g) rfl
        have hr2 := run_append_grow (P := P) w t ty e i0 z ht hi hz0 ⟨g, 0, none⟩ xs.length cap (f.cells xs) (by rw [f.cells_length, hz1]) holds ad ys.length c (f.cells ys) (by rw [f.cells_length, hz1]) hc (by omega) (by omega) (growslice_fits (by omega) (by rw [hz2]; exact hl))
        rw [hr] at hr2
        injection hr2 with hv' hw'
        subst hw'
        refine hown.no (w' := _) ?_
        exact ⟨rfl, rfl, rfl, by simp, fun k hk _ => Below.heap_alloc w.drew _ k hk⟩

/-- append(v, x): behind 'at_builtin'; the goal's world is 'W.alloc' of the variadic's box. -/
theorem ap1 {ops : Array Oper} {rest : List Oper} {o : Oper} {a : Act} {Q : Exit → Act → World → Prop} {W : World} (hgd : o.guard = none) (s x : Operand) (t e : Nat) (z : Value) (bytes : Nat)
    (ho : o.op = .call { callee := .builtin .append, args := #[s, x], argTypes := #[t, t] })
    (ht : P.underlying t = some (.slice e)) (hinfo : (P.info? e).map (fun i => (i.zero, i.size, i.bytes)) = some (some z, f.sz, bytes)) (hz : z.cells.size = f.sz) (hs0 : 0 < f.sz) (hb0 : 0 < bytes)
    (v : Value) (xs : List α) (y : α) (cs : List Value) (hcs : cs = f.enc y) (hs : a.eval s = v) (hx : a.eval x = .slice (some ⟨W.heap.size, 0, none⟩) 1 1)
    (HO : Ow f e W v xs) (hl : (xs.length + 1) * bytes ≤ 140737488355328)
    (h : ∀ v1 w1, Ow f e w1 v1 (xs ++ [y]) → Fr (blk v) W w1 → At W v v1 → Ow f e w1 v xs → wpList P ops Q rest (a.put o.dst v1) w1) :
    wpList P ops Q (o :: rest) a (W.alloc (.cells cs.toArray e)) := by
  have hfr : Fr No W (W.alloc (.cells cs.toArray e)) := (Fr.refl _ _).alloc _
  have hyr : Rd f (W.alloc (.cells cs.toArray e)) (.slice (some ⟨W.heap.size, 0, none⟩) 1 1) [y] := ⟨_, 1, rfl, by simp, by simp [maxLen], fun _ => ⟨_, rfl, fun i u hu => by
    rw [f.cells_one, ← hcs] at hu
    exact heap_new_cells W cs e i u hu⟩⟩
  obtain ⟨v', w', hr, h2, h3, h4, h5⟩ := run_append (P := P) (W.alloc (.cells cs.toArray e)) t o.type e z bytes ht hinfo hz hs0 hb0 v xs (HO.no hfr) _ [y] hyr (by simpa using hl)
  refine wpList_plain hgd fun K hK => ?_
  unfold Oper.wp execOp
  simp only [ho, resolve, invoke, builtin, Sem.run_bind, Sem.run_pure, Result.andThen_ok, List.map_toArray, List.map_cons, List.map_nil, hs, hx, hr]
  refine hK _ _ (h v' w' h2 (hfr.mono (fun _ _ h => h.elim) |>.trans h3 (fun _ _ h => h)) ?_ h5)
  rcases h4 with h4 | ⟨b, h4, hb⟩
  · exact .inl h4
  · exact .inr ⟨b, h4, by simp at hb; omega⟩

/-- append(v, y...). -/
theorem apN {ops : Array Oper} {rest : List Oper} {o : Oper} {a : Act} {Q : Exit → Act → World → Prop} {W : World} (hgd : o.guard = none) (s x : Operand) (t e : Nat) (z : Value) (bytes : Nat)
    (ho : o.op = .call { callee := .builtin .append, args := #[s, x], argTypes := #[t, t] })
    (ht : P.underlying t = some (.slice e)) (hinfo : (P.info? e).map (fun i => (i.zero, i.size, i.bytes)) = some (some z, f.sz, bytes)) (hz : z.cells.size = f.sz) (hs0 : 0 < f.sz) (hb0 : 0 < bytes)
    (v : Value) (xs : List α) (y : Value) (ys : List α) (hs : a.eval s = v) (hx : a.eval x = y)
    (HO : Ow f e W v xs) (HY : Rd f W y ys) (hl : (xs.length + ys.length) * bytes ≤ 140737488355328)
    (h : ∀ v1 w1, Ow f e w1 v1 (xs ++ ys) → Fr (blk v) W w1 → At W v v1 → Ow f e w1 v xs → wpList P ops Q rest (a.put o.dst v1) w1) :
    wpList P ops Q (o :: rest) a W := by
  obtain ⟨v', w', hr, h2, h3, h4, h5⟩ := run_append (P := P) W t o.type e z bytes ht hinfo hz hs0 hb0 v xs HO y ys HY hl
  refine wpList_plain hgd fun K hK => ?_
  unfold Oper.wp execOp
  simp only [ho, resolve, invoke, builtin, Sem.run_bind, Sem.run_pure, Result.andThen_ok, List.map_toArray, List.map_cons, List.map_nil, hs, hx, hr]
  exact hK _ _ (h v' w' h2 h3 h4 h5)
end
/-- How many bytes one string or slice that came in may have. -/
def reach : Nat := 140737488351232
theorem reach_eq : reach = 140737488351232 := rfl

/-! ### max, min, of whole numbers: for 'attribute [local go_sem]' -/
theorem max2_int (k k' : IntKind) (x y : Int) : Builtin.max2 (.int k x) (.int k' y) = pure (.int k (if x < y then y else x)) := by simp only [Builtin.max2, gt_iff_lt]
theorem min2_int (k k' : IntKind) (x y : Int) : Builtin.min2 (.int k x) (.int k' y) = pure (.int k (if y < x then y else x)) := by simp only [Builtin.min2]
theorem max_two (ats : Array TypeId) (ty : TypeId) (a b : Value) : Builtin.max_ ats ty #[a, b] = (Builtin.max2 a b >>= fun s => pure s) := by simp only [Builtin.max_, List.foldlM_cons, List.foldlM_nil]
theorem min_two (ats : Array TypeId) (ty : TypeId) (a b : Value) : Builtin.min_ ats ty #[a, b] = (Builtin.min2 a b >>= fun s => pure s) := by simp only [Builtin.min_, List.foldlM_cons, List.foldlM_nil]
end Go.Proofs.YtanbddaecojijaaDoor.B
