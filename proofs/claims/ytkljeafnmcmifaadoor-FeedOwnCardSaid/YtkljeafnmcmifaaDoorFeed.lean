/- feed.Feed: how one lies; Held, Read, Err, End, Add: walked. -/
import Derived.Test.YtkljeafnmcmifaaDoorErrI
import Derived.Test.YtkljeafnmcmifaaDoorErrW
import Derived.Test.YtkljeafnmcmifaaDoorLiftF
import Derived.Test.YtkljeafnmcmifaaDoorSpecFeed
import Derived.Test.YtkljeafnmcmifaaDoorFrameD
import Derived.Test.YtkljeafnmcmifaaDoorCutR
set_option linter.unusedVariables false
set_option linter.unusedSimpArgs false
namespace Go.Proofs.YtkljeafnmcmifaaDoor.Fee
open Go.RowKit Go.IntWalk Go.Proofs.YtkljeafnmcmifaaDoorW.PrintWords Go.Proofs.YtkljeafnmcmifaaDoor.B Go.Proofs.YtkljeafnmcmifaaDoor.PB Go.Proofs.YtkljeafnmcmifaaDoor.Err Go.Proofs.YtkljeafnmcmifaaDoor.SCode Go.Proofs.YtkljeafnmcmifaaDoor.Frm

def fc3 (pre post : List Value) (v : Value) (rd : Nat) (ev : Value) : Array Value := (pre ++ [v, .int .i64 (rd : Int), ev] ++ post).toArray
theorem fc3_get0 (pre post : List Value) (v : Value) (rd : Nat) (ev : Value) (o : Nat) (ho : pre.length = o) : (fc3 pre post v rd ev)[o]? = some v := by
  subst ho; simp [fc3]
theorem fc3_get1 (pre post : List Value) (v : Value) (rd : Nat) (ev : Value) (o : Nat) (ho : pre.length = o) : (fc3 pre post v rd ev)[o + 1]? = some (.int .i64 (rd : Int)) := by
  subst ho; simp [fc3]
theorem fc3_get2 (pre post : List Value) (v : Value) (rd : Nat) (ev : Value) (o : Nat) (ho : pre.length = o) : (fc3 pre post v rd ev)[o + 2]? = some ev := by
  subst ho; simp [fc3]
theorem fc3_set0 (pre post : List Value) (v x : Value) (rd : Nat) (ev : Value) (o : Nat) (ho : pre.length = o) : (fc3 pre post v rd ev).setIfInBounds o x = fc3 pre post x rd ev := by
  subst ho; simp [fc3]
theorem fc3_set1 (pre post : List Value) (v : Value) (rd rd' : Nat) (ev : Value) (o : Nat) (ho : pre.length = o) : (fc3 pre post v rd ev).setIfInBounds (o + 1) (.int .i64 (rd' : Int)) = fc3 pre post v rd' ev := by
  subst ho; simp [fc3]
theorem fc3_set2 (pre post : List Value) (v : Value) (rd : Nat) (ev x : Value) (o : Nat) (ho : pre.length = o) : (fc3 pre post v rd ev).setIfInBounds (o + 2) x = fc3 pre post v rd x := by
  subst ho; simp [fc3]

/-- A feed in block g, behind the cells 'pre': what it holds, how much was read, what went wrong. -/
structure Fd (w : World) (g : Nat) (t : TypeId) (pre post : List Value) (v : Value) (held : List UInt8) (rd : Nat) (er : Option (Nat × Nat)) : Prop where
  cells : ∃ ev, w.heap[g]? = some (.cells (fc3 pre post v rd ev) t (0, 0)) ∧ IsErr w ev er
  own : OwB w v held
  ty : t ≠ 5 ∧ t ≠ 56 ∧ t ≠ 39
  g0 : 0 < g
  v0 : v.ownBlock ≠ some 0
section
variable {w w' : World} {g : Nat} {t : TypeId} {pre post : List Value} {v : Value} {held : List UInt8} {rd : Nat} {er : Option (Nat × Nat)}
theorem Fd.no (h : Fd w g t pre post v held rd er) (k : Fr No w w') : Fd w' g t pre post v held rd er := by
  obtain ⟨⟨ev, h1, h2⟩, h3, h4, h5, h6⟩ := h
  exact ⟨⟨ev, k.heap h1 id, h2.no k⟩, h3.no k, h4, h5, h6⟩
theorem Fd.apart (h : Fd w g t pre post v held rd er) : v.ownBlock ≠ some g := by
  obtain ⟨⟨ev, h1, h2⟩, h3, h4, _, _⟩ := h
  intro hb
  obtain ⟨cs, hc⟩ := h3.typed g hb
  rw [h1] at hc
  injection hc with hc
  injection hc with _ e2
  exact h4.1 e2
theorem Fd.open_ (h : Fd w g t pre post v held rd er) (o : Nat) (ho : pre.length = o) : ∃ ev, w.heap[g]? = some (.cells (fc3 pre post v rd ev) t (0, 0)) ∧ IsErr w ev er ∧ w.cell? ⟨g, o, none⟩ = some v ∧ w.cell? ⟨g, o + 1, none⟩ = some (.int .i64 (rd : Int)) ∧ w.cell? ⟨g, o + 2, none⟩ = some ev ∧
    w.frozen? ⟨g, o, none⟩ = false ∧ w.frozen? ⟨g, o + 1, none⟩ = false ∧ w.frozen? ⟨g, o + 2, none⟩ = false ∧ g < w.heap.size := by
  obtain ⟨ev, h1, h2⟩ := h.cells
  exact ⟨ev, h1, h2, by rw [blk_cell h1, fc3_get0 _ _ _ _ _ _ ho], by rw [blk_cell h1, fc3_get1 _ _ _ _ _ _ ho], by rw [blk_cell h1, fc3_get2 _ _ _ _ _ _ ho], blk_frozen h1 _, blk_frozen h1 _, blk_frozen h1 _, blk_lt h1⟩
/-- A new one. -/
theorem Fd.new (w : World) (hw : 0 < w.heap.size) (t : TypeId) (ht : t ≠ 5 ∧ t ≠ 56 ∧ t ≠ 39) : Fd (w.alloc (.cells #[.slice none 0 0, .int .i64 0, .nilIface] t)) w.heap.size t [] [] (.slice none 0 0) [] 0 none :=
  ⟨⟨.nilIface, heap_alloc_new w _, rfl⟩, Ow.nil _ _ _, ht, hw, fun h => by cases h⟩
/-- Only its own cells and its own row have changed. -/
def Fs (g : Nat) (v : Value) : Nat → Prop := fun k => k = g ∨ blk v k

set_option maxHeartbeats 1000000 in
theorem read_calls (h : Fd w g t pre post v held rd er) (o : Nat) (ho : pre.length = o) : Calls Tryd.prog 10 #[.pointer (some ⟨g, o, none⟩)] w fun e w' => e = .returned (.int .i64 (rd : Int)) ∧ w = w' := by
  obtain ⟨ev, _, _, c0, c1, c2, f0, f1, f2, hl⟩ := h.open_ o ho
  clear h
  go_enter Tryd.func10, Tryd.ntmps10
  go_wp2
  go_ret
  exact ⟨rfl, rfl⟩
set_option maxHeartbeats 1000000 in
theorem err_calls (h : Fd w g t pre post v held rd er) (o : Nat) (ho : pre.length = o) : Calls Tryd.prog 16 #[.pointer (some ⟨g, o, none⟩)] w fun e w' => ∃ ev, e = .returned ev ∧ IsErr w ev er ∧ w = w' := by
  obtain ⟨ev, _, he, c0, c1, c2, f0, f1, f2, hl⟩ := h.open_ o ho
  have HE := Aside0.mk he
  clear h he
  go_enter Tryd.func16, Tryd.ntmps16
  go_wp2
  go_ret
  exact ⟨ev, rfl, HE.out, rfl⟩
set_option maxHeartbeats 1000000 in
theorem held_calls (h : Fd w g t pre post v held rd er) (o : Nat) (ho : pre.length = o) : Calls Tryd.prog 9 #[.pointer (some ⟨g, o, none⟩)] w fun e w' => e = .returned (.int .i64 (held.length : Int)) ∧ w = w' := by
  obtain ⟨ev, _, he, c0, c1, c2, f0, f1, f2, hl⟩ := h.open_ o ho
  obtain ⟨A, c, rfl⟩ := h.own.form
  clear h he
  go_enter Tryd.func9, Tryd.ntmps9
  go_wp2
  go_ret
  exact ⟨rfl, rfl⟩
/-- What is told at the end. -/
def endE (held : List UInt8) (rd : Nat) (er : Option (Nat × Nat)) : Option (Nat × Nat) := match er with
  | some q => some q
  | none => if 0 < held.length then some (rd + held.length, 30) else none
set_option maxHeartbeats 2000000 in
set_option maxRecDepth 100000 in
theorem end_calls (h : Fd w g t pre post v held rd er) (o : Nat) (ho : pre.length = o) (h1 : rd ≤ 1000000000) (h2 : held.length ≤ 1000000000) : Calls Tryd.prog 12 #[.pointer (some ⟨g, o, none⟩)] w fun e w' => ∃ ev, e = .returned ev ∧ IsErr w' ev (endE held rd er) ∧ Fr No w w' := by
  obtain ⟨ev, _, he, c0, c1, c2, f0, f1, f2, hl⟩ := h.open_ o ho
  obtain ⟨A, c, rfl⟩ := h.own.form
  have HE := Aside0.mk he
  clear h
  cases er with
  | some q =>
    obtain ⟨b, rfl, hb⟩ := he
    clear hb
    go_enter Tryd.func12, Tryd.ntmps12
    go_wp2
    go_ret
    exact ⟨_, rfl, HE.out, Fr.refl _ _⟩
  | none =>
    obtain rfl : ev = .nilIface := he
    by_cases hn : 0 < held.length
    · have hnI : (0 : Int) < (held.length : Int) := by omega
      have hnD : decide (0 < held.length) = true := decide_eq_true hn
      have hs : IntKind.i64.wrap ((rd : Int) + (held.length : Int)) = (rd : Int) + (held.length : Int) := by rw [i64_left]; exact wrap64_in _ (by omega)
      have e1 : endE held rd none = some (rd + held.length, 30) := by unfold endE; simp only [if_pos hn]
      rw [e1]
      clear e1
      go_enter Tryd.func12, Tryd.ntmps12
      go_wp2
      refine Rg.start (fun _ x => Fr No w x) (by kernel_rfl) (by kernel_rfl) [11] [[4, 5, 6, 7, 8, 0, 1, 2, 3, 9, 10, 11]] (by kernel_rfl) (.q 0 0 (.q 1 0 (.q 2 0 (.q 3 0 (.q 4 0 (.q 5 0 (.q 6 0 (.q 7 0 (.q 8 0 (.q 9 0 (.q 10 0 (.e 11 1 (.q 12 1 (.q 13 1 (.done))))))))))))))) (by kernel_rfl) ?_ ?_
      · exact fun _ => (Fr.refl _ _).drew
      repeat (first
        | (refine Rg.q (o := ?_) (v := ?_) ?_ ?_ ?_ ?_ ?_
           rotate_left 2
           · (simp only [List.getElem?_toArray, List.getElem?_cons_succ, List.getElem?_cons_zero]; rfl)
           · exact fun _ _ _ h => h
           · first | rfl | (go_simp; done)
           · (intro x_ hx; (try dsimp only at hx); (have q0 := hx.cell c0 id; have q1 := hx.cell c1 id); go_simp; (try rw [if_neg (by omega)]); (try rw [if_pos (by omega)]); (try go_simp); try with_reducible rfl)
           try simp only [Act.put, List.setIfInBounds_toArray, List.set_cons_zero, List.set_cons_succ])
        | (refine Rg.skip (o := ?_) ?_ ?_ ?_ ?_
           rotate_left 1
           · (simp only [List.getElem?_toArray, List.getElem?_cons_succ, List.getElem?_cons_zero]; rfl)
           · exact fun _ _ _ h => h
           · first | rfl | (go_simp; done)
           try simp only [Act.put, List.setIfInBounds_toArray, List.set_cons_zero, List.set_cons_succ]))
      refine Rg.e (o := ?_) ?_ ?_
      rotate_left 1
      · (simp only [List.getElem?_toArray, List.getElem?_cons_succ, List.getElem?_cons_zero]; rfl)
      intro K hK
      go_simp
      have FA : Aside0 (Fr No w (w.alloc (.cells #[.int .i64 ((rd : Int) + (held.length : Int)), .int .i64 30] 56)).drew) := ⟨((Fr.refl No w).alloc _).drew⟩
      have HB : Aside0 ((w.alloc (.cells #[.int .i64 ((rd : Int) + (held.length : Int)), .int .i64 30] 56)).drew.heap[w.heap.size]? = some (.cells #[.int .i64 ((rd : Int) + (held.length : Int)), .int .i64 30] 56 (0, 0))) := ⟨heap_alloc_new w _⟩
      refine hK.out _ _ (fun _ x => Fr No w x) (fun k x hk h => h) ?_ ?_
      · exact fun _ _ => FA.out
      try simp only [Act.put, List.setIfInBounds_toArray, List.set_cons_zero, List.set_cons_succ]
      repeat (first
        | (refine Rg.q (o := ?_) (v := ?_) ?_ ?_ ?_ ?_ ?_
           rotate_left 2
           · (simp only [List.getElem?_toArray, List.getElem?_cons_succ, List.getElem?_cons_zero]; rfl)
           · exact fun _ _ _ h => h
           · first | rfl | (go_simp; done)
           · (intro x_ hx; (try dsimp only at hx); (have q0 := hx.cell c0 id; have q1 := hx.cell c1 id); go_simp; (try rw [if_neg (by omega)]); (try rw [if_pos (by omega)]); (try go_simp); try with_reducible rfl)
           try simp only [Act.put, List.setIfInBounds_toArray, List.set_cons_zero, List.set_cons_succ])
        | (refine Rg.skip (o := ?_) ?_ ?_ ?_ ?_
           rotate_left 1
           · (simp only [List.getElem?_toArray, List.getElem?_cons_succ, List.getElem?_cons_zero]; rfl)
           · exact fun _ _ _ h => h
           · first | rfl | (go_simp; done)
           try simp only [Act.put, List.setIfInBounds_toArray, List.set_cons_zero, List.set_cons_succ]))
      refine Rg.done ?_
      go_simp
      go_wp2
      go_ret
      exact ⟨_, rfl, ⟨w.heap.size, rfl, HB.out⟩, FA.out⟩
    · have hnI : ¬ (0 : Int) < (held.length : Int) := by omega
      have e1 : endE held rd none = none := by unfold endE; simp only [if_neg hn]
      rw [e1]
      clear e1
      go_enter Tryd.func12, Tryd.ntmps12
      go_wp2
      go_ret
      exact ⟨_, rfl, rfl, Fr.refl _ _⟩
end
end Go.Proofs.YtkljeafnmcmifaaDoor.Fee
