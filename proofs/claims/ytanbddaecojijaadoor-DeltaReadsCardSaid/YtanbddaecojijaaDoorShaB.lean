/- One block of the program's sum. -/
import Derived.Test.YtanbddaecojijaaDoorShaR
import Derived.Test.YtanbddaecojijaaDoorArr
import Derived.Test.YtanbddaecojijaaDoorShaO
set_option linter.unusedVariables false
set_option linter.unusedSimpArgs false
namespace Go.Proofs.YtanbddaecojijaaDoor.Sha
open Go.RowKit Go.Proofs.YtanbddaecojijaaDoorW.PrintWords Go.Proofs.YtanbddaecojijaaDoor.B Go.Proofs.YtanbddaecojijaaDoor.PB

/-- Words in a block of memory. -/
def Wd (w : World) (g : Nat) (t : Nat) (xs : List UInt32) : Prop := w.heap[g]? = some (.cells (xs.map vu32).toArray t (0, 0))
theorem Wd.cell {w : World} {g t : Nat} {xs : List UInt32} (h : Wd w g t xs) (i : Nat) (hi : i < xs.length) : w.cell? ⟨g, i, none⟩ = some (vu32 (xs.getD i 0)) := by
  rw [blk_cell h]
  simp [hi]
theorem Wd.frozen {w : World} {g t : Nat} {xs : List UInt32} (h : Wd w g t xs) (i : Nat) : w.frozen? ⟨g, i, none⟩ = false := blk_frozen h i
theorem Wd.fr {S : Nat → Prop} {w w' : World} {g t : Nat} {xs : List UInt32} (h : Wd w g t xs) (k : Fr S w w') (hs : ¬ S g) : Wd w' g t xs := k.heap h hs
theorem Wd.set {w : World} {g t : Nat} {xs : List UInt32} (h : Wd w g t xs) (i : Nat) (x : UInt32) : Wd (w.setCell ⟨g, i, none⟩ (vu32 x)) g t (xs.set i x) := by
  have := blk_set h i (vu32 x)
  unfold Wd
  rw [this]
  simp
theorem rd_byte {w : World} {ad : Addr} {n c : Nat} {bs : List UInt8} (h : RdB w (.slice (some ad) n c) bs) (i : Nat) (hi : i < bs.length) : w.cell? (ad.add i) = some (vu8 (bs.getD i 0)) := by
  obtain ⟨A, c', he, _, _, hc⟩ := h
  injection he with e1 _ _
  obtain ⟨ad', hA, hc⟩ := hc (by omega)
  rw [hA] at e1
  injection e1 with e1
  subst e1
  exact hc i _ (by rw [u8_cells]; simp [hi])

theorem set_mid (l : List UInt32) (m : Nat) (x : UInt32) (i : Nat) (hi : i = l.length) : (l ++ List.replicate (m + 1) 0).set i x = (l ++ [x]) ++ List.replicate m 0 := by
  subst hi
  rw [List.set_append_right _ _ (Nat.le_refl _), Nat.sub_self, List.replicate_succ, List.set_cons_zero, List.append_assoc]
  rfl
theorem sched_step (b : List UInt8) (i : Nat) (hi : i < 64) : (sched b i ++ List.replicate (64 - i) 0).set i (next b (sched b i) i) = sched b (i + 1) ++ List.replicate (64 - (i + 1)) 0 := by
  rw [show 64 - i = (64 - (i + 1)) + 1 by omega, set_mid _ _ _ _ (sched_length b i).symm]
  rfl
section
variable {ops : Array Oper} {rest : List Oper} {o : Oper} {a : Act} {Q : Exit → Act → World → Prop} {W : World}
set_option maxRecDepth 100000 in
/-- A whole row is loaded. -/
theorem ldRow (s : Operand) (ty : TypeId) (g : Nat) (t : TypeId) (cs : Array Value) (fr : Nat × Nat) (d : TypeDesc) (hgd : o.guard = none) (ho : o.op = .load ty s) (hs : a.eval s = .pointer (some ⟨g, 0, none⟩)) (hg : W.heap[g]? = some (.cells cs t fr))
    (hu : Tryd.prog.underlying ty = some d) (hd : ∃ n e, d = .array n e) (hi : (Tryd.prog.info? ty).map (·.size) = some cs.size)
    (h : wpList Tryd.prog ops Q rest (a.put o.dst (.agg cs)) W) : wpList Tryd.prog ops Q (o :: rest) a W := by
  refine wpList_plain hgd fun K hK => ?_
  obtain ⟨n, e, rfl⟩ := hd
  have h1 := run_loadVar_row (P := Tryd.prog) W g t ty cs fr _ hg hu rfl hi
  unfold Oper.wp execOp
  simp only [ho, hs, Instr.loadAt, Instr.sureAddr, Oper.upon, asAddr, Sem.run_bind, Sem.run_pure, Sem.run_map, Result.andThen_ok, h1]
  exact hK _ _ h
end
theorem copy_run (W : World) (g t : Nat) (s : St) (ty : TypeId) (h : Wd W g t s.list) : ∃ W', (Builtin.copy_ #[182, 182] ty #[.slice (some ⟨g, 1, none⟩) 7 7, .slice (some ⟨g, 0, none⟩) 7 8]).run Tryd.prog W = .ok (goInt 7) W' ∧ Wd W' g t [s.a, s.a, s.b, s.c, s.d, s.e, s.f, s.g] ∧ Fr (one g) W W' := by
  have hc := run_copy_row (P := Tryd.prog) W 182 182 ty 87 g 1 7 7 ⟨g, 0, none⟩ 7 8 (s.list.map vu32).toArray t (([s.a, s.b, s.c, s.d, s.e, s.f, s.g] : List UInt32).map vu32) Tryd.underlying182 (by kernel_rfl) h rfl ?_ (by simp [St.list]) (by simp [Value.oneCell'])
  · refine ⟨_, hc, ?_, ⟨rfl, rfl, rfl, by simp, fun k _ hk => setRow_other W g k _ hk⟩⟩
    unfold Wd
    rw [setRow_heap W g _ _ t _ h]
    rfl
  · intro j v hv
    rw [add_plain, blk_cell h]
    rcases (show j = 0 ∨ j = 1 ∨ j = 2 ∨ j = 3 ∨ j = 4 ∨ j = 5 ∨ j = 6 from by
      have := (List.getElem?_eq_some_iff.1 hv).1
      simp at this
      omega) with rfl | rfl | rfl | rfl | rfl | rfl | rfl <;> exact hv
theorem opCopy {a : Act} {K : Act → World → Prop} {Q : Exit → Act → World → Prop} {W : World} {o : Oper} (d s : Operand) (v u : Value) (x : Value) (W' : World)
    (ho : o.op = .call { callee := .builtin .copy, args := #[d, s], argTypes := #[182, 182] })
    (hs : a.eval d = v) (hx : a.eval s = u) (hr : (Builtin.copy_ #[182, 182] o.type #[v, u]).run Tryd.prog W = .ok x W')
    (h : K (a.put o.dst x) W') : Oper.wp Tryd.prog o a W K Q := by
  unfold Oper.wp execOp
  simp only [ho, resolve, invoke, builtin, Sem.run_bind, Sem.run_pure, Result.andThen_ok, List.map_toArray, List.map_cons, List.map_nil, hs, hx, hr]
  exact h
/-- The words that have been added so far. -/
def addl (xs ys : List UInt32) (i : Nat) : List UInt32 := (List.zipWith (· + ·) xs ys).take i ++ xs.drop i
theorem addl_length (xs ys : List UInt32) (i : Nat) (h : xs.length = ys.length) (hi : i ≤ xs.length) : (addl xs ys i).length = xs.length := by
  simp [addl]; omega
theorem addl_get (xs ys : List UInt32) (i : Nat) (h : xs.length = ys.length) (hi : i < xs.length) : (addl xs ys i).getD i 0 = xs.getD i 0 := by
  have hl : (List.take i (List.zipWith (· + ·) xs ys)).length = i := by simp; omega
  simp only [addl, List.getD]
  rw [List.getElem?_append_right (by omega), hl, Nat.sub_self, List.getElem?_drop, Nat.add_zero]
theorem addl_step (xs ys : List UInt32) (i : Nat) (h : xs.length = ys.length) (hi : i < xs.length) : (addl xs ys i).set i (xs.getD i 0 + ys.getD i 0) = addl xs ys (i + 1) := by
  have hz : i < (List.zipWith (· + ·) xs ys).length := by simp; omega
  have hl : (List.take i (List.zipWith (· + ·) xs ys)).length = i := by simp; omega
  unfold addl
  rw [List.set_append_right _ _ (by omega), hl, Nat.sub_self, List.take_succ_eq_append_getElem hz, List.append_assoc]
  congr 1
  rw [List.drop_eq_getElem_cons hi, List.set_cons_zero]
  simp [List.getD, hi, show i < ys.length by omega]
theorem addl_end (s t : St) : addl s.list t.list 8 = (s.add t).list := rfl
theorem add_succ' (a : Addr) (n k : Nat) : a.add (n + (k + 1)) = { block := a.block, off := a.off + (n + (k + 1)) } := by simp [Addr.add]

set_option maxHeartbeats 4000000 in
set_option maxRecDepth 100000 in
theorem block_calls (st : St) (gh gk : Nat) (vb : Value) (bs : List UInt8) (w : World) (hh : Wd w gh 174 st.list) (hk : Wd w gk 175 K) (hb : RdB w vb bs) (h64 : 64 ≤ bs.length) : Calls Tryd.prog 76 #[.pointer (some ⟨gh, 0, none⟩), vb, .pointer (some ⟨gk, 0, none⟩)] w fun e w' => e = .returned (.tuple #[]) ∧ Wd w' gh 174 (block st (bs.take 64)).list ∧ Fr (one gh) w w' := by
  obtain ⟨A, c, rfl, hbc, hcm, hcell⟩ := id hb
  obtain ⟨ad, rfl, _⟩ := hcell (by omega)
  have HH := Aside0.mk hh; have HK := Aside0.mk hk; have HB := Aside0.mk hb
  clear hh hk hb hcell
  go_enter Tryd.func76, Tryd.ntmps76
  go_wp2
  generalize hw0 : w.alloc _ = w0
  have W0 : Aside0 (Wd w0 w.heap.size 175 (List.replicate 64 0)) := ⟨by rw [← hw0]; exact blk_new w _⟩
  have F0 : Aside0 (Fr No w w0) := ⟨by rw [← hw0]; exact (Fr.refl _ _).alloc _⟩
  clear hw0
  obtain ⟨b64, hb64⟩ : ∃ b64, bs.take 64 = b64 := ⟨_, rfl⟩
  have HB64 := Aside0.mk hb64
  have h64l : b64.length = 64 := by rw [← hb64]; simp; omega
  clear hb64
  go_loopw [18] (fun v18 wr => ∃ i : Nat, v18 = .int .i64 i ∧ i ≤ 64 ∧ Aside0 (Wd wr w.heap.size 175 (sched b64 i ++ List.replicate (64 - i) 0)) ∧ Aside0 (Fr No w wr)) (fun i _ => 64 - (intOf i).toNat)
  case atStart => exact ⟨0, rfl, by omega, W0, F0⟩
  case round =>
    obtain ⟨i, rfl, hi, HW, HF⟩ := hrel
    by_cases hi64 : i < 64
    · have hI64 : (i : Int) < 64 := by omega
      have hgl : w.heap.size < wr.heap.size := blk_lt HW.out
      by_cases hi16 : i < 16
      · have hI16 : (i : Int) < 16 := by omega
        go_wp2
        obtain ⟨x0, hx0⟩ : ∃ x, b64.getD (4 * i) 0 = x := ⟨_, rfl⟩
        obtain ⟨x1, hx1⟩ : ∃ x, b64.getD (4 * i + 1) 0 = x := ⟨_, rfl⟩
        obtain ⟨x2, hx2⟩ : ∃ x, b64.getD (4 * i + 2) 0 = x := ⟨_, rfl⟩
        obtain ⟨x3, hx3⟩ : ∃ x, b64.getD (4 * i + 3) 0 = x := ⟨_, rfl⟩
        have hbyte : ∀ j, j < 64 → wr.drew.cell? (ad.add j) = some (vu8 (b64.getD j 0)) := fun j hj => by
          have := rd_byte ((HB.out.no HF.out).no (Fr.refl _ _).drew) j (by omega)
          rw [this, ← HB64.out]
          simp [List.getD, List.getElem?_take, hj]
        have y0 := hbyte (4 * i) (by omega); have y1 := hbyte (4 * i + 1) (by omega); have y2 := hbyte (4 * i + 2) (by omega); have y3 := hbyte (4 * i + 3) (by omega)
        rw [hx0] at y0; rw [hx1] at y1; rw [hx2] at y2; rw [hx3] at y3
        rw [add_succ'] at y1 y2 y3
        have HY : Aside0 (wr.drew.cell? (ad.add (4 * i)) = some (vu8 x0) ∧ wr.drew.cell? { block := ad.block, off := ad.off + (4 * i + 1) } = some (vu8 x1) ∧ wr.drew.cell? { block := ad.block, off := ad.off + (4 * i + 2) } = some (vu8 x2) ∧ wr.drew.cell? { block := ad.block, off := ad.off + (4 * i + 3) } = some (vu8 x3)) := ⟨y0, y1, y2, y3⟩
        clear y0 y1 y2 y3 hbyte
        have hb1 : 4 * i < bs.length := by omega
        have hb2 : 4 * i + 1 < bs.length := by omega
        have hb3 : 4 * i + 2 < bs.length := by omega
        have hb4 : 4 * i + 3 < bs.length := by omega
        have hz0 : IntKind.i64.wrap (4 * (i : Int)) = 4 * (i : Int) := by rw [IntKind.wrap_i64]; omega
        have hz1 : IntKind.i64.wrap (4 * (i : Int) + 1) = 4 * (i : Int) + 1 := by rw [IntKind.wrap_i64]; omega
        have hz2 : IntKind.i64.wrap (4 * (i : Int) + 2) = 4 * (i : Int) + 2 := by rw [IntKind.wrap_i64]; omega
        have hz3 : IntKind.i64.wrap (4 * (i : Int) + 3) = 4 * (i : Int) + 3 := by rw [IntKind.wrap_i64]; omega
        have ht0 : (4 * (i : Int)).toNat = 4 * i := by omega
        have ht1 : (4 * (i : Int) + 1).toNat = 4 * i + 1 := by omega
        have ht2 : (4 * (i : Int) + 2).toNat = 4 * i + 2 := by omega
        have ht3 : (4 * (i : Int) + 3).toNat = 4 * i + 3 := by omega
        refine Rg.start (fun k' x => k' ≤ 0 → x.cell? (ad.add (4 * i)) = some (vu8 x0) ∧ x.cell? { block := ad.block, off := ad.off + (4 * i + 1) } = some (vu8 x1) ∧ x.cell? { block := ad.block, off := ad.off + (4 * i + 2) } = some (vu8 x2) ∧ x.cell? { block := ad.block, off := ad.off + (4 * i + 3) } = some (vu8 x3)) (by kernel_rfl) (by kernel_rfl) [35] [[33, 32, 31, 30, 29, 28, 27, 26, 25, 24, 23, 22, 21, 20, 19, 18, 17, 16, 15, 14, 13, 12, 11, 10, 9, 8, 7, 6, 5, 4, 3, 2, 1, 0, 34, 35]] (by kernel_rfl) (.q 0 0 (.q 1 0 (.q 2 0 (.q 3 0 (.q 4 0 (.q 5 0 (.q 6 0 (.q 7 0 (.q 8 0 (.q 9 0 (.q 10 0 (.q 11 0 (.q 12 0 (.q 13 0 (.q 14 0 (.q 15 0 (.q 16 0 (.q 17 0 (.q 18 0 (.q 19 0 (.q 20 0 (.q 21 0 (.q 22 0 (.q 23 0 (.q 24 0 (.q 25 0 (.q 26 0 (.q 27 0 (.q 28 0 (.q 29 0 (.q 30 0 (.q 31 0 (.q 32 0 (.q 33 0 (.q 34 0 (.e 35 1 (.done))))))))))))))))))))))))))))))))))))) (by kernel_rfl) ?_ ?_
        · exact fun _ _ => HY.out
        repeat (first
          | (refine Rg.q (o := ?_) (v := ?_) ?_ ?_ ?_ ?_ ?_
             rotate_left 2
             · (simp only [List.getElem?_toArray, List.getElem?_cons_succ, List.getElem?_cons_zero]; rfl)
             · exact fun _ _ _ h => h
             · first | rfl | (go_simp; done)
             · (intro x_ hx; (try dsimp only at hx); (have q0 := (hx (by decide)).1; have q1 := (hx (by decide)).2.1; have q2 := (hx (by decide)).2.2.1; have q3 := (hx (by decide)).2.2.2; clear hx); go_simp; (try rw [if_neg (by omega)]); (try rw [if_pos (by omega)]); (try go_simp); try with_reducible rfl)
             try simp only [Act.put, List.setIfInBounds_toArray, List.set_cons_zero, List.set_cons_succ])
          | (refine Rg.skip (o := ?_) ?_ ?_ ?_ ?_
             rotate_left 1
             · (simp only [List.getElem?_toArray, List.getElem?_cons_succ, List.getElem?_cons_zero]; rfl)
             · exact fun _ _ _ h => h
             · first | rfl | (go_simp; done)
             try simp only [Act.put, List.setIfInBounds_toArray, List.set_cons_zero, List.set_cons_succ]))
        have hcw : wr.cell? ⟨w.heap.size, i, none⟩ = some (vu32 ((sched b64 i ++ List.replicate (64 - i) 0).getD i 0)) := HW.out.cell i (by simp [sched_length]; omega)
        have hfw : wr.frozen? ⟨w.heap.size, i, none⟩ = false := HW.out.frozen i
        refine Rg.e (o := ?_) ?_ ?_
        rotate_left 1
        · (simp only [List.getElem?_toArray, List.getElem?_cons_succ, List.getElem?_cons_zero]; rfl)
        intro K hK
        go_simp
        rw [word_form]
        have hnx : next b64 (sched b64 i) i = ((x0.toUInt32 <<< 24) ||| (x1.toUInt32 <<< 16) ||| (x2.toUInt32 <<< 8) ||| x3.toUInt32) := by
          rw [next, if_pos hi16, word, hx0, hx1, hx2, hx3]
        rw [← hnx]
        have HW2 : Aside0 (Wd (wr.setCell ⟨w.heap.size, i, none⟩ (vu32 (next b64 (sched b64 i) i))).drew w.heap.size 175 (sched b64 (i + 1) ++ List.replicate (64 - (i + 1)) 0)) := ⟨by
          have := HW.out.set i (next b64 (sched b64 i) i)
          rw [sched_step b64 i hi64] at this
          exact this⟩
        have HF2 : Aside0 (Fr No w (wr.setCell ⟨w.heap.size, i, none⟩ (vu32 (next b64 (sched b64 i) i))).drew) := ⟨(HF.out.setCell (p := ⟨w.heap.size, i, none⟩) (.inr (Nat.le_refl _)) _).drew⟩
        clear hcw hfw hz0 hz1 hz2 hz3 ht0 ht1 ht2 ht3 hnx
        refine hK.out _ _ (fun _ _ => True) (fun k x hk h h2 => absurd (Nat.le_trans hk h2) (by decide)) ?_ ?_
        · exact fun _ _ => trivial
        try simp only [Act.put, List.setIfInBounds_toArray, List.set_cons_zero, List.set_cons_succ]
        refine Rg.done ?_
        go_simp
        go_wp2
        go_roundw
        case rel => exact ⟨i + 1, by go_num, by omega, HW2, HF2⟩
        case measure => simp [intOf]; omega
      · have hI16 : ¬ (i : Int) < 16 := by omega
        have hget : ∀ j, j < i → wr.cell? ⟨w.heap.size, j, none⟩ = some (vu32 ((sched b64 i).getD j 0)) := fun j hj => by
          have := HW.out.cell j (by simp [sched_length]; omega)
          rw [this]
          simp [List.getD, List.getElem?_append_left (show j < (sched b64 i).length by rw [sched_length]; exact hj)]
        obtain ⟨v2, hv2⟩ : ∃ v, (sched b64 i).getD (i - 2) 0 = v := ⟨_, rfl⟩
        obtain ⟨v7, hv7⟩ : ∃ v, (sched b64 i).getD (i - 7) 0 = v := ⟨_, rfl⟩
        obtain ⟨v15, hv15⟩ : ∃ v, (sched b64 i).getD (i - 15) 0 = v := ⟨_, rfl⟩
        obtain ⟨v16, hv16⟩ : ∃ v, (sched b64 i).getD (i - 16) 0 = v := ⟨_, rfl⟩
        have g2 := hget (i - 2) (by omega); have g7 := hget (i - 7) (by omega); have g15 := hget (i - 15) (by omega); have g16 := hget (i - 16) (by omega)
        rw [hv2] at g2; rw [hv7] at g7; rw [hv15] at g15; rw [hv16] at g16
        have hnx : next b64 (sched b64 i) i = v16 + s0 v15 + v7 + s1 v2 := by rw [next, if_neg hi16, hv2, hv7, hv15, hv16]
        have HNX := Aside0.mk hnx
        have HG : Aside0 (wr.cell? ⟨w.heap.size, i - 15, none⟩ = some (vu32 v15) ∧ wr.cell? ⟨w.heap.size, i - 2, none⟩ = some (vu32 v2) ∧ wr.cell? ⟨w.heap.size, i - 16, none⟩ = some (vu32 v16) ∧ wr.cell? ⟨w.heap.size, i - 7, none⟩ = some (vu32 v7)) := ⟨g15, g2, g16, g7⟩
        clear hget hv2 hv7 hv15 hv16 g2 g7 g15 g16 hnx
        have hz2 : IntKind.i64.wrap ((i : Int) - 2) = (i : Int) - 2 := by rw [IntKind.wrap_i64]; omega
        have hz7 : IntKind.i64.wrap ((i : Int) - 7) = (i : Int) - 7 := by rw [IntKind.wrap_i64]; omega
        have hz15 : IntKind.i64.wrap ((i : Int) - 15) = (i : Int) - 15 := by rw [IntKind.wrap_i64]; omega
        have hz16 : IntKind.i64.wrap ((i : Int) - 16) = (i : Int) - 16 := by rw [IntKind.wrap_i64]; omega
        have ht2 : ((i : Int) - 2).toNat = i - 2 := by omega
        have ht7 : ((i : Int) - 7).toNat = i - 7 := by omega
        have ht15 : ((i : Int) - 15).toNat = i - 15 := by omega
        have ht16 : ((i : Int) - 16).toNat = i - 16 := by omega
        go_wp2_with fail
        refine Rg.start (fun _ x => x.cell? ⟨w.heap.size, i - 15, none⟩ = some (vu32 v15) ∧ x.cell? ⟨w.heap.size, i - 2, none⟩ = some (vu32 v2) ∧ x.cell? ⟨w.heap.size, i - 16, none⟩ = some (vu32 v16) ∧ x.cell? ⟨w.heap.size, i - 7, none⟩ = some (vu32 v7)) (by kernel_rfl) (by kernel_rfl) [] [] (by kernel_rfl) (.q 0 0 (.q 1 0 (.q 2 0 (.q 3 0 (.q 4 0 (.q 5 0 (.q 6 0 (.q 7 0 (.q 8 0 (.q 9 0 (.done))))))))))) (by kernel_rfl) ?_ ?_
        · exact fun _ => HG.out
        repeat (first
          | (refine Rg.q (o := ?_) (v := ?_) ?_ ?_ ?_ ?_ ?_
             rotate_left 2
             · (simp only [List.getElem?_toArray, List.getElem?_cons_succ, List.getElem?_cons_zero]; rfl)
             · exact fun _ _ _ h => h
             · first | rfl | (go_simp; done)
             · (intro x_ hx; (try dsimp only at hx); (have q0 := hx.1; have q1 := hx.2.1; have q2 := hx.2.2.1; have q3 := hx.2.2.2; clear hx); go_simp; (try rw [if_neg (by omega)]); (try rw [if_pos (by omega)]); (try go_simp); try with_reducible rfl)
             try simp only [Act.put, List.setIfInBounds_toArray, List.set_cons_zero, List.set_cons_succ])
          | (refine Rg.skip (o := ?_) ?_ ?_ ?_ ?_
             rotate_left 1
             · (simp only [List.getElem?_toArray, List.getElem?_cons_succ, List.getElem?_cons_zero]; rfl)
             · exact fun _ _ _ h => h
             · first | rfl | (go_simp; done)
             try simp only [Act.put, List.setIfInBounds_toArray, List.set_cons_zero, List.set_cons_succ]))
        refine Rg.done ?_
        go_simp
        have R7 : ∀ W, Calls Tryd.prog 77 #[vu32 v15, .int .i64 25] W fun e w' => e = .returned (vu32 (rotr v15 7)) ∧ W = w' := fun W => rotl_calls v15 7 (by simp) W
        have R18 : ∀ W, Calls Tryd.prog 77 #[vu32 v15, .int .i64 14] W fun e w' => e = .returned (vu32 (rotr v15 18)) ∧ W = w' := fun W => rotl_calls v15 18 (by simp) W
        have R17 : ∀ W, Calls Tryd.prog 77 #[vu32 v2, .int .i64 15] W fun e w' => e = .returned (vu32 (rotr v2 17)) ∧ W = w' := fun W => rotl_calls v2 17 (by simp) W
        have R19 : ∀ W, Calls Tryd.prog 77 #[vu32 v2, .int .i64 13] W fun e w' => e = .returned (vu32 (rotr v2 19)) ∧ W = w' := fun W => rotl_calls v2 19 (by simp) W
        go_wp2_with fail
        refine Rg.start (fun k' x => k' ≤ 4 → x.cell? ⟨w.heap.size, i - 15, none⟩ = some (vu32 v15) ∧ x.cell? ⟨w.heap.size, i - 2, none⟩ = some (vu32 v2) ∧ x.cell? ⟨w.heap.size, i - 16, none⟩ = some (vu32 v16) ∧ x.cell? ⟨w.heap.size, i - 7, none⟩ = some (vu32 v7)) (by kernel_rfl) (by kernel_rfl) [6, 8, 20, 22, 29] [[5, 6], [5, 6, 7, 8], [5, 6, 7, 8, 19, 20], [5, 6, 7, 8, 19, 20, 21, 22], [27, 26, 25, 24, 23, 22, 21, 20, 19, 18, 17, 16, 15, 14, 13, 12, 11, 10, 9, 8, 7, 6, 5, 4, 3, 2, 1, 0, 28, 29]] (by kernel_rfl) (.q 0 4 (.q 1 4 (.q 2 4 (.q 3 4 (.q 4 4 (.q 5 0 (.q 7 1 (.q 10 4 (.q 11 4 (.q 14 4 (.q 15 4 (.q 16 4 (.q 17 4 (.q 19 2 (.q 21 3 (.q 24 4 (.q 25 4 (.e 6 1 (.e 8 2 (.q 9 4 (.q 12 4 (.q 13 4 (.q 18 4 (.e 20 3 (.e 22 4 (.q 23 4 (.q 26 4 (.q 27 4 (.q 28 4 (.e 29 5 (.done))))))))))))))))))))))))))))))) (by kernel_rfl) ?_ ?_
        · exact fun _ _ => HG.out
        repeat (first
          | (refine Rg.q (o := ?_) (v := ?_) ?_ ?_ ?_ ?_ ?_
             rotate_left 2
             · (simp only [List.getElem?_toArray, List.getElem?_cons_succ, List.getElem?_cons_zero]; rfl)
             · exact fun _ _ _ h => h
             · first | rfl | (go_simp; done)
             · (intro x_ hx; (try dsimp only at hx); (try have q0 := (hx (by decide)).1; try have q1 := (hx (by decide)).2.1; try have q2 := (hx (by decide)).2.2.1; try have q3 := (hx (by decide)).2.2.2; clear hx); go_simp; (try rw [if_neg (by omega)]); (try rw [if_pos (by omega)]); (try go_simp); try with_reducible rfl)
             try simp only [Act.put, List.setIfInBounds_toArray, List.set_cons_zero, List.set_cons_succ])
          | (refine Rg.skip (o := ?_) ?_ ?_ ?_ ?_
             rotate_left 1
             · (simp only [List.getElem?_toArray, List.getElem?_cons_succ, List.getElem?_cons_zero]; rfl)
             · exact fun _ _ _ h => h
             · first | rfl | (go_simp; done)
             try simp only [Act.put, List.setIfInBounds_toArray, List.set_cons_zero, List.set_cons_succ]))
        refine Rg.e (o := ?_) ?_ ?_
        rotate_left 1
        · (simp only [List.getElem?_toArray, List.getElem?_cons_succ, List.getElem?_cons_zero]; rfl)
        intro K hK
        go_simp
        refine (R7 _).mono ?_
        rintro en W' ⟨rfl, hW'⟩
        subst hW'
        go_simp
        refine hK.out _ _ (fun k' x => k' ≤ 4 → x.cell? ⟨w.heap.size, i - 15, none⟩ = some (vu32 v15) ∧ x.cell? ⟨w.heap.size, i - 2, none⟩ = some (vu32 v2) ∧ x.cell? ⟨w.heap.size, i - 16, none⟩ = some (vu32 v16) ∧ x.cell? ⟨w.heap.size, i - 7, none⟩ = some (vu32 v7)) (fun k x hk h => h) ?_ ?_
        · exact fun _ _ _ => HG.out
        try simp only [Act.put, List.setIfInBounds_toArray, List.set_cons_zero, List.set_cons_succ]
        repeat (first
          | (refine Rg.q (o := ?_) (v := ?_) ?_ ?_ ?_ ?_ ?_
             rotate_left 2
             · (simp only [List.getElem?_toArray, List.getElem?_cons_succ, List.getElem?_cons_zero]; rfl)
             · exact fun _ _ _ h => h
             · first | rfl | (go_simp; done)
             · (intro x_ hx; (try dsimp only at hx); (try have q0 := (hx (by decide)).1; try have q1 := (hx (by decide)).2.1; try have q2 := (hx (by decide)).2.2.1; try have q3 := (hx (by decide)).2.2.2; clear hx); go_simp; (try rw [if_neg (by omega)]); (try rw [if_pos (by omega)]); (try go_simp); try with_reducible rfl)
             try simp only [Act.put, List.setIfInBounds_toArray, List.set_cons_zero, List.set_cons_succ])
          | (refine Rg.skip (o := ?_) ?_ ?_ ?_ ?_
             rotate_left 1
             · (simp only [List.getElem?_toArray, List.getElem?_cons_succ, List.getElem?_cons_zero]; rfl)
             · exact fun _ _ _ h => h
             · first | rfl | (go_simp; done)
             try simp only [Act.put, List.setIfInBounds_toArray, List.set_cons_zero, List.set_cons_succ]))
        refine Rg.e (o := ?_) ?_ ?_
        rotate_left 1
        · (simp only [List.getElem?_toArray, List.getElem?_cons_succ, List.getElem?_cons_zero]; rfl)
        intro K hK
        go_simp
        refine (R18 _).mono ?_
        rintro en W' ⟨rfl, hW'⟩
        subst hW'
        go_simp
        refine hK.out _ _ (fun k' x => k' ≤ 4 → x.cell? ⟨w.heap.size, i - 15, none⟩ = some (vu32 v15) ∧ x.cell? ⟨w.heap.size, i - 2, none⟩ = some (vu32 v2) ∧ x.cell? ⟨w.heap.size, i - 16, none⟩ = some (vu32 v16) ∧ x.cell? ⟨w.heap.size, i - 7, none⟩ = some (vu32 v7)) (fun k x hk h => h) ?_ ?_
        · exact fun _ _ _ => HG.out
        try simp only [Act.put, List.setIfInBounds_toArray, List.set_cons_zero, List.set_cons_succ]
        repeat (first
          | (refine Rg.q (o := ?_) (v := ?_) ?_ ?_ ?_ ?_ ?_
             rotate_left 2
             · (simp only [List.getElem?_toArray, List.getElem?_cons_succ, List.getElem?_cons_zero]; rfl)
             · exact fun _ _ _ h => h
             · first | rfl | (go_simp; done)
             · (intro x_ hx; (try dsimp only at hx); (try have q0 := (hx (by decide)).1; try have q1 := (hx (by decide)).2.1; try have q2 := (hx (by decide)).2.2.1; try have q3 := (hx (by decide)).2.2.2; clear hx); go_simp; (try rw [if_neg (by omega)]); (try rw [if_pos (by omega)]); (try go_simp); try with_reducible rfl)
             try simp only [Act.put, List.setIfInBounds_toArray, List.set_cons_zero, List.set_cons_succ])
          | (refine Rg.skip (o := ?_) ?_ ?_ ?_ ?_
             rotate_left 1
             · (simp only [List.getElem?_toArray, List.getElem?_cons_succ, List.getElem?_cons_zero]; rfl)
             · exact fun _ _ _ h => h
             · first | rfl | (go_simp; done)
             try simp only [Act.put, List.setIfInBounds_toArray, List.set_cons_zero, List.set_cons_succ]))
        refine Rg.e (o := ?_) ?_ ?_
        rotate_left 1
        · (simp only [List.getElem?_toArray, List.getElem?_cons_succ, List.getElem?_cons_zero]; rfl)
        intro K hK
        go_simp
        refine (R17 _).mono ?_
        rintro en W' ⟨rfl, hW'⟩
        subst hW'
        go_simp
        refine hK.out _ _ (fun k' x => k' ≤ 4 → x.cell? ⟨w.heap.size, i - 15, none⟩ = some (vu32 v15) ∧ x.cell? ⟨w.heap.size, i - 2, none⟩ = some (vu32 v2) ∧ x.cell? ⟨w.heap.size, i - 16, none⟩ = some (vu32 v16) ∧ x.cell? ⟨w.heap.size, i - 7, none⟩ = some (vu32 v7)) (fun k x hk h => h) ?_ ?_
        · exact fun _ _ _ => HG.out
        try simp only [Act.put, List.setIfInBounds_toArray, List.set_cons_zero, List.set_cons_succ]
        repeat (first
          | (refine Rg.q (o := ?_) (v := ?_) ?_ ?_ ?_ ?_ ?_
             rotate_left 2
             · (simp only [List.getElem?_toArray, List.getElem?_cons_succ, List.getElem?_cons_zero]; rfl)
             · exact fun _ _ _ h => h
             · first | rfl | (go_simp; done)
             · (intro x_ hx; (try dsimp only at hx); (try have q0 := (hx (by decide)).1; try have q1 := (hx (by decide)).2.1; try have q2 := (hx (by decide)).2.2.1; try have q3 := (hx (by decide)).2.2.2; clear hx); go_simp; (try rw [if_neg (by omega)]); (try rw [if_pos (by omega)]); (try go_simp); try with_reducible rfl)
             try simp only [Act.put, List.setIfInBounds_toArray, List.set_cons_zero, List.set_cons_succ])
          | (refine Rg.skip (o := ?_) ?_ ?_ ?_ ?_
             rotate_left 1
             · (simp only [List.getElem?_toArray, List.getElem?_cons_succ, List.getElem?_cons_zero]; rfl)
             · exact fun _ _ _ h => h
             · first | rfl | (go_simp; done)
             try simp only [Act.put, List.setIfInBounds_toArray, List.set_cons_zero, List.set_cons_succ]))
        refine Rg.e (o := ?_) ?_ ?_
        rotate_left 1
        · (simp only [List.getElem?_toArray, List.getElem?_cons_succ, List.getElem?_cons_zero]; rfl)
        intro K hK
        go_simp
        refine (R19 _).mono ?_
        rintro en W' ⟨rfl, hW'⟩
        subst hW'
        go_simp
        refine hK.out _ _ (fun k' x => k' ≤ 4 → x.cell? ⟨w.heap.size, i - 15, none⟩ = some (vu32 v15) ∧ x.cell? ⟨w.heap.size, i - 2, none⟩ = some (vu32 v2) ∧ x.cell? ⟨w.heap.size, i - 16, none⟩ = some (vu32 v16) ∧ x.cell? ⟨w.heap.size, i - 7, none⟩ = some (vu32 v7)) (fun k x hk h => h) ?_ ?_
        · exact fun _ _ _ => HG.out
        try simp only [Act.put, List.setIfInBounds_toArray, List.set_cons_zero, List.set_cons_succ]
        repeat (first
          | (refine Rg.q (o := ?_) (v := ?_) ?_ ?_ ?_ ?_ ?_
             rotate_left 2
             · (simp only [List.getElem?_toArray, List.getElem?_cons_succ, List.getElem?_cons_zero]; rfl)
             · exact fun _ _ _ h => h
             · first | rfl | (go_simp; done)
             · (intro x_ hx; (try dsimp only at hx); (try have q0 := (hx (by decide)).1; try have q1 := (hx (by decide)).2.1; try have q2 := (hx (by decide)).2.2.1; try have q3 := (hx (by decide)).2.2.2; clear hx); go_simp; (try rw [if_neg (by omega)]); (try rw [if_pos (by omega)]); (try go_simp); try with_reducible rfl)
             try simp only [Act.put, List.setIfInBounds_toArray, List.set_cons_zero, List.set_cons_succ])
          | (refine Rg.skip (o := ?_) ?_ ?_ ?_ ?_
             rotate_left 1
             · (simp only [List.getElem?_toArray, List.getElem?_cons_succ, List.getElem?_cons_zero]; rfl)
             · exact fun _ _ _ h => h
             · first | rfl | (go_simp; done)
             try simp only [Act.put, List.setIfInBounds_toArray, List.set_cons_zero, List.set_cons_succ]))
        have hcw : wr.cell? ⟨w.heap.size, i, none⟩ = some (vu32 ((sched b64 i ++ List.replicate (64 - i) 0).getD i 0)) := HW.out.cell i (by simp [sched_length]; omega)
        have hfw : wr.frozen? ⟨w.heap.size, i, none⟩ = false := HW.out.frozen i
        refine Rg.e (o := ?_) ?_ ?_
        rotate_left 1
        · (simp only [List.getElem?_toArray, List.getElem?_cons_succ, List.getElem?_cons_zero]; rfl)
        intro K hK
        go_simp
        rw [sched_form, ← HNX.out]
        have HW2 : Aside0 (Wd (wr.setCell ⟨w.heap.size, i, none⟩ (vu32 (next b64 (sched b64 i) i))).drew.drew w.heap.size 175 (sched b64 (i + 1) ++ List.replicate (64 - (i + 1)) 0)) := ⟨by
          have := HW.out.set i (next b64 (sched b64 i) i)
          rw [sched_step b64 i hi64] at this
          exact this⟩
        have HF2 : Aside0 (Fr No w (wr.setCell ⟨w.heap.size, i, none⟩ (vu32 (next b64 (sched b64 i) i))).drew.drew) := ⟨((HF.out.setCell (p := ⟨w.heap.size, i, none⟩) (.inr (Nat.le_refl _)) _).drew).drew⟩
        clear hcw hfw hz2 hz7 hz15 hz16 ht2 ht7 ht15 ht16
        refine hK.out _ _ (fun _ _ => True) (fun k x hk h h2 => absurd (Nat.le_trans hk h2) (by decide)) ?_ ?_
        · exact fun _ _ => trivial
        try simp only [Act.put, List.setIfInBounds_toArray, List.set_cons_zero, List.set_cons_succ]
        refine Rg.done ?_
        go_simp
        go_wp2
        go_roundw
        case rel => exact ⟨i + 1, by go_num, by omega, HW2, HF2⟩
        case measure => simp [intOf]; omega
    · have hI64 : ¬ (i : Int) < 64 := by omega
      obtain rfl : i = 64 := by omega
      have W1 : Aside0 (Wd wr w.heap.size 175 (sched b64 64)) := ⟨by simpa using HW.out⟩
      clear HW
      have HH2 : Aside0 (Wd wr gh 174 st.list) := ⟨HH.out.fr HF.out id⟩
      have c0 : wr.cell? ⟨gh, 0, none⟩ = some (vu32 st.a) := HH2.out.cell 0 (by simp [St.list])
      have c1 : wr.cell? ⟨gh, 1, none⟩ = some (vu32 st.b) := HH2.out.cell 1 (by simp [St.list])
      have c2 : wr.cell? ⟨gh, 2, none⟩ = some (vu32 st.c) := HH2.out.cell 2 (by simp [St.list])
      have c3 : wr.cell? ⟨gh, 3, none⟩ = some (vu32 st.d) := HH2.out.cell 3 (by simp [St.list])
      have c4 : wr.cell? ⟨gh, 4, none⟩ = some (vu32 st.e) := HH2.out.cell 4 (by simp [St.list])
      have c5 : wr.cell? ⟨gh, 5, none⟩ = some (vu32 st.f) := HH2.out.cell 5 (by simp [St.list])
      have c6 : wr.cell? ⟨gh, 6, none⟩ = some (vu32 st.g) := HH2.out.cell 6 (by simp [St.list])
      have c7 : wr.cell? ⟨gh, 7, none⟩ = some (vu32 st.h) := HH2.out.cell 7 (by simp [St.list])
      have hcw : ∀ j, j < 64 → wr.cell? ⟨w.heap.size, j, none⟩ = some (vu32 ((sched b64 64).getD j 0)) := fun j hj => W1.out.cell j (by rw [sched_length]; exact hj)
      go_wp2_with (refine ldRow (.tmp 6) 175 w.heap.size 175 ((sched b64 64).map vu32).toArray (0, 0) _ rfl rfl rfl (by first | exact W1.out | exact blk_alloc W1.out _) Tryd.underlying175 ⟨_, _, rfl⟩ ?hi ?_; (case hi => rw [show ((sched b64 64).map vu32).toArray.size = 64 by simp [sched_length]]; kernel_rfl))
      obtain ⟨wa, hwa⟩ : ∃ wa, wa = wr := ⟨_, rfl⟩
      subst hwa
      clear c0 c1 c2 c3 c4 c5 c6 c7 hcw
      generalize hw1 : wa.alloc _ = w1
      have V1 : Aside0 (Wd w1 wa.heap.size 174 st.list) := ⟨by rw [← hw1]; exact blk_new wa _⟩
      have F1 : Aside0 (Fr No wa w1) := ⟨by rw [← hw1]; exact (Fr.refl _ _).alloc _⟩
      clear hw1
      go_loopw [101] (fun v101 wq => ∃ i : Nat, v101 = .int .i64 i ∧ i ≤ 64 ∧ Aside0 (Wd wq wa.heap.size 174 (rounds (sched b64 64) st i).list) ∧ Aside0 (Fr No wa wq)) (fun i _ => 64 - (intOf i).toNat)
      case atStart => exact ⟨0, rfl, by omega, V1, F1⟩
      case round =>
        obtain ⟨i, rfl, hi, HV, HQ⟩ := hrel
        by_cases hi64 : i < 64
        · have hI64 : (i : Int) < 64 := by omega
          obtain ⟨s, hs⟩ : ∃ s, rounds (sched b64 64) st i = s := ⟨_, rfl⟩
          rw [hs] at HV
          obtain ⟨x, hx0⟩ : ∃ x, (sched b64 64).getD i 0 = x := ⟨_, rfl⟩
          have hix : ((sched b64 64).map vu32).toArray[i]? = some (vu32 x) := by rw [← hx0]; simp [sched_length, hi64]
          generalize hcs : ((sched b64 64).map vu32).toArray = cs at hix ⊢
          have hidx := fun W => Arr.run_index Tryd.underlying175 (by kernel_rfl) (by kernel_rfl) cs i (vu32 x) hi64 hix W
          have HX0 := Aside0.mk hx0; have HCS := Aside0.mk hcs
          have HS := Aside0.mk hs
          clear hx0 hcs hix hs
          have kk : wr.cell? ⟨gk, i, none⟩ = some (vu32 (K.getD i 0)) := ((HK.out.fr HF.out id).fr HQ.out id).cell i (by simp [K]; omega)
          obtain ⟨kx, hkx⟩ : ∃ kx, K.getD i 0 = kx := ⟨_, rfl⟩
          rw [hkx] at kk
          have HKX := Aside0.mk hkx
          clear hkx
          have c0 : wr.cell? ⟨wa.heap.size, 0, none⟩ = some (vu32 s.a) := HV.out.cell 0 (by simp [St.list])
          have c1 : wr.cell? ⟨wa.heap.size, 1, none⟩ = some (vu32 s.b) := HV.out.cell 1 (by simp [St.list])
          have c2 : wr.cell? ⟨wa.heap.size, 2, none⟩ = some (vu32 s.c) := HV.out.cell 2 (by simp [St.list])
          have c3 : wr.cell? ⟨wa.heap.size, 3, none⟩ = some (vu32 s.d) := HV.out.cell 3 (by simp [St.list])
          have c4 : wr.cell? ⟨wa.heap.size, 4, none⟩ = some (vu32 s.e) := HV.out.cell 4 (by simp [St.list])
          have c5 : wr.cell? ⟨wa.heap.size, 5, none⟩ = some (vu32 s.f) := HV.out.cell 5 (by simp [St.list])
          have c6 : wr.cell? ⟨wa.heap.size, 6, none⟩ = some (vu32 s.g) := HV.out.cell 6 (by simp [St.list])
          have c7 : wr.cell? ⟨wa.heap.size, 7, none⟩ = some (vu32 s.h) := HV.out.cell 7 (by simp [St.list])
          have HC : Aside0 (wr.cell? ⟨wa.heap.size, 0, none⟩ = some (vu32 s.a) ∧ wr.cell? ⟨wa.heap.size, 1, none⟩ = some (vu32 s.b) ∧ wr.cell? ⟨wa.heap.size, 2, none⟩ = some (vu32 s.c) ∧ wr.cell? ⟨wa.heap.size, 4, none⟩ = some (vu32 s.e) ∧ wr.cell? ⟨wa.heap.size, 5, none⟩ = some (vu32 s.f) ∧ wr.cell? ⟨wa.heap.size, 6, none⟩ = some (vu32 s.g) ∧ wr.cell? ⟨wa.heap.size, 7, none⟩ = some (vu32 s.h) ∧ wr.cell? ⟨gk, i, none⟩ = some (vu32 kx)) := ⟨c0, c1, c2, c4, c5, c6, c7, kk⟩
          clear c0 c1 c2 c3 c4 c5 c6 c7 kk
          go_wp2_with fail
          clear hidx
          refine Rg.start (fun _ x => x.cell? ⟨wa.heap.size, 0, none⟩ = some (vu32 s.a) ∧ x.cell? ⟨wa.heap.size, 4, none⟩ = some (vu32 s.e)) (by kernel_rfl) (by kernel_rfl) [] [] (by kernel_rfl) (.q 0 0 (.q 1 0 (.q 2 0 (.q 3 0 (.q 4 0 (.q 5 0 (.done))))))) (by kernel_rfl) ?_ ?_
          · exact fun _ => ⟨HC.out.1, HC.out.2.2.2.1⟩
          repeat (first
            | (refine Rg.q (o := ?_) (v := ?_) ?_ ?_ ?_ ?_ ?_
               rotate_left 2
               · (simp only [List.getElem?_toArray, List.getElem?_cons_succ, List.getElem?_cons_zero]; rfl)
               · exact fun _ _ _ h => h
               · first | rfl | (go_simp; done)
               · (intro x_ hx; (try dsimp only at hx); (have q0 := hx.1; have q1 := hx.2; clear hx); go_simp; (try rw [if_neg (by omega)]); (try rw [if_pos (by omega)]); (try go_simp); try with_reducible rfl)
               try simp only [Act.put, List.setIfInBounds_toArray, List.set_cons_zero, List.set_cons_succ])
            | (refine Rg.skip (o := ?_) ?_ ?_ ?_ ?_
               rotate_left 1
               · (simp only [List.getElem?_toArray, List.getElem?_cons_succ, List.getElem?_cons_zero]; rfl)
               · exact fun _ _ _ h => h
               · first | rfl | (go_simp; done)
               try simp only [Act.put, List.setIfInBounds_toArray, List.set_cons_zero, List.set_cons_succ]))
          refine Rg.done ?_
          go_simp
          have R6 : ∀ W, Calls Tryd.prog 77 #[vu32 s.e, .int .i64 26] W fun e w' => e = .returned (vu32 (rotr s.e 6)) ∧ W = w' := fun W => rotl_calls s.e 6 (by simp) W
          have R11 : ∀ W, Calls Tryd.prog 77 #[vu32 s.e, .int .i64 21] W fun e w' => e = .returned (vu32 (rotr s.e 11)) ∧ W = w' := fun W => rotl_calls s.e 11 (by simp) W
          have R25 : ∀ W, Calls Tryd.prog 77 #[vu32 s.e, .int .i64 7] W fun e w' => e = .returned (vu32 (rotr s.e 25)) ∧ W = w' := fun W => rotl_calls s.e 25 (by simp) W
          go_wp2_with fail
          refine Rg.start (fun _ x => x.cell? ⟨wa.heap.size, 0, none⟩ = some (vu32 s.a) ∧ x.cell? ⟨wa.heap.size, 1, none⟩ = some (vu32 s.b) ∧ x.cell? ⟨wa.heap.size, 2, none⟩ = some (vu32 s.c) ∧ x.cell? ⟨wa.heap.size, 4, none⟩ = some (vu32 s.e) ∧ x.cell? ⟨wa.heap.size, 5, none⟩ = some (vu32 s.f) ∧ x.cell? ⟨wa.heap.size, 6, none⟩ = some (vu32 s.g) ∧ x.cell? ⟨wa.heap.size, 7, none⟩ = some (vu32 s.h) ∧ x.cell? ⟨gk, i, none⟩ = some (vu32 kx)) (by kernel_rfl) (by kernel_rfl) [3, 5, 8] [[2, 3], [2, 3, 4, 5], [2, 3, 4, 5, 7, 8]] (by kernel_rfl) (.q 0 3 (.q 1 3 (.q 2 0 (.q 4 1 (.q 7 2 (.q 11 3 (.q 12 3 (.q 13 3 (.q 14 3 (.q 15 3 (.q 16 3 (.q 17 3 (.q 18 3 (.q 19 3 (.q 20 3 (.q 22 3 (.q 23 3 (.q 24 3 (.q 25 3 (.q 26 3 (.q 28 3 (.e 3 1 (.e 5 2 (.q 6 3 (.e 8 3 (.q 9 3 (.q 10 3 (.q 21 3 (.q 27 3 (.q 29 3 (.q 30 3 (.done)))))))))))))))))))))))))))))))) (by kernel_rfl) ?_ ?_
          · exact fun _ => HC.out
          repeat (first
            | (refine Rg.q (o := ?_) (v := ?_) ?_ ?_ ?_ ?_ ?_
               rotate_left 2
               · (simp only [List.getElem?_toArray, List.getElem?_cons_succ, List.getElem?_cons_zero]; rfl)
               · exact fun _ _ _ h => h
               · first | rfl | (go_simp; done)
               · (intro x_ hx; (try dsimp only at hx); (have q0 := hx.1; have q1 := hx.2.1; have q2 := hx.2.2.1; have q4 := hx.2.2.2.1; have q5 := hx.2.2.2.2.1; have q6 := hx.2.2.2.2.2.1; have q7 := hx.2.2.2.2.2.2.1; have qk := hx.2.2.2.2.2.2.2; clear hx); go_simp; (try rw [if_neg (by omega)]); (try rw [if_pos (by omega)]); (try go_simp); try with_reducible rfl)
               try simp only [Act.put, List.setIfInBounds_toArray, List.set_cons_zero, List.set_cons_succ])
            | (refine Rg.skip (o := ?_) ?_ ?_ ?_ ?_
               rotate_left 1
               · (simp only [List.getElem?_toArray, List.getElem?_cons_succ, List.getElem?_cons_zero]; rfl)
               · exact fun _ _ _ h => h
               · first | rfl | (go_simp; done)
               try simp only [Act.put, List.setIfInBounds_toArray, List.set_cons_zero, List.set_cons_succ]))
          refine Rg.e (o := ?_) ?_ ?_
          rotate_left 1
          · (simp only [List.getElem?_toArray, List.getElem?_cons_succ, List.getElem?_cons_zero]; rfl)
          intro K hK
          go_simp
          refine (R6 _).mono ?_
          rintro en W' ⟨rfl, hW'⟩
          subst hW'
          go_simp
          refine hK.out _ _ (fun _ x => x.cell? ⟨wa.heap.size, 0, none⟩ = some (vu32 s.a) ∧ x.cell? ⟨wa.heap.size, 1, none⟩ = some (vu32 s.b) ∧ x.cell? ⟨wa.heap.size, 2, none⟩ = some (vu32 s.c) ∧ x.cell? ⟨wa.heap.size, 4, none⟩ = some (vu32 s.e) ∧ x.cell? ⟨wa.heap.size, 5, none⟩ = some (vu32 s.f) ∧ x.cell? ⟨wa.heap.size, 6, none⟩ = some (vu32 s.g) ∧ x.cell? ⟨wa.heap.size, 7, none⟩ = some (vu32 s.h) ∧ x.cell? ⟨gk, i, none⟩ = some (vu32 kx)) (fun k x hk h => h) ?_ ?_
          · exact fun _ _ => HC.out
          try simp only [Act.put, List.setIfInBounds_toArray, List.set_cons_zero, List.set_cons_succ]
          repeat (first
            | (refine Rg.q (o := ?_) (v := ?_) ?_ ?_ ?_ ?_ ?_
               rotate_left 2
               · (simp only [List.getElem?_toArray, List.getElem?_cons_succ, List.getElem?_cons_zero]; rfl)
               · exact fun _ _ _ h => h
               · first | rfl | (go_simp; done)
               · (intro x_ hx; (try dsimp only at hx); (have q0 := hx.1; have q1 := hx.2.1; have q2 := hx.2.2.1; have q4 := hx.2.2.2.1; have q5 := hx.2.2.2.2.1; have q6 := hx.2.2.2.2.2.1; have q7 := hx.2.2.2.2.2.2.1; have qk := hx.2.2.2.2.2.2.2; clear hx); go_simp; (try rw [if_neg (by omega)]); (try rw [if_pos (by omega)]); (try go_simp); try with_reducible rfl)
               try simp only [Act.put, List.setIfInBounds_toArray, List.set_cons_zero, List.set_cons_succ])
            | (refine Rg.skip (o := ?_) ?_ ?_ ?_ ?_
               rotate_left 1
               · (simp only [List.getElem?_toArray, List.getElem?_cons_succ, List.getElem?_cons_zero]; rfl)
               · exact fun _ _ _ h => h
               · first | rfl | (go_simp; done)
               try simp only [Act.put, List.setIfInBounds_toArray, List.set_cons_zero, List.set_cons_succ]))
          refine Rg.e (o := ?_) ?_ ?_
          rotate_left 1
          · (simp only [List.getElem?_toArray, List.getElem?_cons_succ, List.getElem?_cons_zero]; rfl)
          intro K hK
          go_simp
          refine (R11 _).mono ?_
          rintro en W' ⟨rfl, hW'⟩
          subst hW'
          go_simp
          refine hK.out _ _ (fun _ x => x.cell? ⟨wa.heap.size, 0, none⟩ = some (vu32 s.a) ∧ x.cell? ⟨wa.heap.size, 1, none⟩ = some (vu32 s.b) ∧ x.cell? ⟨wa.heap.size, 2, none⟩ = some (vu32 s.c) ∧ x.cell? ⟨wa.heap.size, 4, none⟩ = some (vu32 s.e) ∧ x.cell? ⟨wa.heap.size, 5, none⟩ = some (vu32 s.f) ∧ x.cell? ⟨wa.heap.size, 6, none⟩ = some (vu32 s.g) ∧ x.cell? ⟨wa.heap.size, 7, none⟩ = some (vu32 s.h) ∧ x.cell? ⟨gk, i, none⟩ = some (vu32 kx)) (fun k x hk h => h) ?_ ?_
          · exact fun _ _ => HC.out
          try simp only [Act.put, List.setIfInBounds_toArray, List.set_cons_zero, List.set_cons_succ]
          repeat (first
            | (refine Rg.q (o := ?_) (v := ?_) ?_ ?_ ?_ ?_ ?_
               rotate_left 2
               · (simp only [List.getElem?_toArray, List.getElem?_cons_succ, List.getElem?_cons_zero]; rfl)
               · exact fun _ _ _ h => h
               · first | rfl | (go_simp; done)
               · (intro x_ hx; (try dsimp only at hx); (have q0 := hx.1; have q1 := hx.2.1; have q2 := hx.2.2.1; have q4 := hx.2.2.2.1; have q5 := hx.2.2.2.2.1; have q6 := hx.2.2.2.2.2.1; have q7 := hx.2.2.2.2.2.2.1; have qk := hx.2.2.2.2.2.2.2; clear hx); go_simp; (try rw [if_neg (by omega)]); (try rw [if_pos (by omega)]); (try go_simp); try with_reducible rfl)
               try simp only [Act.put, List.setIfInBounds_toArray, List.set_cons_zero, List.set_cons_succ])
            | (refine Rg.skip (o := ?_) ?_ ?_ ?_ ?_
               rotate_left 1
               · (simp only [List.getElem?_toArray, List.getElem?_cons_succ, List.getElem?_cons_zero]; rfl)
               · exact fun _ _ _ h => h
               · first | rfl | (go_simp; done)
               try simp only [Act.put, List.setIfInBounds_toArray, List.set_cons_zero, List.set_cons_succ]))
          refine Rg.e (o := ?_) ?_ ?_
          rotate_left 1
          · (simp only [List.getElem?_toArray, List.getElem?_cons_succ, List.getElem?_cons_zero]; rfl)
          intro K hK
          go_simp
          refine (R25 _).mono ?_
          rintro en W' ⟨rfl, hW'⟩
          subst hW'
          go_simp
          refine hK.out _ _ (fun _ x => x.cell? ⟨wa.heap.size, 0, none⟩ = some (vu32 s.a) ∧ x.cell? ⟨wa.heap.size, 1, none⟩ = some (vu32 s.b) ∧ x.cell? ⟨wa.heap.size, 2, none⟩ = some (vu32 s.c) ∧ x.cell? ⟨wa.heap.size, 4, none⟩ = some (vu32 s.e) ∧ x.cell? ⟨wa.heap.size, 5, none⟩ = some (vu32 s.f) ∧ x.cell? ⟨wa.heap.size, 6, none⟩ = some (vu32 s.g) ∧ x.cell? ⟨wa.heap.size, 7, none⟩ = some (vu32 s.h) ∧ x.cell? ⟨gk, i, none⟩ = some (vu32 kx)) (fun k x hk h => h) ?_ ?_
          · exact fun _ _ => HC.out
          try simp only [Act.put, List.setIfInBounds_toArray, List.set_cons_zero, List.set_cons_succ]
          repeat (first
            | (refine Rg.q (o := ?_) (v := ?_) ?_ ?_ ?_ ?_ ?_
               rotate_left 2
               · (simp only [List.getElem?_toArray, List.getElem?_cons_succ, List.getElem?_cons_zero]; rfl)
               · exact fun _ _ _ h => h
               · first | rfl | (go_simp; done)
               · (intro x_ hx; (try dsimp only at hx); (have q0 := hx.1; have q1 := hx.2.1; have q2 := hx.2.2.1; have q4 := hx.2.2.2.1; have q5 := hx.2.2.2.2.1; have q6 := hx.2.2.2.2.2.1; have q7 := hx.2.2.2.2.2.2.1; have qk := hx.2.2.2.2.2.2.2; clear hx); go_simp; (try rw [if_neg (by omega)]); (try rw [if_pos (by omega)]); (try go_simp); try with_reducible rfl)
               try simp only [Act.put, List.setIfInBounds_toArray, List.set_cons_zero, List.set_cons_succ])
            | (refine Rg.skip (o := ?_) ?_ ?_ ?_ ?_
               rotate_left 1
               · (simp only [List.getElem?_toArray, List.getElem?_cons_succ, List.getElem?_cons_zero]; rfl)
               · exact fun _ _ _ h => h
               · first | rfl | (go_simp; done)
               try simp only [Act.put, List.setIfInBounds_toArray, List.set_cons_zero, List.set_cons_succ]))
          refine Rg.done ?_
          go_simp
          clear R6 R11 R25
          go_wp2_with fail
          rw [t_form]
          have HC2 : Aside0 (wr.cell? ⟨wa.heap.size, 1, none⟩ = some (vu32 s.b) ∧ wr.cell? ⟨wa.heap.size, 2, none⟩ = some (vu32 s.c)) := ⟨⟨HC.out.2.1, HC.out.2.2.1⟩⟩
          have R2 : ∀ W, Calls Tryd.prog 77 #[vu32 s.a, .int .i64 30] W fun e w' => e = .returned (vu32 (rotr s.a 2)) ∧ W = w' := fun W => rotl_calls s.a 2 (by simp) W
          have R13 : ∀ W, Calls Tryd.prog 77 #[vu32 s.a, .int .i64 19] W fun e w' => e = .returned (vu32 (rotr s.a 13)) ∧ W = w' := fun W => rotl_calls s.a 13 (by simp) W
          have R22 : ∀ W, Calls Tryd.prog 77 #[vu32 s.a, .int .i64 10] W fun e w' => e = .returned (vu32 (rotr s.a 22)) ∧ W = w' := fun W => rotl_calls s.a 22 (by simp) W
          refine Rg.start (fun _ x => x.cell? ⟨wa.heap.size, 1, none⟩ = some (vu32 s.b) ∧ x.cell? ⟨wa.heap.size, 2, none⟩ = some (vu32 s.c)) (by kernel_rfl) (by kernel_rfl) [1, 3, 6] [[0, 1], [0, 1, 2, 3], [0, 1, 2, 3, 5, 6]] (by kernel_rfl) (.q 0 0 (.q 2 1 (.q 5 2 (.q 8 3 (.q 9 3 (.q 10 3 (.q 11 3 (.q 12 3 (.q 13 3 (.q 14 3 (.q 15 3 (.q 16 3 (.q 17 3 (.q 18 3 (.q 19 3 (.q 20 3 (.q 21 3 (.q 22 3 (.e 1 1 (.e 3 2 (.q 4 3 (.e 6 3 (.q 7 3 (.q 23 3 (.q 24 3 (.done)))))))))))))))))))))))))) (by kernel_rfl) ?_ ?_
          · exact fun _ => HC2.out
          repeat (first
            | (refine Rg.q (o := ?_) (v := ?_) ?_ ?_ ?_ ?_ ?_
               rotate_left 2
               · (simp only [List.getElem?_toArray, List.getElem?_cons_succ, List.getElem?_cons_zero]; rfl)
               · exact fun _ _ _ h => h
               · first | rfl | (go_simp; done)
               · (intro x_ hx; (try dsimp only at hx); (have q1 := hx.1; have q2 := hx.2; clear hx); go_simp; (try rw [if_neg (by omega)]); (try rw [if_pos (by omega)]); (try go_simp); try with_reducible rfl)
               try simp only [Act.put, List.setIfInBounds_toArray, List.set_cons_zero, List.set_cons_succ])
            | (refine Rg.skip (o := ?_) ?_ ?_ ?_ ?_
               rotate_left 1
               · (simp only [List.getElem?_toArray, List.getElem?_cons_succ, List.getElem?_cons_zero]; rfl)
               · exact fun _ _ _ h => h
               · first | rfl | (go_simp; done)
               try simp only [Act.put, List.setIfInBounds_toArray, List.set_cons_zero, List.set_cons_succ]))
          refine Rg.e (o := ?_) ?_ ?_
          rotate_left 1
          · (simp only [List.getElem?_toArray, List.getElem?_cons_succ, List.getElem?_cons_zero]; rfl)
          intro K hK
          go_simp
          refine (R2 _).mono ?_
          rintro en W' ⟨rfl, hW'⟩
          subst hW'
          go_simp
          refine hK.out _ _ (fun _ x => x.cell? ⟨wa.heap.size, 1, none⟩ = some (vu32 s.b) ∧ x.cell? ⟨wa.heap.size, 2, none⟩ = some (vu32 s.c)) (fun k x hk h => h) ?_ ?_
          · exact fun _ _ => HC2.out
          try simp only [Act.put, List.setIfInBounds_toArray, List.set_cons_zero, List.set_cons_succ]
          repeat (first
            | (refine Rg.q (o := ?_) (v := ?_) ?_ ?_ ?_ ?_ ?_
               rotate_left 2
               · (simp only [List.getElem?_toArray, List.getElem?_cons_succ, List.getElem?_cons_zero]; rfl)
               · exact fun _ _ _ h => h
               · first | rfl | (go_simp; done)
               · (intro x_ hx; (try dsimp only at hx); (have q1 := hx.1; have q2 := hx.2; clear hx); go_simp; (try rw [if_neg (by omega)]); (try rw [if_pos (by omega)]); (try go_simp); try with_reducible rfl)
               try simp only [Act.put, List.setIfInBounds_toArray, List.set_cons_zero, List.set_cons_succ])
            | (refine Rg.skip (o := ?_) ?_ ?_ ?_ ?_
               rotate_left 1
               · (simp only [List.getElem?_toArray, List.getElem?_cons_succ, List.getElem?_cons_zero]; rfl)
               · exact fun _ _ _ h => h
               · first | rfl | (go_simp; done)
               try simp only [Act.put, List.setIfInBounds_toArray, List.set_cons_zero, List.set_cons_succ]))
          refine Rg.e (o := ?_) ?_ ?_
          rotate_left 1
          · (simp only [List.getElem?_toArray, List.getElem?_cons_succ, List.getElem?_cons_zero]; rfl)
          intro K hK
          go_simp
          refine (R13 _).mono ?_
          rintro en W' ⟨rfl, hW'⟩
          subst hW'
          go_simp
          refine hK.out _ _ (fun _ x => x.cell? ⟨wa.heap.size, 1, none⟩ = some (vu32 s.b) ∧ x.cell? ⟨wa.heap.size, 2, none⟩ = some (vu32 s.c)) (fun k x hk h => h) ?_ ?_
          · exact fun _ _ => HC2.out
          try simp only [Act.put, List.setIfInBounds_toArray, List.set_cons_zero, List.set_cons_succ]
          repeat (first
            | (refine Rg.q (o := ?_) (v := ?_) ?_ ?_ ?_ ?_ ?_
               rotate_left 2
               · (simp only [List.getElem?_toArray, List.getElem?_cons_succ, List.getElem?_cons_zero]; rfl)
               · exact fun _ _ _ h => h
               · first | rfl | (go_simp; done)
               · (intro x_ hx; (try dsimp only at hx); (have q1 := hx.1; have q2 := hx.2; clear hx); go_simp; (try rw [if_neg (by omega)]); (try rw [if_pos (by omega)]); (try go_simp); try with_reducible rfl)
               try simp only [Act.put, List.setIfInBounds_toArray, List.set_cons_zero, List.set_cons_succ])
            | (refine Rg.skip (o := ?_) ?_ ?_ ?_ ?_
               rotate_left 1
               · (simp only [List.getElem?_toArray, List.getElem?_cons_succ, List.getElem?_cons_zero]; rfl)
               · exact fun _ _ _ h => h
               · first | rfl | (go_simp; done)
               try simp only [Act.put, List.setIfInBounds_toArray, List.set_cons_zero, List.set_cons_succ]))
          refine Rg.e (o := ?_) ?_ ?_
          rotate_left 1
          · (simp only [List.getElem?_toArray, List.getElem?_cons_succ, List.getElem?_cons_zero]; rfl)
          intro K hK
          go_simp
          refine (R22 _).mono ?_
          rintro en W' ⟨rfl, hW'⟩
          subst hW'
          go_simp
          refine hK.out _ _ (fun _ x => x.cell? ⟨wa.heap.size, 1, none⟩ = some (vu32 s.b) ∧ x.cell? ⟨wa.heap.size, 2, none⟩ = some (vu32 s.c)) (fun k x hk h => h) ?_ ?_
          · exact fun _ _ => HC2.out
          try simp only [Act.put, List.setIfInBounds_toArray, List.set_cons_zero, List.set_cons_succ]
          repeat (first
            | (refine Rg.q (o := ?_) (v := ?_) ?_ ?_ ?_ ?_ ?_
               rotate_left 2
               · (simp only [List.getElem?_toArray, List.getElem?_cons_succ, List.getElem?_cons_zero]; rfl)
               · exact fun _ _ _ h => h
               · first | rfl | (go_simp; done)
               · (intro x_ hx; (try dsimp only at hx); (have q1 := hx.1; have q2 := hx.2; clear hx); go_simp; (try rw [if_neg (by omega)]); (try rw [if_pos (by omega)]); (try go_simp); try with_reducible rfl)
               try simp only [Act.put, List.setIfInBounds_toArray, List.set_cons_zero, List.set_cons_succ])
            | (refine Rg.skip (o := ?_) ?_ ?_ ?_ ?_
               rotate_left 1
               · (simp only [List.getElem?_toArray, List.getElem?_cons_succ, List.getElem?_cons_zero]; rfl)
               · exact fun _ _ _ h => h
               · first | rfl | (go_simp; done)
               try simp only [Act.put, List.setIfInBounds_toArray, List.set_cons_zero, List.set_cons_succ]))
          refine Rg.done ?_
          go_simp
          clear R2 R13 R22
          rw [u_form]
          go_wp2_with fail
          refine Rg.start (fun _ x => True) (by kernel_rfl) (by kernel_rfl) [2] [[1, 0, 2]] (by kernel_rfl) (.q 0 0 (.q 1 0 (.e 2 1 (.done)))) (by kernel_rfl) ?_ ?_
          · exact fun _ => trivial
          repeat (first
            | (refine Rg.q (o := ?_) (v := ?_) ?_ ?_ ?_ ?_ ?_
               rotate_left 2
               · (simp only [List.getElem?_toArray, List.getElem?_cons_succ, List.getElem?_cons_zero]; rfl)
               · exact fun _ _ _ h => h
               · first | rfl | (go_simp; done)
               · (intro x_ hx; (try dsimp only at hx); (clear hx); go_simp; (try rw [if_neg (by omega)]); (try rw [if_pos (by omega)]); (try go_simp); try with_reducible rfl)
               try simp only [Act.put, List.setIfInBounds_toArray, List.set_cons_zero, List.set_cons_succ])
            | (refine Rg.skip (o := ?_) ?_ ?_ ?_ ?_
               rotate_left 1
               · (simp only [List.getElem?_toArray, List.getElem?_cons_succ, List.getElem?_cons_zero]; rfl)
               · exact fun _ _ _ h => h
               · first | rfl | (go_simp; done)
               try simp only [Act.put, List.setIfInBounds_toArray, List.set_cons_zero, List.set_cons_succ]))
          obtain ⟨wc, hcr, HV2, HQ2⟩ := copy_run (wr.drew.drew.drew.drew) wa.heap.size 174 s 3 HV.out
          refine Rg.e (o := ?_) ?_ ?_
          rotate_left 1
          · (simp only [List.getElem?_toArray, List.getElem?_cons_succ, List.getElem?_cons_zero]; rfl)
          intro K hK
          rw [if_pos (by first | rfl | (go_simp; done))]
          refine opCopy (.tmp 163) (.tmp 164) _ _ _ wc rfl rfl rfl hcr ?_
          refine hK.out _ _ (fun _ _ => True) (fun k x hk h => trivial) ?_ ?_
          · exact fun _ _ => trivial
          try simp only [Act.put, List.setIfInBounds_toArray, List.set_cons_zero, List.set_cons_succ]
          refine Rg.done ?_
          go_simp
          have HV3 := Aside0.mk HV2; have HQ3 := Aside0.mk HQ2
          have d4 : wc.cell? ⟨wa.heap.size, 4, none⟩ = some (vu32 s.d) := HV2.cell 4 (by simp)
          have d0 : wc.cell? ⟨wa.heap.size, 0, none⟩ = some (vu32 s.a) := HV2.cell 0 (by simp)
          have e4 : wc.frozen? ⟨wa.heap.size, 4, none⟩ = false := HV2.frozen 4
          have e0 : wc.frozen? ⟨wa.heap.size, 0, none⟩ = false := HV2.frozen 0
          clear hcr HV2 HQ2
          go_wp2_with fail
          rw [f_add2, f_add2]
          have HV4 : Aside0 (Wd ((wc.setCell ⟨wa.heap.size, 0, none⟩ (vu32 (r1 s kx x + r2 s))).setCell ⟨wa.heap.size, 4, none⟩ (vu32 (s.d + r1 s kx x))) wa.heap.size 174 (rounds (sched b64 64) st (i + 1)).list) := ⟨by
            have h := (HV3.out.set 0 (r1 s kx x + r2 s)).set 4 (s.d + r1 s kx x)
            rw [rounds, HS.out, HKX.out, HX0.out]
            exact h⟩
          have HQ4 : Aside0 (Fr No wa ((wc.setCell ⟨wa.heap.size, 0, none⟩ (vu32 (r1 s kx x + r2 s))).setCell ⟨wa.heap.size, 4, none⟩ (vu32 (s.d + r1 s kx x)))) :=
            ⟨((HQ.out.drew.drew.drew.drew.trans HQ3.out (fun k hk e => by have e' : k = wa.heap.size := e; omega)).setCell (p := ⟨wa.heap.size, 0, none⟩) (.inr (Nat.le_refl _)) _).setCell (p := ⟨wa.heap.size, 4, none⟩) (.inr (Nat.le_refl _)) _⟩
          clear d4 d0 e4 e0
          go_roundw
          case rel => exact ⟨i + 1, by go_num, by omega, HV4, HQ4⟩
          case measure => simp [intOf]; omega
        · have hI64 : ¬ (i : Int) < 64 := by omega
          obtain rfl : i = 64 := by omega
          obtain ⟨wb, hwb⟩ : ∃ wb, wb = wr := ⟨_, rfl⟩
          subst hwb
          obtain ⟨t, ht⟩ : ∃ t, rounds (sched b64 64) st 64 = t := ⟨_, rfl⟩
          rw [ht] at HV
          have HT := Aside0.mk ht
          clear ht
          have HHb : Aside0 (Wd wb gh 174 (addl st.list t.list 0)) := ⟨HH2.out.fr HQ.out id⟩
          have hgw : gh < w.heap.size := blk_lt HH.out
          have hww : w.heap.size ≤ wa.heap.size := HF.out.size
          have hne : gh ≠ wa.heap.size := by omega
          have FB : Aside0 (Fr (one gh) w wb) := ⟨(HF.out.none HQ.out).mono (fun _ _ h => h.elim)⟩
          go_wp2_with fail
          go_loopw [176] (fun v176 wq => ∃ i : Nat, v176 = .int .i64 i ∧ i ≤ 8 ∧ Aside0 (Wd wq gh 174 (addl st.list t.list i)) ∧ Aside0 (Wd wq wa.heap.size 174 t.list) ∧ Aside0 (Fr (one gh) w wq)) (fun i _ => 8 - (intOf i).toNat)
          case atStart => exact ⟨0, rfl, by omega, HHb, HV, FB⟩
          case round =>
            obtain ⟨i, rfl, hi, HA, HB2, HF3⟩ := hrel
            by_cases hi8 : i < 8
            · have hI8 : (i : Int) < 8 := by omega
              have c1 : wr.cell? ⟨gh, i, none⟩ = some (vu32 (st.list.getD i 0)) := by
                have := HA.out.cell i (by rw [addl_length st.list t.list i rfl (by rw [rounds_len]; omega), rounds_len]; exact hi8)
                rw [addl_get st.list t.list i rfl (by rw [rounds_len]; exact hi8)] at this
                exact this
              have c2 : wr.cell? ⟨wa.heap.size, i, none⟩ = some (vu32 (t.list.getD i 0)) := HB2.out.cell i (by rw [rounds_len]; exact hi8)
              have e1 : wr.frozen? ⟨gh, i, none⟩ = false := HA.out.frozen i
              obtain ⟨x, hx0⟩ : ∃ x, st.list.getD i 0 = x := ⟨_, rfl⟩
              obtain ⟨y, hy0⟩ : ∃ y, t.list.getD i 0 = y := ⟨_, rfl⟩
              rw [hx0] at c1
              rw [hy0] at c2
              have HX := Aside0.mk hx0; have HY := Aside0.mk hy0
              have HC : Aside0 (wr.cell? ⟨gh, i, none⟩ = some (vu32 x) ∧ wr.cell? ⟨wa.heap.size, i, none⟩ = some (vu32 y) ∧ wr.frozen? ⟨gh, i, none⟩ = false) := ⟨c1, c2, e1⟩
              clear hx0 hy0 c1 c2 e1
              go_wp2_with fail
              refine Rg.start (fun k' x' => k' ≤ 0 → x'.cell? ⟨gh, i, none⟩ = some (vu32 x) ∧ x'.cell? ⟨wa.heap.size, i, none⟩ = some (vu32 y)) (by kernel_rfl) (by kernel_rfl) [11] [[8, 7, 6, 5, 4, 3, 2, 1, 0, 9, 10, 11]] (by kernel_rfl) (.q 0 0 (.q 1 0 (.q 2 0 (.q 3 0 (.q 4 0 (.q 5 0 (.q 6 0 (.q 7 0 (.q 8 0 (.q 9 0 (.q 10 0 (.e 11 1 (.done))))))))))))) (by kernel_rfl) ?_ ?_
              · exact fun _ _ => ⟨HC.out.1, HC.out.2.1⟩
              repeat (first
                | (refine Rg.q (o := ?_) (v := ?_) ?_ ?_ ?_ ?_ ?_
                   rotate_left 2
                   · (simp only [List.getElem?_toArray, List.getElem?_cons_succ, List.getElem?_cons_zero]; rfl)
                   · exact fun _ _ _ h => h
                   · first | rfl | (go_simp; done)
                   · (intro x_ hx; (try dsimp only at hx); (have q1 := (hx (by decide)).1; have q2 := (hx (by decide)).2; clear hx); go_simp; (try rw [if_neg (by omega)]); (try rw [if_pos (by omega)]); (try go_simp); try with_reducible rfl)
                   try simp only [Act.put, List.setIfInBounds_toArray, List.set_cons_zero, List.set_cons_succ])
                | (refine Rg.skip (o := ?_) ?_ ?_ ?_ ?_
                   rotate_left 1
                   · (simp only [List.getElem?_toArray, List.getElem?_cons_succ, List.getElem?_cons_zero]; rfl)
                   · exact fun _ _ _ h => h
                   · first | rfl | (go_simp; done)
                   try simp only [Act.put, List.setIfInBounds_toArray, List.set_cons_zero, List.set_cons_succ]))
              have c1 := HC.out.1; have e1 := HC.out.2.2
              refine Rg.e (o := ?_) ?_ ?_
              rotate_left 1
              · (simp only [List.getElem?_toArray, List.getElem?_cons_succ, List.getElem?_cons_zero]; rfl)
              intro K hK
              go_simp
              clear c1 e1
              rw [f_add]
              refine hK.out _ _ (fun _ _ => True) (fun k x hk h h2 => absurd (Nat.le_trans hk h2) (by decide)) ?_ ?_
              · exact fun _ _ => trivial
              try simp only [Act.put, List.setIfInBounds_toArray, List.set_cons_zero, List.set_cons_succ]
              refine Rg.done ?_
              go_simp
              have HA2 : Aside0 (Wd (wr.setCell ⟨gh, i, none⟩ (vu32 (x + y))).drew gh 174 (addl st.list t.list (i + 1))) := ⟨by
                have h := HA.out.set i (x + y)
                rw [← HX.out, ← HY.out, addl_step st.list t.list i rfl (by rw [rounds_len]; exact hi8), HX.out, HY.out] at h
                exact h⟩
              have HB3 : Aside0 (Wd (wr.setCell ⟨gh, i, none⟩ (vu32 (x + y))).drew wa.heap.size 174 t.list) := ⟨(Below.heap_setCell wr ⟨gh, i, none⟩ (vu32 (x + y)) wa.heap.size (Ne.symm hne)).trans HB2.out⟩
              have HF4 : Aside0 (Fr (one gh) w (wr.setCell ⟨gh, i, none⟩ (vu32 (x + y))).drew) := ⟨(HF3.out.setCell (p := ⟨gh, i, none⟩) (.inl rfl) _).drew⟩
              clear HA HB2 HF3
              go_wp2
              go_roundw
              case rel => exact ⟨i + 1, by go_num, by omega, HA2, HB3, HF4⟩
              case measure => simp [intOf]; omega
            · have hI8 : ¬ (i : Int) < 8 := by omega
              obtain rfl : i = 8 := by omega
              go_wp2
              go_end0
              rw [HB64.out]
              refine ⟨rfl, ?_, HF3.out⟩
              have h := HA.out
              rw [addl_end, ← HT.out] at h
              exact h
end Go.Proofs.YtanbddaecojijaaDoor.Sha
