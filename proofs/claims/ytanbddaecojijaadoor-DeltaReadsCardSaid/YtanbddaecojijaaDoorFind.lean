/- Signature.Index: walked. Table.Find: walked. -/
import Derived.Test.YtanbddaecojijaaDoorTab
import Derived.Test.YtanbddaecojijaaDoorIx
import Derived.Test.YtanbddaecojijaaDoorRegion
import Derived.Test.YtanbddaecojijaaDoorShaC
set_option linter.unusedVariables false
set_option linter.unusedSimpArgs false
namespace Go.Proofs.YtanbddaecojijaaDoor.Blk
open Go.RowKit Go.IntWalk Go.Proofs.YtanbddaecojijaaDoorW.PrintWords Go.Proofs.YtanbddaecojijaaDoor.B Go.Proofs.YtanbddaecojijaaDoor.PB Go.Proofs.YtanbddaecojijaaDoor.SWeak Go.Proofs.YtanbddaecojijaaDoor.Bk Go.Proofs.YtanbddaecojijaaDoor.SBlk

section
variable {P : Program}
theorem ex_makeMap {ρ : Operand → Value} {o : Oper} {W : World} {t : TypeId} (ho : o.op = .makeMap t none) : (execOp ρ o).run P W = .ok (.value (.map (some W.heap.size))) (W.alloc (.map #[] 0)) := by
  have h : (Instr.makeMap t none).run P W = .ok (.map (some W.heap.size)) (W.alloc (.map #[] 0)) := rfl
  unfold execOp
  simp only [ho, Option.map_none, Sem.run_bind, Sem.run_pure, Sem.run_map, Result.andThen_ok, h]
theorem ex_lookup {ρ : Operand → Value} {o : Oper} {W : World} {t : TypeId} {xm xk : Operand} {m k v : Value} (h : (Instr.lookup t m k false).run P W = .ok v W) (ho : o.op = .lookup t xm xk false) (hm : ρ xm = m) (hk : ρ xk = k) : (execOp ρ o).run P W = .ok (.value v) W := by
  unfold execOp
  simp only [ho, hm, hk, Sem.run_bind, Sem.run_pure, Sem.run_map, Result.andThen_ok, h]
theorem opMU {a : Act} {K : Act → World → Prop} {Q : Exit → Act → World → Prop} {W W2 : World} {o : Oper} {t : TypeId} {xm xk xv : Operand} {m k v : Value} (h : (Instr.mapUpdate t m k v).run P W = .ok () W2) (ho : o.op = .mapUpdate t xm xk xv) (hm : a.eval xm = m) (hk : a.eval xk = k) (hv : a.eval xv = v) (hK : K (a.put o.dst undef) W2) : Oper.wp P o a W K Q := by
  unfold Oper.wp execOp
  simp only [ho, hm, hk, hv, Sem.run_bind, Sem.run_pure, Sem.run_map, Result.andThen_ok, h]
  exact hK
end
theorem infoI : (Tryd.prog.info? 3).map (fun i => (i.zero, i.size, i.bytes)) = some (some (.int .i64 0), 1, 8) := by kernel_rfl
set_option maxRecDepth 100000 in
theorem oneI (z : Int) (W : World) : (Instr.buildSlice 135 1 #[(0, .int .i64 z)]).run Tryd.prog W = .ok (.slice (some ⟨W.heap.size, 0, none⟩) 1 1) (W.alloc (.cells #[.int .i64 z] 3)) := by
  kernel_rfl

theorem At.le {a b : World} {v v' : Value} (h : At b v v') (hs : a.heap.size ≤ b.heap.size) : At a v v' := by
  rcases h with h | ⟨q, hq, hl⟩
  · exact .inl h
  · exact .inr ⟨q, hq, by omega⟩
theorem Fr.trans' {a b c : World} {v : Value} (h : Fr No a b) (k : Fr (blk v) b c) : Fr (blk v) a c := (h.mono (fun _ _ h => h.elim)).trans k (fun _ _ h => h)
/-- A table's cells. -/
abbrev tbC (size cut len : Int) (v : Value) (mb : Nat) : Array Value := #[.int .i64 size, .int .i64 cut, .int .i64 len, v, .map (some mb)]
def Tbl (w : World) (p : Value) (n : Nat) (size cut len : Int) (sl : Value) (bs : List BK) : Prop := ∃ mb, n ≤ mb ∧ p = .pointer (some ⟨mb + 1, 0, none⟩) ∧ w.heap[mb + 1]? = some (.cells (tbC size cut len sl mb) 134 (0, 0)) ∧ Grp w mb (mb + 1) bs
theorem Tbl.no {w w' : World} {p : Value} {n : Nat} {size cut len : Int} {sl : Value} {bs : List BK} (h : Tbl w p n size cut len sl bs) (k : Fr No w w') : Tbl w' p n size cut len sl bs := by
  obtain ⟨mb, h1, h2, h3, h4⟩ := h
  exact ⟨mb, h1, h2, k.heap h3 id, h4.no k⟩

set_option maxHeartbeats 4000000 in
set_option maxRecDepth 100000 in
theorem index_calls (size cut len : Int) (sl : Value) (bs : List BK) (w : World) (hv : Rd (fBk .u32) w sl bs) (hn : bs.length ≤ 100000) : Calls Tryd.prog 30 #[.agg (sgC size cut len sl)] w fun e w' =>
    ∃ p, e = .returned p ∧ Tbl w' p w.heap.size size cut len sl bs ∧ Fr No w w' := by
  obtain ⟨A, c, rfl, hAc, hm, _⟩ := id hv
  have HV := Aside0.mk hv
  clear hv
  go_enter Tryd.func30, Tryd.ntmps30
  go_wp2_with (refine lsX rfl (ex_makeMap rfl) ?_)
  obtain ⟨mb, hmb⟩ : ∃ g, w.heap.size + 1 = g := ⟨_, rfl⟩
  have HM := Aside0.mk hmb
  have FW : Aside0 (Fr No w (((w.alloc (.cells (sgC size cut len (.slice A bs.length c)) 26)).alloc (.map #[] 0)).alloc (.cells (tbC size cut len (.slice A bs.length c) (w.heap.size + 1)) 134))) := ⟨(((Fr.refl _ _).alloc _).alloc _).alloc _⟩
  have X1 : Aside0 ((((w.alloc (.cells (sgC size cut len (.slice A bs.length c)) 26)).alloc (.map #[] 0)).alloc (.cells (tbC size cut len (.slice A bs.length c) (w.heap.size + 1)) 134)).heap[mb + 1]? = some (.cells (tbC size cut len (.slice A bs.length c) (w.heap.size + 1)) 134 (0, 0))) := ⟨by rw [← hmb]; simpa using heap_alloc_new ((w.alloc (.cells (sgC size cut len (.slice A bs.length c)) 26)).alloc (.map #[] 0)) (.cells (tbC size cut len (.slice A bs.length c) (w.heap.size + 1)) 134)⟩
  have XG : Aside0 (Grp (((w.alloc (.cells (sgC size cut len (.slice A bs.length c)) 26)).alloc (.map #[] 0)).alloc (.cells (tbC size cut len (.slice A bs.length c) (w.heap.size + 1)) 134)) mb (mb + 1) []) := ⟨by
    have g := Grp.new (w.alloc (.cells (sgC size cut len (.slice A bs.length c)) 26))
    have e1 : (w.alloc (.cells (sgC size cut len (.slice A bs.length c)) 26)).heap.size = mb := by rw [← hmb]; simp
    rw [e1] at g
    exact g.no ((Fr.refl _ _).alloc _)⟩
  rw [hmb] at X1 ⊢
  change Code.wp _ _ _ _ (((w.alloc (.cells (sgC size cut len (.slice A bs.length c)) 26)).alloc (.map #[] 0)).alloc (.cells (tbC size cut len (.slice A bs.length c) mb) 134))
  rw [hmb] at FW XG
  generalize (((w.alloc (.cells (sgC size cut len (.slice A bs.length c)) 26)).alloc (.map #[] 0)).alloc (.cells (tbC size cut len (.slice A bs.length c) mb) 134)) = w0 at FW X1 XG ⊢
  clear hmb
  go_loopw [13] (fun v13 wr => ∃ i : Nat, v13 = .int .i64 (i : Int) ∧ i ≤ bs.length ∧ Aside0 (Grp wr mb (mb + 1) (bs.take i)) ∧ Aside0 (wr.heap[mb + 1]? = some (.cells (tbC size cut len (.slice A bs.length c) mb) 134 (0, 0))) ∧ Aside0 (Fr No w wr)) (fun v13 _ => bs.length - (intOf v13).toNat)
  case atStart => exact ⟨0, rfl, Nat.zero_le _, XG, X1, FW⟩
  case round =>
    obtain ⟨i, rfl, hi, HT, H1, HF⟩ := hrel
    by_cases hil : i < bs.length
    · have hiI : (i : Int) < (bs.length : Int) := by omega
      obtain ⟨b, hb⟩ : ∃ b, bs[i]? = some b := ⟨_, List.getElem?_eq_getElem hil⟩
      obtain ⟨ad, hA, hcv⟩ := rd_at HV.out i b hb
      have LD : ∀ x, Fr No wr x → (loadVar 101 (ad.add (i * 33))).run Tryd.prog x = .ok (.agg (bkC .u32 b)) x := ld_elem (hcv.no HF.out) Tryd.underlying101 rfl (by rw [bkL_length]; kernel_rfl)
      have HA := Aside0.mk hA
      have HTK : Aside0 (bs.take (i + 1) = bs.take i ++ [b]) := ⟨by rw [List.take_add_one, hb]; rfl⟩
      have htl : (bs.take i).length = i := by rw [List.length_take]; omega
      have HTL := Aside0.mk htl
      clear hb hcv hA htl
      go_upto_region 5 with (first
        | (refine lsIx 24 101 33 (.tmp 11) (.tmp 13) ad A bs.length c i _ Tryd.underlying24 (by kernel_rfl) rfl rfl rfl HA.out rfl rfl hil ?_)
        | (refine ldG (.tmp 16) 101 _ _ rfl rfl (LD _ (Fr.refl _ _)) (by first | rfl | (go_simp; done)) ?_)
        | (refine PB.stRow (.tmp 5) (.tmp 17) 101 wr.heap.size 101 _ (bkC .u32 b) rfl rfl rfl rfl (heap_alloc_new wr _) (by rw [bkC_size]; kernel_rfl) (by rw [bkC_size]; rfl) (bkC_one _ _) ?_; rw [World.setRow_alloc_new]))
      change Code.wp _ _ _ _ (wr.alloc (.cells (bkC .u32 b) 101))
      have XB : Aside0 ((wr.alloc (.cells (bkC .u32 b) 101)).heap[wr.heap.size]? = some (.cells (bkC .u32 b) 101 (0, 0))) := ⟨heap_alloc_new wr _⟩
      have XF : Aside0 (Fr No wr (wr.alloc (.cells (bkC .u32 b) 101))) := ⟨(Fr.refl _ _).alloc _⟩
      generalize wr.alloc (.cells (bkC .u32 b) 101) = wx at XB XF ⊢
      have h1x := XF.out.heap H1.out id
      have y1 : wx.cell? ⟨mb + 1, 4, Option.none⟩ = some (.map (some mb)) := by rw [blk_cell h1x]; rfl
      have y2 : wx.cell? ⟨wr.heap.size, 0, Option.none⟩ = some (.int .u32 (b.w : Int)) := by rw [blk_cell XB.out]; rfl
      have HX1 := Aside0.mk h1x
      have Y1 := Aside0.mk y1; have Y2 := Aside0.mk y2
      have FX : Aside0 (Fr No wr wx.drew) := ⟨XF.out.drew⟩
      have hmbw : Aside0 (mb + 1 ≤ wr.heap.size) := ⟨by have := HF.out.size; have := HM.out; have := (Array.getElem?_eq_some_iff.1 H1.out).1; omega⟩
      clear h1x LD y1 y2
      refine Rg.start (fun k y => k ≤ 3 → (y.cell? ⟨mb + 1, 4, Option.none⟩ = some (.map (some mb)) ∧ y.cell? ⟨wr.heap.size, 0, Option.none⟩ = some (.int .u32 (b.w : Int)))) (by kernel_rfl) (by kernel_rfl) [12, 14, 15, 16] [[10, 11, 6, 7, 8, 9, 12], [13, 14], [13, 14, 10, 11, 6, 7, 8, 9, 12, 15], [13, 14, 10, 11, 6, 7, 8, 9, 12, 15, 4, 5, 0, 1, 2, 3, 16]] (by kernel_rfl) (.q 0 3 (.q 1 3 (.q 2 3 (.q 3 3 (.q 4 3 (.q 5 3 (.q 6 0 (.q 7 0 (.q 8 0 (.q 9 0 (.q 10 0 (.q 11 0 (.q 13 1 (.two 12 1 (.e 14 2 (.e 15 3 (.e 16 4 (.done)))) 14 0 (.e 12 2 (.e 15 3 (.e 16 4 (.done)))))))))))))))))) (by kernel_rfl) ?_ ?_
      · exact fun _ _ => ⟨Y1.out, Y2.out⟩
      repeat (first
        | (refine Rg.q (o := ?_) (v := ?_) ?_ ?_ ?_ ?_ ?_
           rotate_left 2
           · (simp only [List.getElem?_toArray, List.getElem?_cons_succ, List.getElem?_cons_zero]; rfl)
           · exact fun _ _ _ h => h
           · first | rfl | (go_simp; done)
           · (intro x_ hx; (try dsimp only at hx); (try have q1 := (hx (by decide)).1; try have q2 := (hx (by decide)).2); go_simp; (try rw [if_neg (by omega)]); (try rw [if_pos (by omega)]); (try go_simp); try with_reducible rfl)
           try simp only [Act.put, List.setIfInBounds_toArray, List.set_cons_zero, List.set_cons_succ])
        | (refine Rg.skip (o := ?_) ?_ ?_ ?_ ?_
           rotate_left 1
           · (simp only [List.getElem?_toArray, List.getElem?_cons_succ, List.getElem?_cons_zero]; rfl)
           · exact fun _ _ _ h => h
           · first | rfl | (go_simp; done)
           try simp only [Act.put, List.setIfInBounds_toArray, List.set_cons_zero, List.set_cons_succ]))
      have FYX : Aside0 (Fr No wx.drew (wx.drew.alloc (.cells #[.int .i64 (i : Int)] 3))) := ⟨(Fr.refl _ _).alloc _⟩
      have TY : Aside0 ((wx.drew.alloc (.cells #[.int .i64 (i : Int)] 3)).heap[mb + 1]? = some (.cells (tbC size cut len (.slice A bs.length c) mb) 134 (0, 0))) := ⟨FYX.out.heap HX1.out id⟩
      have BY : Aside0 ((wx.drew.alloc (.cells #[.int .i64 (i : Int)] 3)).heap[wr.heap.size]? = some (.cells (bkC .u32 b) 101 (0, 0))) := ⟨FYX.out.heap XB.out id⟩
      have Z1 : Aside0 ((wx.drew.alloc (.cells #[.int .i64 (i : Int)] 3)).cell? ⟨mb + 1, 4, Option.none⟩ = some (.map (some mb))) := ⟨by rw [blk_cell TY.out]; rfl⟩
      have Z2 : Aside0 ((wx.drew.alloc (.cells #[.int .i64 (i : Int)] 3)).cell? ⟨wr.heap.size, 0, Option.none⟩ = some (.int .u32 (b.w : Int))) := ⟨by rw [blk_cell BY.out]; rfl⟩
      refine Rg.two ?_ ?_
      · refine Rg.e (o := ?_) ?_ ?_
        rotate_left 1
        · (simp only [List.getElem?_toArray, List.getElem?_cons_succ, List.getElem?_cons_zero]; rfl)
        intro K hK
        rw [if_pos (by first | rfl | (go_simp; done))]
        obtain ⟨v, hrun, hOw, hvb, hback⟩ := (HT.out.no FX.out).at_ b.w b.hw (by rw [HTL.out]; omega)
        refine opX (ex_lookup hrun rfl rfl rfl) ?_
        have OY : Aside0 (Ow fI 3 (wx.drew.alloc (.cells #[.int .i64 (i : Int)] 3)) v (idx (bs.take i) b.w)) := ⟨hOw.no FYX.out⟩
        have FYB : Aside0 (Fr No wx.drew (wx.drew.alloc (.cells #[.int .i64 (i : Int)] 3))) := FYX
        clear hOw hrun
        refine hK.out _ _ (fun k y => k ≤ 3 → (y.cell? ⟨mb + 1, 4, Option.none⟩ = some (.map (some mb)) ∧ y.cell? ⟨wr.heap.size, 0, Option.none⟩ = some (.int .u32 (b.w : Int)))) (fun k x hk h => h) ?_ ?_
        · exact fun _ _ _ => ⟨Y1.out, Y2.out⟩
        try simp only [Act.put, List.setIfInBounds_toArray, List.set_cons_zero, List.set_cons_succ]
        repeat (first
          | (refine Rg.q (o := ?_) (v := ?_) ?_ ?_ ?_ ?_ ?_
             rotate_left 2
             · (simp only [List.getElem?_toArray, List.getElem?_cons_succ, List.getElem?_cons_zero]; rfl)
             · exact fun _ _ _ h => h
             · first | rfl | (go_simp; done)
             · (intro x_ hx; (try dsimp only at hx); (try have q1 := (hx (by decide)).1; try have q2 := (hx (by decide)).2); go_simp; (try rw [if_neg (by omega)]); (try rw [if_pos (by omega)]); (try go_simp); try with_reducible rfl)
             try simp only [Act.put, List.setIfInBounds_toArray, List.set_cons_zero, List.set_cons_succ])
          | (refine Rg.skip (o := ?_) ?_ ?_ ?_ ?_
             rotate_left 1
             · (simp only [List.getElem?_toArray, List.getElem?_cons_succ, List.getElem?_cons_zero]; rfl)
             · exact fun _ _ _ h => h
             · first | rfl | (go_simp; done)
             try simp only [Act.put, List.setIfInBounds_toArray, List.set_cons_zero, List.set_cons_succ]))
        refine Rg.e (o := ?_) ?_ ?_
        rotate_left 1
        · (simp only [List.getElem?_toArray, List.getElem?_cons_succ, List.getElem?_cons_zero]; rfl)
        intro K hK
        rw [if_pos (by first | rfl | (go_simp; done))]
        refine opX (ex_buildSlice (oneI (i : Int) wx.drew) rfl (by kernel_rfl)) ?_
        refine hK.out _ _ (fun k y => k ≤ 3 → (y.cell? ⟨mb + 1, 4, Option.none⟩ = some (.map (some mb)) ∧ y.cell? ⟨wr.heap.size, 0, Option.none⟩ = some (.int .u32 (b.w : Int)))) (fun k x hk h => h) ?_ ?_
        · exact fun _ _ _ => ⟨Z1.out, Z2.out⟩
        try simp only [Act.put, List.setIfInBounds_toArray, List.set_cons_zero, List.set_cons_succ]
        repeat (first
          | (refine Rg.q (o := ?_) (v := ?_) ?_ ?_ ?_ ?_ ?_
             rotate_left 2
             · (simp only [List.getElem?_toArray, List.getElem?_cons_succ, List.getElem?_cons_zero]; rfl)
             · exact fun _ _ _ h => h
             · first | rfl | (go_simp; done)
             · (intro x_ hx; (try dsimp only at hx); (try have q1 := (hx (by decide)).1; try have q2 := (hx (by decide)).2); go_simp; (try rw [if_neg (by omega)]); (try rw [if_pos (by omega)]); (try go_simp); try with_reducible rfl)
             try simp only [Act.put, List.setIfInBounds_toArray, List.set_cons_zero, List.set_cons_succ])
          | (refine Rg.skip (o := ?_) ?_ ?_ ?_ ?_
             rotate_left 1
             · (simp only [List.getElem?_toArray, List.getElem?_cons_succ, List.getElem?_cons_zero]; rfl)
             · exact fun _ _ _ h => h
             · first | rfl | (go_simp; done)
             try simp only [Act.put, List.setIfInBounds_toArray, List.set_cons_zero, List.set_cons_succ]))
        refine Rg.e (o := ?_) ?_ ?_
        rotate_left 1
        · (simp only [List.getElem?_toArray, List.getElem?_cons_succ, List.getElem?_cons_zero]; rfl)
        intro K hK
        rw [if_pos (by first | rfl | (go_simp; done))]
        refine opN (f := fI) (.tmp 30) (.tmp 32) 135 3 (.int .i64 0) 8 rfl Tryd.underlying135 infoI rfl (by decide) (by decide) v (idx (bs.take i) b.w) (.slice (some ⟨wx.drew.heap.size, 0, none⟩) 1 1) [(i : Int)] rfl rfl OY.out (rd_one wx.drew _ _ rfl _) (by have := idxL_le b.w (bs.take i) 0; have := HTL.out; unfold idx; simp; omega) ?_
        intro v1 x3 h1 h2 h3 h4
        have hnb : ∀ q cs t, (wx.drew.alloc (.cells #[.int .i64 (i : Int)] 3)).heap[q]? = some (.cells cs t (0, 0)) → t ≠ 3 → ¬ blk v q := fun q cs t hb ht hq => by
          obtain ⟨cs', hb'⟩ := OY.out.typed q hq
          rw [hb] at hb'; injection hb' with hb'; injection hb' with _ e2; exact ht e2
        have h1x := h2.heap TY.out (hnb _ _ _ TY.out (by decide))
        have h0x := h2.heap BY.out (hnb _ _ _ BY.out (by decide))
        have d1 : x3.cell? ⟨mb + 1, 4, Option.none⟩ = some (.map (some mb)) := by rw [blk_cell h1x]; rfl
        have d2 : x3.cell? ⟨wr.heap.size, 0, Option.none⟩ = some (.int .u32 (b.w : Int)) := by rw [blk_cell h0x]; rfl
        have D1 := Aside0.mk d1; have D2 := Aside0.mk d2
        have hbs : wx.drew.heap.size ≤ (wx.drew.alloc (.cells #[.int .i64 (i : Int)] 3)).heap.size := FYB.out.size
        obtain ⟨w2, r1, r2, r3⟩ := hback x3 v1 b rfl (Fr.trans' FYB.out h2) (by rw [HTL.out]; exact h1) (At.le h3 hbs) (by have := hmbw.out; have := FX.out.size; skip; omega)
        have R2 := Aside0.mk r2
        have FF : Aside0 (Fr No w w2) := ⟨((((HF.out.none FX.out).none FYX.out).trans h2 (fun q hq hb => absurd (hvb q hb) (by have := HM.out; omega))).trans r3 (fun q hq hb => by have e' : q = mb := hb; have := HM.out; omega))⟩
        have T2 : Aside0 (w2.heap[mb + 1]? = some (.cells (tbC size cut len (.slice A bs.length c) mb) 134 (0, 0))) := ⟨r3.heap h1x (fun e => by have e' : mb + 1 = mb := e; omega)⟩
        have R1 := Aside0.mk r1
        obtain ⟨A1, c1, rfl⟩ := h1.form
        clear h1 h2 h3 h4 hnb h1x h0x d1 d2 r1 r2 r3 hback hvb
        refine hK.out _ _ (fun k y => k ≤ 3 → (y.cell? ⟨mb + 1, 4, Option.none⟩ = some (.map (some mb)) ∧ y.cell? ⟨wr.heap.size, 0, Option.none⟩ = some (.int .u32 (b.w : Int)))) (fun k x hk h => h) ?_ ?_
        · exact fun _ _ _ => ⟨D1.out, D2.out⟩
        try simp only [Act.put, List.setIfInBounds_toArray, List.set_cons_zero, List.set_cons_succ]
        repeat (first
          | (refine Rg.q (o := ?_) (v := ?_) ?_ ?_ ?_ ?_ ?_
             rotate_left 2
             · (simp only [List.getElem?_toArray, List.getElem?_cons_succ, List.getElem?_cons_zero]; rfl)
             · exact fun _ _ _ h => h
             · first | rfl | (go_simp; done)
             · (intro x_ hx; (try dsimp only at hx); (try have q1 := (hx (by decide)).1; try have q2 := (hx (by decide)).2); go_simp; (try rw [if_neg (by omega)]); (try rw [if_pos (by omega)]); (try go_simp); try with_reducible rfl)
             try simp only [Act.put, List.setIfInBounds_toArray, List.set_cons_zero, List.set_cons_succ])
          | (refine Rg.skip (o := ?_) ?_ ?_ ?_ ?_
             rotate_left 1
             · (simp only [List.getElem?_toArray, List.getElem?_cons_succ, List.getElem?_cons_zero]; rfl)
             · exact fun _ _ _ h => h
             · first | rfl | (go_simp; done)
             try simp only [Act.put, List.setIfInBounds_toArray, List.set_cons_zero, List.set_cons_succ]))
        refine Rg.e (o := ?_) ?_ ?_
        rotate_left 1
        · (simp only [List.getElem?_toArray, List.getElem?_cons_succ, List.getElem?_cons_zero]; rfl)
        intro K hK
        rw [if_pos (by first | rfl | (go_simp; done))]
        refine opMU R1.out rfl rfl rfl rfl ?_
        refine hK.out _ _ (fun _ _ => True) (fun k x hk h h2 => absurd (Nat.le_trans hk h2) (by decide)) ?_ ?_
        · exact fun _ _ => trivial
        try simp only [Act.put, List.setIfInBounds_toArray, List.set_cons_zero, List.set_cons_succ]
        repeat (first
          | (refine Rg.q (o := ?_) (v := ?_) ?_ ?_ ?_ ?_ ?_
             rotate_left 2
             · (simp only [List.getElem?_toArray, List.getElem?_cons_succ, List.getElem?_cons_zero]; rfl)
             · exact fun _ _ _ h => h
             · first | rfl | (go_simp; done)
             · (intro x_ hx; (try dsimp only at hx); (skip); go_simp; (try rw [if_neg (by omega)]); (try rw [if_pos (by omega)]); (try go_simp); try with_reducible rfl)
             try simp only [Act.put, List.setIfInBounds_toArray, List.set_cons_zero, List.set_cons_succ])
          | (refine Rg.skip (o := ?_) ?_ ?_ ?_ ?_
             rotate_left 1
             · (simp only [List.getElem?_toArray, List.getElem?_cons_succ, List.getElem?_cons_zero]; rfl)
             · exact fun _ _ _ h => h
             · first | rfl | (go_simp; done)
             try simp only [Act.put, List.setIfInBounds_toArray, List.set_cons_zero, List.set_cons_succ]))
        refine Rg.done ?_
        go_simp
        go_wp2
        go_roundw
        case rel => exact ⟨i + 1, by go_num, by omega, ⟨by rw [HTK.out]; exact R2.out⟩, T2, FF⟩
        case measure => simp [intOf]; omega
      · refine Rg.e (o := ?_) ?_ ?_
        rotate_left 1
        · (simp only [List.getElem?_toArray, List.getElem?_cons_succ, List.getElem?_cons_zero]; rfl)
        intro K hK
        rw [if_pos (by first | rfl | (go_simp; done))]
        refine opX (ex_buildSlice (oneI (i : Int) wx.drew) rfl (by kernel_rfl)) ?_
        refine hK.out _ _ (fun k y => k ≤ 3 → (y.cell? ⟨mb + 1, 4, Option.none⟩ = some (.map (some mb)) ∧ y.cell? ⟨wr.heap.size, 0, Option.none⟩ = some (.int .u32 (b.w : Int)))) (fun k x hk h => h) ?_ ?_
        · exact fun _ _ _ => ⟨Z1.out, Z2.out⟩
        try simp only [Act.put, List.setIfInBounds_toArray, List.set_cons_zero, List.set_cons_succ]
        repeat (first
          | (refine Rg.q (o := ?_) (v := ?_) ?_ ?_ ?_ ?_ ?_
             rotate_left 2
             · (simp only [List.getElem?_toArray, List.getElem?_cons_succ, List.getElem?_cons_zero]; rfl)
             · exact fun _ _ _ h => h
             · first | rfl | (go_simp; done)
             · (intro x_ hx; (try dsimp only at hx); (try have q1 := (hx (by decide)).1; try have q2 := (hx (by decide)).2); go_simp; (try rw [if_neg (by omega)]); (try rw [if_pos (by omega)]); (try go_simp); try with_reducible rfl)
             try simp only [Act.put, List.setIfInBounds_toArray, List.set_cons_zero, List.set_cons_succ])
          | (refine Rg.skip (o := ?_) ?_ ?_ ?_ ?_
             rotate_left 1
             · (simp only [List.getElem?_toArray, List.getElem?_cons_succ, List.getElem?_cons_zero]; rfl)
             · exact fun _ _ _ h => h
             · first | rfl | (go_simp; done)
             try simp only [Act.put, List.setIfInBounds_toArray, List.set_cons_zero, List.set_cons_succ]))
        refine Rg.e (o := ?_) ?_ ?_
        rotate_left 1
        · (simp only [List.getElem?_toArray, List.getElem?_cons_succ, List.getElem?_cons_zero]; rfl)
        intro K hK
        rw [if_pos (by first | rfl | (go_simp; done))]
        obtain ⟨v, hrun, hOw, hvb, hback⟩ := (HT.out.no (FX.out.none FYX.out)).at_ b.w b.hw (by rw [HTL.out]; omega)
        refine opX (ex_lookup hrun rfl rfl rfl) ?_
        have OY := Aside0.mk hOw
        have FYB : Aside0 (Fr No (wx.drew.alloc (.cells #[.int .i64 (i : Int)] 3)) (wx.drew.alloc (.cells #[.int .i64 (i : Int)] 3))) := ⟨Fr.refl _ _⟩
        clear hOw hrun
        refine hK.out _ _ (fun k y => k ≤ 3 → (y.cell? ⟨mb + 1, 4, Option.none⟩ = some (.map (some mb)) ∧ y.cell? ⟨wr.heap.size, 0, Option.none⟩ = some (.int .u32 (b.w : Int)))) (fun k x hk h => h) ?_ ?_
        · exact fun _ _ _ => ⟨Z1.out, Z2.out⟩
        try simp only [Act.put, List.setIfInBounds_toArray, List.set_cons_zero, List.set_cons_succ]
        repeat (first
          | (refine Rg.q (o := ?_) (v := ?_) ?_ ?_ ?_ ?_ ?_
             rotate_left 2
             · (simp only [List.getElem?_toArray, List.getElem?_cons_succ, List.getElem?_cons_zero]; rfl)
             · exact fun _ _ _ h => h
             · first | rfl | (go_simp; done)
             · (intro x_ hx; (try dsimp only at hx); (try have q1 := (hx (by decide)).1; try have q2 := (hx (by decide)).2); go_simp; (try rw [if_neg (by omega)]); (try rw [if_pos (by omega)]); (try go_simp); try with_reducible rfl)
             try simp only [Act.put, List.setIfInBounds_toArray, List.set_cons_zero, List.set_cons_succ])
          | (refine Rg.skip (o := ?_) ?_ ?_ ?_ ?_
             rotate_left 1
             · (simp only [List.getElem?_toArray, List.getElem?_cons_succ, List.getElem?_cons_zero]; rfl)
             · exact fun _ _ _ h => h
             · first | rfl | (go_simp; done)
             try simp only [Act.put, List.setIfInBounds_toArray, List.set_cons_zero, List.set_cons_succ]))
        refine Rg.e (o := ?_) ?_ ?_
        rotate_left 1
        · (simp only [List.getElem?_toArray, List.getElem?_cons_succ, List.getElem?_cons_zero]; rfl)
        intro K hK
        rw [if_pos (by first | rfl | (go_simp; done))]
        refine opN (f := fI) (.tmp 30) (.tmp 32) 135 3 (.int .i64 0) 8 rfl Tryd.underlying135 infoI rfl (by decide) (by decide) v (idx (bs.take i) b.w) (.slice (some ⟨wx.drew.heap.size, 0, none⟩) 1 1) [(i : Int)] rfl rfl OY.out (rd_one wx.drew _ _ rfl _) (by have := idxL_le b.w (bs.take i) 0; have := HTL.out; unfold idx; simp; omega) ?_
        intro v1 x3 h1 h2 h3 h4
        have hnb : ∀ q cs t, (wx.drew.alloc (.cells #[.int .i64 (i : Int)] 3)).heap[q]? = some (.cells cs t (0, 0)) → t ≠ 3 → ¬ blk v q := fun q cs t hb ht hq => by
          obtain ⟨cs', hb'⟩ := OY.out.typed q hq
          rw [hb] at hb'; injection hb' with hb'; injection hb' with _ e2; exact ht e2
        have h1x := h2.heap TY.out (hnb _ _ _ TY.out (by decide))
        have h0x := h2.heap BY.out (hnb _ _ _ BY.out (by decide))
        have d1 : x3.cell? ⟨mb + 1, 4, Option.none⟩ = some (.map (some mb)) := by rw [blk_cell h1x]; rfl
        have d2 : x3.cell? ⟨wr.heap.size, 0, Option.none⟩ = some (.int .u32 (b.w : Int)) := by rw [blk_cell h0x]; rfl
        have D1 := Aside0.mk d1; have D2 := Aside0.mk d2
        have hbs : (wx.drew.alloc (.cells #[.int .i64 (i : Int)] 3)).heap.size ≤ (wx.drew.alloc (.cells #[.int .i64 (i : Int)] 3)).heap.size := FYB.out.size
        obtain ⟨w2, r1, r2, r3⟩ := hback x3 v1 b rfl (Fr.trans' FYB.out h2) (by rw [HTL.out]; exact h1) (At.le h3 hbs) (by have := hmbw.out; have := FX.out.size; have := FYX.out.size; omega)
        have R2 := Aside0.mk r2
        have FF : Aside0 (Fr No w w2) := ⟨((((HF.out.none FX.out).none FYX.out).trans h2 (fun q hq hb => absurd (hvb q hb) (by have := HM.out; omega))).trans r3 (fun q hq hb => by have e' : q = mb := hb; have := HM.out; omega))⟩
        have T2 : Aside0 (w2.heap[mb + 1]? = some (.cells (tbC size cut len (.slice A bs.length c) mb) 134 (0, 0))) := ⟨r3.heap h1x (fun e => by have e' : mb + 1 = mb := e; omega)⟩
        have R1 := Aside0.mk r1
        obtain ⟨A1, c1, rfl⟩ := h1.form
        clear h1 h2 h3 h4 hnb h1x h0x d1 d2 r1 r2 r3 hback hvb
        refine hK.out _ _ (fun k y => k ≤ 3 → (y.cell? ⟨mb + 1, 4, Option.none⟩ = some (.map (some mb)) ∧ y.cell? ⟨wr.heap.size, 0, Option.none⟩ = some (.int .u32 (b.w : Int)))) (fun k x hk h => h) ?_ ?_
        · exact fun _ _ _ => ⟨D1.out, D2.out⟩
        try simp only [Act.put, List.setIfInBounds_toArray, List.set_cons_zero, List.set_cons_succ]
        repeat (first
          | (refine Rg.q (o := ?_) (v := ?_) ?_ ?_ ?_ ?_ ?_
             rotate_left 2
             · (simp only [List.getElem?_toArray, List.getElem?_cons_succ, List.getElem?_cons_zero]; rfl)
             · exact fun _ _ _ h => h
             · first | rfl | (go_simp; done)
             · (intro x_ hx; (try dsimp only at hx); (try have q1 := (hx (by decide)).1; try have q2 := (hx (by decide)).2); go_simp; (try rw [if_neg (by omega)]); (try rw [if_pos (by omega)]); (try go_simp); try with_reducible rfl)
             try simp only [Act.put, List.setIfInBounds_toArray, List.set_cons_zero, List.set_cons_succ])
          | (refine Rg.skip (o := ?_) ?_ ?_ ?_ ?_
             rotate_left 1
             · (simp only [List.getElem?_toArray, List.getElem?_cons_succ, List.getElem?_cons_zero]; rfl)
             · exact fun _ _ _ h => h
             · first | rfl | (go_simp; done)
             try simp only [Act.put, List.setIfInBounds_toArray, List.set_cons_zero, List.set_cons_succ]))
        refine Rg.e (o := ?_) ?_ ?_
        rotate_left 1
        · (simp only [List.getElem?_toArray, List.getElem?_cons_succ, List.getElem?_cons_zero]; rfl)
        intro K hK
        rw [if_pos (by first | rfl | (go_simp; done))]
        refine opMU R1.out rfl rfl rfl rfl ?_
        refine hK.out _ _ (fun _ _ => True) (fun k x hk h h2 => absurd (Nat.le_trans hk h2) (by decide)) ?_ ?_
        · exact fun _ _ => trivial
        try simp only [Act.put, List.setIfInBounds_toArray, List.set_cons_zero, List.set_cons_succ]
        repeat (first
          | (refine Rg.q (o := ?_) (v := ?_) ?_ ?_ ?_ ?_ ?_
             rotate_left 2
             · (simp only [List.getElem?_toArray, List.getElem?_cons_succ, List.getElem?_cons_zero]; rfl)
             · exact fun _ _ _ h => h
             · first | rfl | (go_simp; done)
             · (intro x_ hx; (try dsimp only at hx); (skip); go_simp; (try rw [if_neg (by omega)]); (try rw [if_pos (by omega)]); (try go_simp); try with_reducible rfl)
             try simp only [Act.put, List.setIfInBounds_toArray, List.set_cons_zero, List.set_cons_succ])
          | (refine Rg.skip (o := ?_) ?_ ?_ ?_ ?_
             rotate_left 1
             · (simp only [List.getElem?_toArray, List.getElem?_cons_succ, List.getElem?_cons_zero]; rfl)
             · exact fun _ _ _ h => h
             · first | rfl | (go_simp; done)
             try simp only [Act.put, List.setIfInBounds_toArray, List.set_cons_zero, List.set_cons_succ]))
        refine Rg.done ?_
        go_simp
        go_wp2
        go_roundw
        case rel => exact ⟨i + 1, by go_num, by omega, ⟨by rw [HTK.out]; exact R2.out⟩, T2, FF⟩
        case measure => simp [intOf]; omega
    · have hiI : ¬ (i : Int) < (bs.length : Int) := by omega
      have hin : i = bs.length := by omega
      have hT := HT.out
      rw [hin, List.take_length] at hT
      have HTe := Aside0.mk hT
      clear hT
      go_wp2
      go_ret
      exact ⟨_, rfl, ⟨mb, by have := HM.out; omega, rfl, H1.out, HTe.out⟩, HF.out⟩
end Go.Proofs.YtanbddaecojijaaDoor.Blk
namespace Go.Proofs.YtanbddaecojijaaDoor.Blk
open Go.RowKit Go.IntWalk Go.Proofs.YtanbddaecojijaaDoorW.PrintWords Go.Proofs.YtanbddaecojijaaDoor.B Go.Proofs.YtanbddaecojijaaDoor.PB Go.Proofs.YtanbddaecojijaaDoor.SWeak Go.Proofs.YtanbddaecojijaaDoor.Bk Go.Proofs.YtanbddaecojijaaDoor.SBlk
attribute [local go_sem] B.max2_int B.min2_int B.max_two B.min_two

set_option maxHeartbeats 4000000 in
set_option maxRecDepth 100000 in
theorem find_calls (p sl vb : Value) (n m s L : Nat) (cut : Int) (bs : List BK) (b : List UInt8) (w : World) (hT : Tbl w p n s cut L sl bs) (hv : Rd (fBk .u32) w sl bs) (hn : bs.length ≤ 100000) (hb : RdB w vb b) (hbl : b.length ≤ 100000000) (hm : m < 4294967296) (hs : s ≤ 4096) (hL : L ≤ 9223372036854775807)
    (hin : ∀ i, i < bs.length → i * s < L) (h1 : -9223372036854775808 ≤ cut) (h2 : cut ≤ 9223372036854775807) : Calls Tryd.prog 31 #[p, .int .u32 (m : Int), vb] w fun e w' =>
    e = .returned (.tuple #[.int .i64 (fnd (findL (hit s L ⟨m, Sha.cut cut b, Sha.cut_length cut b, hm⟩ b.length) 0 bs)).1, .bool (fnd (findL (hit s L ⟨m, Sha.cut cut b, Sha.cut_length cut b, hm⟩ b.length) 0 bs)).2]) ∧ Fr No w w' := by
  obtain ⟨mb, hnm, rfl, hT1, hG⟩ := hT
  obtain ⟨A, c, rfl, hAc, hcm, _⟩ := id hv
  obtain ⟨A', c', rfl, hAc', hcm', _⟩ := id hb
  obtain ⟨t, ht⟩ : ∃ t : BK, (⟨m, Sha.cut cut b, Sha.cut_length cut b, hm⟩ : BK) = t := ⟨_, rfl⟩
  have htw : t.w = m := by rw [← ht]
  have hts : t.st = Sha.cut cut b := by rw [← ht]
  rw [ht]
  have hfi := find_idx (hit s L t b.length) m (fun i b h => (hit_w h).trans htw) bs
  obtain ⟨r, hr⟩ : ∃ r, findL (hit s L t b.length) 0 bs = r := ⟨_, rfl⟩
  rw [hr] at hfi ⊢
  obtain ⟨v, hrun, hOw, _, _⟩ := hG.at_ m hm (by omega)
  have hidx := idxL_mem m bs 0
  have hile := idxL_le m bs 0
  obtain ⟨zs, hzs⟩ : ∃ zs, idx bs m = zs := ⟨_, rfl⟩
  unfold idx at hzs
  rw [hzs] at hidx hile
  change (idxL 0 bs m).find? _ = _ at hfi
  change Ow fI 3 w v (idxL 0 bs m) at hOw
  rw [hzs] at hfi hOw
  obtain ⟨A2, c2, rfl⟩ := hOw.form
  have hRz : Rd fI w (.slice A2 zs.length c2) zs := hOw.rd
  have HZ := Aside0.mk hRz; have HI := Aside0.mk hidx; have HF0 := Aside0.mk hfi; have HS := Aside0.mk hts; have HW := Aside0.mk htw; have HV := Aside0.mk hv; have HB := Aside0.mk hb; have HIN := Aside0.mk hin; have HT := Aside0.mk hT1
  have HRN := Aside0.mk hrun
  have c4 : w.cell? ⟨mb + 1, 4, Option.none⟩ = some (.map (some mb)) := by rw [blk_cell hT1]; rfl
  have c1 : w.cell? ⟨mb + 1, 1, Option.none⟩ = some (.int .i64 cut) := by rw [blk_cell hT1]; rfl
  clear hT1 hv hb ht htw hts hfi hr hrun hOw hidx hzs hRz hin hG
  go_enter Tryd.func31, Tryd.ntmps31
  by_cases hz0 : zs.length = 0
  · have hz0I : ((zs.length : Int) == 0) = true := by rw [hz0]; rfl
    have e : r = none := by
      obtain rfl := List.length_eq_zero_iff.1 hz0
      have h9 := HF0.out
      cases r with
      | none => rfl
      | some i => cases h9
    subst e
    go_wp2_with (refine lsX rfl (ex_lookup HRN.out rfl rfl rfl) ?_)
    (try simp only [Exit.inBlock, Exit.then]); refine bodyPost_ret (results_list (rs := [.tmp 6, .tmp 7]) rfl (by simp) (.tmp (.tmp .nil))) rfl ?_
    exact ⟨rfl, Fr.refl _ _⟩
  · have hz0I : ((zs.length : Int) == 0) = false := by rw [beq_eq_false_iff_ne]; omega
    go_wp2_with (first | (refine lsX rfl (ex_lookup HRN.out rfl rfl rfl) ?_) | fail)
    have hc := Sha.cut_calls cut _ b w HB.out hbl h1 h2
    rw [← HS.out] at hc
    refine hc.mono ?_
    rintro e w1 ⟨rfl, hf⟩
    have F1 := Aside0.mk hf
    have HSZ : Aside0 ((t.st.map vu8).toArray.size = 32) := ⟨by simp [t.h]⟩
    clear hf hc c4 c1
    go_wp2_with (refine PB.stRow (.tmp 9) (.tmp 29) 57 w1.heap.size 57 _ (t.st.map vu8).toArray rfl rfl rfl rfl (heap_alloc_new w1 _) (by rw [HSZ.out]; kernel_rfl) (by rw [HSZ.out]; rfl) (by rw [Array.all_eq_true]; intro i hi; simp [Value.oneCell']) ?_; rw [World.setRow_alloc_new])
    have X9 : Aside0 ((w1.alloc (.cells (t.st.map vu8).toArray 57)).heap[w1.heap.size]? = some (.cells (t.st.map vu8).toArray 57 (0, 0))) := ⟨heap_alloc_new w1 _⟩
    have F2 : Aside0 (Fr No w (w1.alloc (.cells (t.st.map vu8).toArray 57))) := ⟨F1.out.alloc _⟩
    change Code.wp _ _ _ _ (w1.alloc (.cells (t.st.map vu8).toArray 57))
    generalize w1.alloc (.cells (t.st.map vu8).toArray 57) = w2 at X9 F2 ⊢
    go_loopw [32] (fun v32 wr => ∃ j : Nat, v32 = .int .i64 (j : Int) ∧ j ≤ zs.length ∧ Aside0 (∀ (k : Nat) (y : Int), k < j → zs[k]? = some y → hitZ (hit s L t b.length) bs y = false) ∧ Aside0 (Fr No w2 wr)) (fun v32 _ => zs.length - (intOf v32).toNat)
    case atStart => exact ⟨0, rfl, Nat.zero_le _, ⟨fun k y hk => absurd hk (by omega)⟩, ⟨Fr.refl _ _⟩⟩
    case round =>
      obtain ⟨j, rfl, hj, HH, HF⟩ := hrel
      by_cases hjl : j < zs.length
      · have hjI : (j : Int) < (zs.length : Int) := by omega
        obtain ⟨z, hz⟩ : ∃ z, zs[j]? = some z := ⟨_, List.getElem?_eq_getElem hjl⟩
        obtain ⟨i, hzi, b', hb', hbw⟩ := HI.out z (List.mem_of_getElem? hz)
        rw [Nat.zero_add] at hzi
        subst hzi
        have hil := (List.getElem?_eq_some_iff.1 hb').1
        have hiL := HIN.out i hil
        obtain ⟨q, hq⟩ : ∃ q, i * s = q := ⟨_, rfl⟩
        obtain ⟨k, hk⟩ : ∃ k, min s (L - q) = k := ⟨_, rfl⟩
        have hsp := fun W => span_calls s i L cut A bs.length c W hil hL hs hiL
        rw [hq] at hsp hiL
        rw [hk] at hsp
        have HH2 : Aside0 (hitZ (hit s L t b.length) bs (i : Int) = (decide (k = b.length) && decide (b' = t))) := ⟨by unfold hitZ hit; rw [Int.toNat_natCast, hb']; simp only; rw [hq, hk]⟩
        have FW : Aside0 (Fr No w wr) := ⟨F2.out.none HF.out⟩
        obtain ⟨ad2, hA2, hcz⟩ := rd_elem HZ.out j _ hz
        obtain ⟨ad, hA, hcv⟩ := rd_at HV.out i b' hb'
        have hz1 : wr.cell? (ad2.add j) = some (.int .i64 (i : Int)) := by
          have := (hcz.no FW.out) 0 (.int .i64 (i : Int)) rfl
          rw [add_add, show j * fI.sz + 0 = j from by rw [show fI.sz = 1 from rfl]; omega] at this
          exact this
        have LS : ∀ x, Fr No wr x → (loadVar 26 ⟨mb + 1, 0, none⟩).run Tryd.prog x = .ok (.agg (sgC s cut L (.slice A bs.length c))) x := fun x hx => run_loadVar_cells (cs := [.int .i64 s, .int .i64 cut, .int .i64 L, .slice A bs.length c]) (Cv.take (ds := [.map (some mb)]) (Cv.of_block (hx.heap (FW.out.heap HT.out id) id) 0)) Tryd.underlying26 rfl (by kernel_rfl)
        have HA := Aside0.mk hA; have HA2 := Aside0.mk hA2
        have HZJ := Aside0.mk hz; have HSP := Aside0.mk hsp; have HCV := Aside0.mk hcv
        clear hb' hz hA hA2 hcz hcv hsp hk hq
        go_wp2_with (first
          | (refine ixI (.tmp 30) (.tmp 32) ad2 A2 zs.length c2 j rfl rfl rfl HA2.out rfl hjl ?_)
          | (refine ldG (.tmp 39) 26 _ _ rfl rfl (LS _ (Fr.refl _ _)) (by first | rfl | (go_simp; done)) ?_)
          | fail)
        refine (HSP.out wr).mono ?_
        rintro e w4 ⟨rfl, hf⟩
        have F4 := Aside0.mk hf
        have FW4 : Aside0 (Fr No w w4) := ⟨FW.out.none hf⟩
        have FX : Aside0 (Fr No w w4.drew) := ⟨FW4.out.drew⟩
        clear hf LS hz1
        have LB : ∀ x, Fr No w x → (loadVar 101 (ad.add (i * 33))).run Tryd.prog x = .ok (.agg (bkC .u32 b')) x := ld_elem HCV.out Tryd.underlying101 rfl (by rw [bkL_length]; kernel_rfl)
        have c3 : w.cell? ⟨mb + 1, 3, Option.none⟩ = some (.slice A bs.length c) := by rw [blk_cell HT.out]; rfl
        have h9w : Aside0 (w4.heap[w1.heap.size]? = some (.cells (t.st.map vu8).toArray 57 (0, 0))) := ⟨F4.out.heap (HF.out.heap X9.out id) id⟩
        have L9 : ∀ x, Fr No w4 x → (loadVar 57 ⟨w1.heap.size, 0, none⟩).run Tryd.prog x = .ok (Arr.av t.st) x := ld_all (P := Tryd.prog) (ty := 57) h9w.out Tryd.underlying57 rfl (by rw [HSZ.out]; kernel_rfl)
        have BP : ∀ W : World, (Instr.build 101 #[(0, .int .u32 (m : Int)), (1, Arr.av t.st)]).run Tryd.prog W = .ok (.agg (bkC .u32 t)) W := fun W => by rw [← HW.out]; exact buildP t W
        have qn := fun W => eqlP b' t W
        have qg := fun x y W => run_eqGuard_agg (P := Tryd.prog) W .eql 101 x y (bkC .u32 b') (bkC .u32 t) (by kernel_rfl)
        by_cases hkb : k = b.length
        · have hkI : ((k : Int) == (b.length : Int)) = true := by rw [hkb]; simp
          obtain ⟨B, hB⟩ : ∃ B : Bool, decide (b' = t) = B := ⟨_, rfl⟩
          have HH3 := HH2.out
          rw [decide_eq_true hkb, Bool.true_and, hB] at HH3
          rw [hB] at qn
          have HH4 := Aside0.mk HH3
          clear HH3 hB
          subst hkb
          go_wp2
          refine Rg.start (fun _ x => Fr No w4 x) (by kernel_rfl) (by kernel_rfl) [] [] (by kernel_rfl) (.q 0 0 (.q 1 0 (.q 2 0 (.q 3 0 (.q 4 0 (.q 5 0 (.q 6 0 (.q 7 0 (.q 8 0 (.q 9 0 (.q 10 0 (.q 11 0 (.q 12 0 (.q 13 0 (.q 14 0 (.q 15 0 (.q 16 0 (.q 17 0 (.done))))))))))))))))))) (by kernel_rfl) ?_ ?_
          · exact fun _ => (Fr.refl _ _).drew
          repeat (first
            | (refine Rg.q (o := ?_) (v := ?_) ?_ ?_ ?_ ?_ ?_
               rotate_left 2
               · (simp only [List.getElem?_toArray, List.getElem?_cons_succ, List.getElem?_cons_zero]; rfl)
               · exact fun _ _ _ h => h
               · first | rfl | (go_simp; done)
               · (intro x_ hx; (try dsimp only at hx); first | (first|(refine (ex_ix 24 101 33 (.tmp 54) (.tmp 55) ad A bs.length c i _ Tryd.underlying24 (by kernel_rfl) rfl rfl HA.out rfl rfl hil).trans ?_; with_reducible rfl)|(refine (ex_build (BP _) rfl (by kernel_rfl)).trans ?_; with_reducible rfl)) | (first|(refine (ex_ld rfl rfl (LB _ (FW4.out.none hx))).trans ?_; with_reducible rfl)|(refine (ex_ld rfl rfl (L9 _ hx)).trans ?_; with_reducible rfl)) | (have q1 := (FW4.out.none hx).cell c3 id; (try clear hx); go_simp; (try rw [if_neg (by omega)]); (try rw [if_pos (by omega)]); (try go_simp); try with_reducible rfl))
               try simp only [Act.put, List.setIfInBounds_toArray, List.set_cons_zero, List.set_cons_succ])
            | (refine Rg.skip (o := ?_) ?_ ?_ ?_ ?_
               rotate_left 1
               · (simp only [List.getElem?_toArray, List.getElem?_cons_succ, List.getElem?_cons_zero]; rfl)
               · exact fun _ _ _ h => h
               · first | rfl | (go_simp; done)
               try simp only [Act.put, List.setIfInBounds_toArray, List.set_cons_zero, List.set_cons_succ]))
          refine Rg.done ?_
          go_simp
          clear LB L9 BP qn qg c3
          cases B
          · go_wp2
            go_roundw
            case rel => exact ⟨j + 1, by go_num, by omega, ⟨fun k y hk hy => by
              by_cases hkj : k = j
              · subst hkj; rw [HZJ.out] at hy; injection hy with hy; subst hy; exact HH4.out
              · exact HH.out k y (by omega) hy⟩, ⟨HF.out.none (F4.out.drew)⟩⟩
            case measure => simp [intOf]; omega
          · have e : r = some i := by
              have h9 := HF0.out
              rw [find_some HZJ.out HH4.out HH.out] at h9
              cases r with
              | none => cases h9
              | some i' => simp only [Option.map_some, Option.some.injEq] at h9; rw [Int.ofNat_inj.1 h9]
            subst e
            go_wp2
            (try simp only [Exit.inBlock, Exit.then]); refine bodyPost_ret (results_list (rs := [.tmp 6, .tmp 7]) rfl (by simp) (.tmp (.tmp .nil))) rfl ?_
            exact ⟨rfl, FX.out⟩
        · have hkI : ((k : Int) == (b.length : Int)) = false := by rw [beq_eq_false_iff_ne]; omega
          have HH4 : Aside0 (hitZ (hit s L t b.length) bs (i : Int) = false) := ⟨by rw [HH2.out, decide_eq_false hkb]; rfl⟩
          go_wp2
          refine Rg.start (fun _ x => Fr No w4 x) (by kernel_rfl) (by kernel_rfl) [] [] (by kernel_rfl) (.q 0 0 (.q 1 0 (.q 2 0 (.q 3 0 (.q 4 0 (.q 5 0 (.q 6 0 (.q 7 0 (.q 8 0 (.q 9 0 (.q 10 0 (.q 11 0 (.q 12 0 (.q 13 0 (.q 14 0 (.q 15 0 (.q 16 0 (.q 17 0 (.done))))))))))))))))))) (by kernel_rfl) ?_ ?_
          · exact fun _ => (Fr.refl _ _).drew
          repeat (first
            | (refine Rg.q (o := ?_) (v := ?_) ?_ ?_ ?_ ?_ ?_
               rotate_left 2
               · (simp only [List.getElem?_toArray, List.getElem?_cons_succ, List.getElem?_cons_zero]; rfl)
               · exact fun _ _ _ h => h
               · first | rfl | (go_simp; done)
               · (intro x_ hx; (try dsimp only at hx); first | (first|(refine (ex_ix 24 101 33 (.tmp 54) (.tmp 55) ad A bs.length c i _ Tryd.underlying24 (by kernel_rfl) rfl rfl HA.out rfl rfl hil).trans ?_; with_reducible rfl)|(refine (ex_build (BP _) rfl (by kernel_rfl)).trans ?_; with_reducible rfl)) | (first|(refine (ex_ld rfl rfl (LB _ (FW4.out.none hx))).trans ?_; with_reducible rfl)|(refine (ex_ld rfl rfl (L9 _ hx)).trans ?_; with_reducible rfl)) | (have q1 := (FW4.out.none hx).cell c3 id; (try clear hx); go_simp; (try rw [if_neg (by omega)]); (try rw [if_pos (by omega)]); (try go_simp); try with_reducible rfl))
               try simp only [Act.put, List.setIfInBounds_toArray, List.set_cons_zero, List.set_cons_succ])
            | (refine Rg.skip (o := ?_) ?_ ?_ ?_ ?_
               rotate_left 1
               · (simp only [List.getElem?_toArray, List.getElem?_cons_succ, List.getElem?_cons_zero]; rfl)
               · exact fun _ _ _ h => h
               · first | rfl | (go_simp; done)
               try simp only [Act.put, List.setIfInBounds_toArray, List.set_cons_zero, List.set_cons_succ]))
          refine Rg.done ?_
          go_simp
          clear LB L9 BP qn qg c3
          go_wp2
          go_roundw
          case rel => exact ⟨j + 1, by go_num, by omega, ⟨fun k y hk hy => by
            by_cases hkj : k = j
            · subst hkj; rw [HZJ.out] at hy; injection hy with hy; subst hy; exact HH4.out
            · exact HH.out k y (by omega) hy⟩, ⟨HF.out.none (F4.out.drew)⟩⟩
          case measure => simp [intOf]; omega
      · have hjI : ¬ (j : Int) < (zs.length : Int) := by omega
        have e : r = none := by
          have h9 := HF0.out
          rw [find_none (fun k y hy => HH.out k y (by have := (List.getElem?_eq_some_iff.1 hy).1; omega) hy)] at h9
          cases r with
          | none => rfl
          | some i => cases h9
        subst e
        go_wp2
        (try simp only [Exit.inBlock, Exit.then]); refine bodyPost_ret (results_list (rs := [.tmp 6, .tmp 7]) rfl (by simp) (.tmp (.tmp .nil))) rfl ?_
        exact ⟨rfl, F2.out.none HF.out⟩
end Go.Proofs.YtanbddaecojijaaDoor.Blk
