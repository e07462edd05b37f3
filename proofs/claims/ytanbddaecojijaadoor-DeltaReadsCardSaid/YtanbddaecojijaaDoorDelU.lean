/- slices.Clone of bytes, delta.add: walked. delta.add: blocks that go on: walked. delta.add: bytes that go on: walked. delta.add, in all cases. -/
import Derived.Test.YtanbddaecojijaaDoorTk
import Derived.Test.YtanbddaecojijaaDoorBlkB
import Derived.Lib.SliceRun
set_option linter.unusedVariables false
set_option linter.unusedSimpArgs false
namespace Go.Proofs.YtanbddaecojijaaDoor.Tk
open Go.RowKit Go.IntWalk Go.Proofs.YtanbddaecojijaaDoorW.PrintWords Go.Proofs.YtanbddaecojijaaDoor.B Go.Proofs.YtanbddaecojijaaDoor.PB Go.Proofs.YtanbddaecojijaaDoor.STell Go.Proofs.YtanbddaecojijaaDoor.Blk Go.Proofs.YtanbddaecojijaaDoor.Bk

set_option maxHeartbeats 1000000 in
set_option maxRecDepth 100000 in
theorem clone_calls (v : Value) (xs : List UInt8) (w : World) (hv : RdB w v xs) (hl : xs.length ≤ 1000000000) : Calls Tryd.prog 74 #[v] w fun e w' => ∃ v', e = .returned v' ∧ On w w' v' xs := by
  obtain ⟨A, c, rfl, h1, h2, h3⟩ := id hv
  have HV := Aside0.mk hv
  clear hv
  cases A with
  | none =>
    have hx : xs = [] := by
      rcases Nat.eq_zero_or_pos xs.length with h | h
      · exact List.length_eq_zero_iff.1 h
      · obtain ⟨ad, he, _⟩ := h3 h; cases he
    subst hx
    clear h3
    go_enter Tryd.func74, Tryd.ntmps74
    have qn : ∀ W, (binOp .eql 22 (.slice none 0 c) (.slice none 0 0)).run Tryd.prog W = .ok (.bool true) W := fun W => Lib.run_eql_slice_nil W _ 5 none _ _ _ _ Tryd.underlying22
    go_wp2
    go_ret
    exact ⟨_, rfl, On.nil (Fr.refl _ _)⟩
  | some ad =>
    clear h3
    have N0 : Aside0 (On w (w.alloc (.cells #[] 5)) (.slice (some ⟨w.heap.size, 0, none⟩) 0 0) []) := ⟨own_empty w, fun q hq => Nat.le_of_eq (by simpa [Value.ownBlock] using hq), (Fr.refl _ _).alloc _⟩
    go_enter Tryd.func74, Tryd.ntmps74
    have qn : ∀ W, (binOp .eql 22 (.slice (some ad) xs.length c) (.slice none 0 0)).run Tryd.prog W = .ok (.bool false) W := fun W => Lib.run_eql_slice_nil W _ 5 (some ad) _ _ _ _ Tryd.underlying22
    go_wp2_with (at_builtin; refine apBs (.slice (some ⟨w.heap.size, 0, none⟩) 0 0) [] (.slice (some ad) xs.length c) xs rfl (.tmp 5) (.tmp 6) rfl rfl rfl N0.out.own (HV.out.no N0.out.fr) (by simp; omega) ?_; intro v1 w4 i1 i2 i3 i4; have N1 : Aside0 (On w w4 v1 ([] ++ xs)) := ⟨N0.out.step i1 i2 i3⟩; clear i1 i2 i3 i4; rw [List.nil_append] at N1)
    go_ret
    exact ⟨_, rfl, N1.out⟩

theorem fs_map_snoc {fs : List TV} {p : List Tok} {a : Tok} (h : fs.map TV.tok = p ++ [a]) : ∃ fp e, fs = fp ++ [e] ∧ fp.map TV.tok = p ∧ e.tok = a := by
  rcases snoc_or fs with rfl | ⟨fp, e, rfl⟩
  · cases p <;> simp at h
  · rw [List.map_append, List.map_cons, List.map_nil] at h
    have h1 := List.append_inj' h rfl
    exact ⟨fp, e, rfl, h1.1, by simpa using h1.2⟩
/-- What a token is put behind: what is known of the last one. -/
def small (t : Tok) : Prop := 0 ≤ t.1 ∧ t.1 ≤ 4611686018427387904 ∧ 0 ≤ t.2.1 ∧ t.2.1 ≤ 1000000 ∧ t.2.2.length ≤ 100000000

set_option maxRecDepth 100000 in
theorem oneT (f c : Int) (d : Value) (W : World) : (Instr.buildSlice 44 1 #[(0, .agg (tkC f c d))]).run Tryd.prog W = .ok (.slice (some ⟨W.heap.size, 0, none⟩) 1 1) (W.alloc (.cells (tkC f c d) 117)) :=
  run_bs1 (s := 3) Tryd.underlying44 (by kernel_rfl) (by kernel_rfl) (by decide) (by decide) _ rfl W
theorem joins_none {a t : Tok} (h : joins a t = none) (ha : 0 ≤ a.2.1) (ht : 0 ≤ t.2.1) : (t.2.1 = 0 ∧ 0 < a.2.1) ∨ (0 < t.2.1 ∧ a.2.1 = 0) ∨ (0 < t.2.1 ∧ 0 < a.2.1 ∧ a.1 + a.2.1 ≠ t.1) := by
  unfold joins at h
  split at h
  · cases h
  · split at h
    · cases h
    · omega

set_option maxHeartbeats 20000000 in
set_option maxRecDepth 100000 in
/-- Put behind the others, as one more. -/
theorem add_new (n : Nat) (vo : Value) (fs : List TV) (f c : Int) (d : Value) (xs : List UInt8) (w : World) (hT : Tks w n vo fs) (hn : n ≤ w.heap.size) (hfl : fs.length ≤ 1000000) (hd : RdB w d xs) (hx : xs.length ≤ 100000000)
    (hs : ∀ e ∈ fs, small e.tok) (ht : small (f, c, xs)) (hj : ∀ p e, fs = p ++ [e] → joins e.tok (f, c, xs) = none) :
    Calls Tryd.prog 68 #[vo, .agg (tkC f c d)] w fun e w' => ∃ vo', e = .returned vo' ∧ Tl w' n vo' (fs.map TV.tok ++ [(f, c, xs)]) ∧ Fr (Up n) w w' := by
  obtain ⟨A, cc, rfl⟩ := hT.row.form
  obtain ⟨Ad, cd, rfl, _⟩ := id hd
  obtain ⟨t1, t2, t3, t4, _⟩ := ht
  dsimp only at t1 t2 t3 t4
  have HT := Aside0.mk hT; have HD := Aside0.mk hd
  have hb := heap_alloc_new w (.cells (tkC f c (.slice Ad xs.length cd)) 117)
  rcases snoc_or fs with h0 | ⟨p, e, h0⟩
  case' inl =>
    have hl0 : fs.length = 0 := by rw [h0]; rfl
    have hlI : ¬ (0 : Int) ≤ (fs.length : Int) - 1 := by omega
    clear hT hd hs hj h0 hl0
    go_enter Tryd.func68, Tryd.ntmps68
    go_wp2_with fail
    clear hlI
    have XB := Aside0.mk hb
    have FW : Aside0 (Fr No w (w.alloc (.cells (tkC f c (.slice Ad xs.length cd)) 117))) := ⟨(Fr.refl _ _).alloc _⟩
    clear hb
    change Calls _ _ _ (w.alloc (.cells (tkC f c (.slice Ad xs.length cd)) 117)) _
    generalize w.alloc (.cells (tkC f c (.slice Ad xs.length cd)) 117) = wc at XB FW ⊢
  case' inr =>
    have hjn := joins_none (hj p e h0) (hs e (by rw [h0]; simp)).2.2.1 t3
    have hse := hs e (by rw [h0]; simp)
    obtain ⟨s1, s2, s3, s4, _⟩ := hse
    obtain ⟨ef, ec, eA, ecp, exs⟩ := e
    dsimp only [TV.tok] at hjn s1 s2 s3 s4
    have hl0 : fs.length = p.length + 1 := by rw [h0]; simp
    have hlI : (fs.length : Int) - 1 = (p.length : Int) := by omega
    have hpl : p.length < fs.length := by omega
    obtain ⟨g, c9, he9, _⟩ := hT.row.at_ (by omega)
    injection he9 with e1 e2 e3
    subst e1
    subst e3
    clear e2
    obtain ⟨A', c', he', _, _, hc⟩ := hT.row.rd
    injection he' with e4 _ e5
    subst e4
    subst e5
    obtain ⟨ad, had, hcell⟩ := hc (by omega)
    injection had with had
    subst had
    have hfe : fs[p.length]? = some ⟨ef, ec, eA, ecp, exs⟩ := by rw [h0]; simp
    have hcv : ∀ i u, (fT.enc (⟨ef, ec, eA, ecp, exs⟩ : TV))[i]? = some u → w.cell? ⟨g, p.length * 3 + i, none⟩ = some u := fun i u hu => by
      have hi : i < 3 := (List.getElem?_eq_some_iff.1 hu).1
      have h1 := fT.cells_get fs p.length _ hfe i hi
      have h2 := hcell (p.length * 3 + i) u (by rw [show p.length * 3 + i = p.length * fT.sz + i from rfl, h1]; exact hu)
      rw [show (⟨g, 0, none⟩ : Addr).add (p.length * 3 + i) = ⟨g, p.length * 3 + i, none⟩ from by unfold Addr.add; split <;> simp_all] at h2
      exact h2
    have kk0 : w.cell? ⟨g, p.length * 3, Option.none⟩ = some (.int .i64 ef) := hcv 0 _ rfl
    have kk1 : w.cell? ⟨g, p.length * 3 + 1, Option.none⟩ = some (.int .i64 ec) := hcv 1 _ rfl
    have HLI := Aside0.mk hlI
    have hwe : IntKind.i64.wrap (ef + ec) = ef + ec := by rw [i64_left]; exact wrap64_in _ (by omega)
    clear hT hd hs hj h0 hcv hc hcell hfe hlI hl0
    go_enter Tryd.func68, Tryd.ntmps68
    go_upto_region 1 with fail
    have XA := Aside0.mk hb
    have FA : Aside0 (Fr No w (w.alloc (.cells (tkC f c (.slice Ad xs.length cd)) 117))) := ⟨(Fr.refl _ _).alloc _⟩
    clear hb
    change Code.wp _ _ _ _ (w.alloc (.cells (tkC f c (.slice Ad xs.length cd)) 117))
    generalize w.alloc (.cells (tkC f c (.slice Ad xs.length cd)) 117) = wa at XA FA ⊢
    have k0 := FA.out.cell kk0 id
    have k1 := FA.out.cell kk1 id
    have c0 : wa.cell? ⟨w.heap.size, 0, Option.none⟩ = some (.int .i64 f) := by rw [blk_cell XA.out]; rfl
    have c1 : wa.cell? ⟨w.heap.size, 1, Option.none⟩ = some (.int .i64 c) := by rw [blk_cell XA.out]; rfl
    clear kk0 kk1
    have hlI := HLI.out
    go_upto_region 4 with (refine lsIx 44 117 3 (.tmp 12) (.tmp 13) ⟨g, 0, none⟩ (some ⟨g, 0, none⟩) fs.length cc p.length _ Tryd.underlying44 (by kernel_rfl) rfl rfl rfl rfl rfl rfl hpl ?_)
    rcases hjn with ⟨j1, j2⟩ | ⟨j1, j2⟩ | ⟨j1, j2, j3⟩
    case' inl =>
      have j3 : ¬ 0 < c := by omega
      have j4 : (c == 0) = true := by rw [beq_iff_eq]; exact j1
      have j5 : (ec == 0) = false := by rw [beq_eq_false_iff_ne]; omega
      clear j1
      refine Rg.start (fun _ x => Fr No wa x) (by kernel_rfl) (by kernel_rfl) [] [] (by kernel_rfl) (.q 0 0 (.q 1 0 (.q 2 0 (.q 3 0 (.q 4 0 (.q 5 0 (.q 6 0 (.q 7 0 (.q 8 0 (.q 9 0 (.q 10 0 (.q 11 0 (.q 12 0 (.q 13 0 (.q 14 0 (.q 15 0 (.q 16 0 (.q 17 0 (.q 18 0 (.q 19 0 (.q 20 0 (.q 21 0 (.q 22 0 (.q 23 0 (.q 24 0 (.done)))))))))))))))))))))))))) (by kernel_rfl) ?_ ?_
      · exact fun _ => (Fr.refl _ _).drew
      repeat (first
        | (refine Rg.q (o := ?_) (v := ?_) ?_ ?_ ?_ ?_ ?_
           rotate_left 2
           · (simp only [List.getElem?_toArray, List.getElem?_cons_succ, List.getElem?_cons_zero]; rfl)
           · exact fun _ _ _ h => h
           · first | rfl | (go_simp; done)
           · (intro x_ hx; (try dsimp only at hx); (have q0 := hx.cell k0 id; have q1 := hx.cell k1 id; have q2 := hx.cell c0 id; have q3 := hx.cell c1 id); go_simp; (try rw [if_neg (by omega)]); (try rw [if_pos (by omega)]); (try go_simp); try with_reducible rfl)
           try simp only [Act.put, List.setIfInBounds_toArray, List.set_cons_zero, List.set_cons_succ])
        | (refine Rg.skip (o := ?_) ?_ ?_ ?_ ?_
           rotate_left 1
           · (simp only [List.getElem?_toArray, List.getElem?_cons_succ, List.getElem?_cons_zero]; rfl)
           · exact fun _ _ _ h => h
           · first | rfl | (go_simp; done)
           try simp only [Act.put, List.setIfInBounds_toArray, List.set_cons_zero, List.set_cons_succ]))
      refine Rg.done ?_
      go_simp
      have d0 : wa.drew.cell? ⟨g, p.length * 3, Option.none⟩ = some (.int .i64 ef) := k0
      have d1 : wa.drew.cell? ⟨g, p.length * 3 + 1, Option.none⟩ = some (.int .i64 ec) := k1
      have d3 : wa.drew.cell? ⟨w.heap.size, 1, Option.none⟩ = some (.int .i64 c) := c1
      have d2 : wa.drew.cell? ⟨w.heap.size, 2, Option.none⟩ = some (.slice Ad xs.length cd) := by rw [show wa.drew.cell? ⟨w.heap.size, 2, Option.none⟩ = wa.cell? ⟨w.heap.size, 2, Option.none⟩ from rfl, blk_cell XA.out]; rfl
      go_wp2_with fail
      have XB : Aside0 (wa.drew.heap[w.heap.size]? = some (.cells (tkC f c (.slice Ad xs.length cd)) 117 (0, 0))) := ⟨XA.out⟩
      have FW : Aside0 (Fr No w wa.drew) := ⟨FA.out.drew⟩
      clear d0 d1 d2 d3 k0 k1 c0 c1
      generalize wa.drew = wc at XB FW ⊢
    case' inr.inl =>
      have j3 : ¬ 0 < ec := by omega
      clear j2
      have j4 : (c == 0) = false := by rw [beq_eq_false_iff_ne]; omega
      refine Rg.start (fun _ x => Fr No wa x) (by kernel_rfl) (by kernel_rfl) [] [] (by kernel_rfl) (.q 0 0 (.q 1 0 (.q 2 0 (.q 3 0 (.q 4 0 (.q 5 0 (.q 6 0 (.q 7 0 (.q 8 0 (.q 9 0 (.q 10 0 (.q 11 0 (.q 12 0 (.q 13 0 (.q 14 0 (.q 15 0 (.q 16 0 (.q 17 0 (.q 18 0 (.q 19 0 (.q 20 0 (.q 21 0 (.q 22 0 (.q 23 0 (.q 24 0 (.done)))))))))))))))))))))))))) (by kernel_rfl) ?_ ?_
      · exact fun _ => (Fr.refl _ _).drew
      repeat (first
        | (refine Rg.q (o := ?_) (v := ?_) ?_ ?_ ?_ ?_ ?_
           rotate_left 2
           · (simp only [List.getElem?_toArray, List.getElem?_cons_succ, List.getElem?_cons_zero]; rfl)
           · exact fun _ _ _ h => h
           · first | rfl | (go_simp; done)
           · (intro x_ hx; (try dsimp only at hx); (have q0 := hx.cell k0 id; have q1 := hx.cell k1 id; have q2 := hx.cell c0 id; have q3 := hx.cell c1 id); go_simp; (try rw [if_neg (by omega)]); (try rw [if_pos (by omega)]); (try go_simp); try with_reducible rfl)
           try simp only [Act.put, List.setIfInBounds_toArray, List.set_cons_zero, List.set_cons_succ])
        | (refine Rg.skip (o := ?_) ?_ ?_ ?_ ?_
           rotate_left 1
           · (simp only [List.getElem?_toArray, List.getElem?_cons_succ, List.getElem?_cons_zero]; rfl)
           · exact fun _ _ _ h => h
           · first | rfl | (go_simp; done)
           try simp only [Act.put, List.setIfInBounds_toArray, List.set_cons_zero, List.set_cons_succ]))
      refine Rg.done ?_
      go_simp
      have d0 : wa.drew.cell? ⟨g, p.length * 3, Option.none⟩ = some (.int .i64 ef) := k0
      have d1 : wa.drew.cell? ⟨g, p.length * 3 + 1, Option.none⟩ = some (.int .i64 ec) := k1
      have d3 : wa.drew.cell? ⟨w.heap.size, 1, Option.none⟩ = some (.int .i64 c) := c1
      have d2 : wa.drew.cell? ⟨w.heap.size, 2, Option.none⟩ = some (.slice Ad xs.length cd) := by rw [show wa.drew.cell? ⟨w.heap.size, 2, Option.none⟩ = wa.cell? ⟨w.heap.size, 2, Option.none⟩ from rfl, blk_cell XA.out]; rfl
      go_wp2_with fail
      have XB : Aside0 (wa.drew.heap[w.heap.size]? = some (.cells (tkC f c (.slice Ad xs.length cd)) 117 (0, 0))) := ⟨XA.out⟩
      have FW : Aside0 (Fr No w wa.drew) := ⟨FA.out.drew⟩
      clear d0 d1 d2 d3 k0 k1 c0 c1
      generalize wa.drew = wc at XB FW ⊢
    case' inr.inr =>
      have j4 : (c == 0) = false := by rw [beq_eq_false_iff_ne]; omega
      have j5 : (ef + ec == f) = false := by rw [beq_eq_false_iff_ne]; exact j3
      refine Rg.start (fun _ x => Fr No wa x) (by kernel_rfl) (by kernel_rfl) [] [] (by kernel_rfl) (.q 0 0 (.q 1 0 (.q 2 0 (.q 3 0 (.q 4 0 (.q 5 0 (.q 6 0 (.q 7 0 (.q 8 0 (.q 9 0 (.q 10 0 (.q 11 0 (.q 12 0 (.q 13 0 (.q 14 0 (.q 15 0 (.q 16 0 (.q 17 0 (.q 18 0 (.q 19 0 (.q 20 0 (.q 21 0 (.q 22 0 (.q 23 0 (.q 24 0 (.done)))))))))))))))))))))))))) (by kernel_rfl) ?_ ?_
      · exact fun _ => (Fr.refl _ _).drew
      repeat (first
        | (refine Rg.q (o := ?_) (v := ?_) ?_ ?_ ?_ ?_ ?_
           rotate_left 2
           · (simp only [List.getElem?_toArray, List.getElem?_cons_succ, List.getElem?_cons_zero]; rfl)
           · exact fun _ _ _ h => h
           · first | rfl | (go_simp; done)
           · (intro x_ hx; (try dsimp only at hx); (have q0 := hx.cell k0 id; have q1 := hx.cell k1 id; have q2 := hx.cell c0 id; have q3 := hx.cell c1 id); go_simp; (try rw [if_neg (by omega)]); (try rw [if_pos (by omega)]); (try go_simp); try with_reducible rfl)
           try simp only [Act.put, List.setIfInBounds_toArray, List.set_cons_zero, List.set_cons_succ])
        | (refine Rg.skip (o := ?_) ?_ ?_ ?_ ?_
           rotate_left 1
           · (simp only [List.getElem?_toArray, List.getElem?_cons_succ, List.getElem?_cons_zero]; rfl)
           · exact fun _ _ _ h => h
           · first | rfl | (go_simp; done)
           try simp only [Act.put, List.setIfInBounds_toArray, List.set_cons_zero, List.set_cons_succ]))
      refine Rg.done ?_
      go_simp
      have d0 : wa.drew.cell? ⟨g, p.length * 3, Option.none⟩ = some (.int .i64 ef) := k0
      have d1 : wa.drew.cell? ⟨g, p.length * 3 + 1, Option.none⟩ = some (.int .i64 ec) := k1
      have d3 : wa.drew.cell? ⟨w.heap.size, 1, Option.none⟩ = some (.int .i64 c) := c1
      have d2 : wa.drew.cell? ⟨w.heap.size, 2, Option.none⟩ = some (.slice Ad xs.length cd) := by rw [show wa.drew.cell? ⟨w.heap.size, 2, Option.none⟩ = wa.cell? ⟨w.heap.size, 2, Option.none⟩ from rfl, blk_cell XA.out]; rfl
      go_wp2_with fail
      have XB : Aside0 (wa.drew.heap[w.heap.size]? = some (.cells (tkC f c (.slice Ad xs.length cd)) 117 (0, 0))) := ⟨XA.out⟩
      have FW : Aside0 (Fr No w wa.drew) := ⟨FA.out.drew⟩
      clear d0 d1 d2 d3 k0 k1 c0 c1
      generalize wa.drew = wc at XB FW ⊢
  all_goals
    refine (clone_calls _ xs _ (HD.out.no FW.out) (by omega)).mono ?_
    rintro e w1 ⟨dv, rfl, hN⟩
    obtain ⟨Ae, ce, rfl⟩ := hN.own.form
    have HN := Aside0.mk hN
    have X1 : Aside0 (w1.heap[w.heap.size]? = some (.cells (tkC f c (.slice Ad xs.length cd)) 117 (0, 0))) := ⟨hN.fr.heap XB.out id⟩
    have y2 : w1.cell? ⟨w.heap.size, 2, Option.none⟩ = some (.slice Ad xs.length cd) := by rw [blk_cell X1.out]; rfl
    have y3 : w1.frozen? ⟨w.heap.size, 2, Option.none⟩ = false := blk_frozen X1.out _
    clear hN
    go_upto_region 11 with fail
    have X2 : Aside0 ((w1.setCell ⟨w.heap.size, 2, none⟩ (.slice Ae xs.length ce)).heap[w.heap.size]? = some (.cells (tkC f c (.slice Ae xs.length ce)) 117 (0, 0))) := ⟨by simpa using blk_set X1.out 2 (.slice Ae xs.length ce)⟩
    have F2 : Aside0 (Fr No w (w1.setCell ⟨w.heap.size, 2, none⟩ (.slice Ae xs.length ce))) := ⟨(FW.out.none HN.out.fr).setCell (p := ⟨w.heap.size, 2, none⟩) (.inr (Nat.le_refl _)) _⟩
    have hwc : w.heap.size < wc.heap.size := blk_lt XB.out
    have O2 : Aside0 (OwB (w1.setCell ⟨w.heap.size, 2, none⟩ (.slice Ae xs.length ce)) (.slice Ae xs.length ce) xs) := ⟨HN.out.own.fr (fr_one_set _ _ _ _) (fun q hq hb => by have e' : q = w.heap.size := hb; have := HN.out.new q hq; omega)⟩
    have NW : Aside0 (∀ q, (Value.slice Ae xs.length ce).ownBlock = some q → w.heap.size ≤ q) := ⟨fun q hq => by have := HN.out.new q hq; omega⟩
    generalize w1.setCell ⟨w.heap.size, 2, none⟩ (.slice Ae xs.length ce) = w2 at X2 F2 O2 ⊢
    clear y2 y3 X1 hwc
    have LD := ld_all (P := Tryd.prog) (ty := 117) X2.out Tryd.underlying117 rfl (by kernel_rfl)
    have H2 : Aside0 (Tks (w2.alloc (.cells (tkC f c (.slice Ae xs.length ce)) 117)) n _ fs) := ⟨(HT.out.no F2.out).no ((Fr.refl _ _).alloc _)⟩
    have O3 : Aside0 (OwB (w2.alloc (.cells (tkC f c (.slice Ae xs.length ce)) 117)) (.slice Ae xs.length ce) xs) := ⟨O2.out.no ((Fr.refl _ _).alloc _)⟩
    have hszn : n ≤ (w2.alloc (.cells (tkC f c (.slice Ae xs.length ce)) 117)).heap.size := Nat.le_trans (Nat.le_trans hn F2.out.size) ((Fr.refl No w2).alloc (.cells (tkC f c (.slice Ae xs.length ce)) 117)).size
    have HSN := Aside0.mk hszn
    clear hszn
    go_wp2_with (first
      | (at_builtin; (try simp only [Act.put, List.setIfInBounds_toArray, List.set_cons_zero, List.set_cons_succ]); refine apN (f := fT) rfl (.tmp 76) (.tmp 78) _ _ (.agg #[.int .i64 0, .int .i64 0, .slice none 0 0]) 40 rfl Tryd.underlying44 infoT rfl (by decide) (by decide) _ fs (.slice (some ⟨w2.heap.size, 0, none⟩) 1 1) [(⟨f, c, Ae, ce, xs⟩ : TV)] rfl rfl H2.out.row (rd_one w2 (⟨f, c, Ae, ce, xs⟩ : TV) _ rfl _) (by simp; omega) ?_; intro v9 w9 i1 i2 i3 i4; have I1 := Aside0.mk i1; have I2 := Aside0.mk i2; have I3 := Aside0.mk i3; clear i1 i2 i3 i4)
      | (refine ldG (.tmp 3) 117 _ _ rfl rfl (LD _ (Fr.refl _ _)) (by first | rfl | (go_simp; done)) ?_)
      | (refine lsX rfl (ex_buildSlice (oneT f c (.slice Ae xs.length ce) w2) rfl rfl) ?_))
    clear LD
    go_ret
    have hS : Tks w9 n v9 (fs ++ [(⟨f, c, Ae, ce, xs⟩ : TV)]) := H2.out.snoc HSN.out O3.out (fun q hq => Nat.le_trans hn (NW.out q hq)) (fun x hx q hq hb => by
      have h1 := (HT.out.own x hx).1.lt q hq
      have h2 := NW.out q hb
      omega) I1.out I2.out I3.out
    exact ⟨_, rfl, ⟨_, hS, by simp [TV.tok]⟩, ((F2.out.alloc (.cells (tkC f c (.slice Ae xs.length ce)) 117)).mono (fun _ _ h => h.elim)).trans I2.out (fun q _ hb => HT.out.new q hb)⟩
end Go.Proofs.YtanbddaecojijaaDoor.Tk
namespace Go.Proofs.YtanbddaecojijaaDoor.Tk
open Go.RowKit Go.IntWalk Go.Proofs.YtanbddaecojijaaDoorW.PrintWords Go.Proofs.YtanbddaecojijaaDoor.B Go.Proofs.YtanbddaecojijaaDoor.PB Go.Proofs.YtanbddaecojijaaDoor.STell Go.Proofs.YtanbddaecojijaaDoor.Blk Go.Proofs.YtanbddaecojijaaDoor.Bk

set_option maxHeartbeats 4000000 in
set_option maxRecDepth 100000 in
theorem add_count (n : Nat) (vo : Value) (p : List TV) (e : TV) (f c : Int) (d : Value) (xs : List UInt8) (w : World) (hT : Tks w n vo (p ++ [e])) (hn : n ≤ w.heap.size) (hfl : p.length ≤ 1000000) (hs : small e.tok) (ht : small (f, c, xs)) (j1 : 0 < c) (j2 : 0 < e.c) (j3 : e.f + e.c = f) :
    Calls Tryd.prog 68 #[vo, .agg (tkC f c d)] w fun e' w' => e' = .returned vo ∧ Tl w' n vo (p.map TV.tok ++ [(e.f, e.c + c, e.xs)]) ∧ Fr (Up n) w w' := by
  obtain ⟨fs, h0⟩ : ∃ fs, p ++ [e] = fs := ⟨_, rfl⟩
  have h0 := h0.symm
  rw [← h0] at hT
  obtain ⟨A, cc, rfl⟩ := hT.row.form
  obtain ⟨t1, t2, t3, t4, _⟩ := ht
  dsimp only at t1 t2 t3 t4
  have HT := Aside0.mk hT
  have hb := heap_alloc_new w (.cells (tkC f c d) 117)
  obtain ⟨s1, s2, s3, s4, _⟩ := hs
  obtain ⟨ef, ec, eA, ecp, exs⟩ := e
  dsimp only [TV.tok] at s1 s2 s3 s4 j2 j3 ⊢
  have hl0 : fs.length = p.length + 1 := by rw [h0]; simp
  have hlI : (fs.length : Int) - 1 = (p.length : Int) := by omega
  have hpl : p.length < fs.length := by omega
  obtain ⟨g, c9, he9, _⟩ := hT.row.at_ (by omega)
  injection he9 with e1 e2 e3
  subst e1
  subst e3
  clear e2
  obtain ⟨A', c', he', _, _, hc⟩ := hT.row.rd
  injection he' with e4 _ e5
  subst e4
  subst e5
  obtain ⟨ad, had, hcell⟩ := hc (by omega)
  injection had with had
  subst had
  have hfe : fs[p.length]? = some ⟨ef, ec, eA, ecp, exs⟩ := by rw [h0]; simp
  have hcv : ∀ i u, (fT.enc (⟨ef, ec, eA, ecp, exs⟩ : TV))[i]? = some u → w.cell? ⟨g, p.length * 3 + i, none⟩ = some u := fun i u hu => by
    have hi : i < 3 := (List.getElem?_eq_some_iff.1 hu).1
    have h1 := fT.cells_get fs p.length _ hfe i hi
    have h2 := hcell (p.length * 3 + i) u (by rw [show p.length * 3 + i = p.length * fT.sz + i from rfl, h1]; exact hu)
    rw [show (⟨g, 0, none⟩ : Addr).add (p.length * 3 + i) = ⟨g, p.length * 3 + i, none⟩ from by unfold Addr.add; split <;> simp_all] at h2
    exact h2
  have kk0 : w.cell? ⟨g, p.length * 3, Option.none⟩ = some (.int .i64 ef) := hcv 0 _ rfl
  have kk1 : w.cell? ⟨g, p.length * 3 + 1, Option.none⟩ = some (.int .i64 ec) := hcv 1 _ rfl
  have HLI := Aside0.mk hlI
  have hwe : IntKind.i64.wrap (ef + ec) = ef + ec := by rw [i64_left]; exact wrap64_in _ (by omega)
  have hwc : IntKind.i64.wrap (ec + c) = ec + c := by rw [i64_left]; exact wrap64_in _ (by omega)
  have j5 : (ef + ec == f) = true := by rw [beq_iff_eq]; exact j3
  have hfz : w.frozen? ⟨g, p.length * 3 + 1, Option.none⟩ = false := World.ownsRow.frozenAt hT.row _
  have HFZ := Aside0.mk hfz; have H0 := Aside0.mk h0
  obtain ⟨cs, hty⟩ := hT.row.typed g rfl
  have HTY := Aside0.mk hty
  clear hT h0 hcv hc hcell hfe hlI hl0 j3 hfz hty
  go_enter Tryd.func68, Tryd.ntmps68
  go_upto_region 1 with fail
  have XA := Aside0.mk hb
  have FA : Aside0 (Fr No w (w.alloc (.cells (tkC f c d) 117))) := ⟨(Fr.refl _ _).alloc _⟩
  clear hb
  change Code.wp _ _ _ _ (w.alloc (.cells (tkC f c d) 117))
  generalize w.alloc (.cells (tkC f c d) 117) = wa at XA FA ⊢
  have k0 := FA.out.cell kk0 id
  have k1 := FA.out.cell kk1 id
  have c0 : wa.cell? ⟨w.heap.size, 0, Option.none⟩ = some (.int .i64 f) := by rw [blk_cell XA.out]; rfl
  have c1 : wa.cell? ⟨w.heap.size, 1, Option.none⟩ = some (.int .i64 c) := by rw [blk_cell XA.out]; rfl
  clear kk0 kk1
  have hlI := HLI.out
  go_upto_region 4 with (refine lsIx 44 117 3 (.tmp 12) (.tmp 13) ⟨g, 0, none⟩ (some ⟨g, 0, none⟩) fs.length cc p.length _ Tryd.underlying44 (by kernel_rfl) rfl rfl rfl rfl rfl rfl hpl ?_)
  refine Rg.start (fun _ x => Fr No wa x) (by kernel_rfl) (by kernel_rfl) [] [] (by kernel_rfl) (.q 0 0 (.q 1 0 (.q 2 0 (.q 3 0 (.q 4 0 (.q 5 0 (.q 6 0 (.q 7 0 (.q 8 0 (.q 9 0 (.q 10 0 (.q 11 0 (.q 12 0 (.q 13 0 (.q 14 0 (.q 15 0 (.q 16 0 (.q 17 0 (.q 18 0 (.q 19 0 (.q 20 0 (.q 21 0 (.q 22 0 (.q 23 0 (.q 24 0 (.done)))))))))))))))))))))))))) (by kernel_rfl) ?_ ?_
  · exact fun _ => (Fr.refl _ _).drew
  repeat (first
    | (refine Rg.q (o := ?_) (v := ?_) ?_ ?_ ?_ ?_ ?_
       rotate_left 2
       · (simp only [List.getElem?_toArray, List.getElem?_cons_succ, List.getElem?_cons_zero]; rfl)
       · exact fun _ _ _ h => h
       · first | rfl | (go_simp; done)
       · (intro x_ hx; (try dsimp only at hx); (have q0 := hx.cell k0 id; have q1 := hx.cell k1 id; have q2 := hx.cell c0 id; have q3 := hx.cell c1 id); go_simp; (try rw [if_neg (by omega)]); (try rw [if_pos (by omega)]); (try go_simp); try with_reducible rfl)
       try simp only [Act.put, List.setIfInBounds_toArray, List.set_cons_zero, List.set_cons_succ])
    | (refine Rg.skip (o := ?_) ?_ ?_ ?_ ?_
       rotate_left 1
       · (simp only [List.getElem?_toArray, List.getElem?_cons_succ, List.getElem?_cons_zero]; rfl)
       · exact fun _ _ _ h => h
       · first | rfl | (go_simp; done)
       try simp only [Act.put, List.setIfInBounds_toArray, List.set_cons_zero, List.set_cons_succ]))
  refine Rg.done ?_
  go_simp
  go_wp2
  have F5 : Aside0 (Fr No wa wa.drew.drew) := ⟨((Fr.refl _ _).drew).drew⟩
  have hfz : wa.frozen? ⟨g, p.length * 3 + 1, Option.none⟩ = false := blk_frozen (FA.out.heap HTY.out id) _
  refine Rg.start (fun k x => k ≤ 0 → Fr No wa x) (by kernel_rfl) (by kernel_rfl) [9] [[6, 5, 4, 3, 2, 1, 0, 7, 8, 9]] (by kernel_rfl) (.q 0 0 (.q 1 0 (.q 2 0 (.q 3 0 (.q 4 0 (.q 5 0 (.q 6 0 (.q 7 0 (.q 8 0 (.e 9 1 (.done))))))))))) (by kernel_rfl) ?_ ?_
  · exact fun _ _ => F5.out
  repeat (first
    | (refine Rg.q (o := ?_) (v := ?_) ?_ ?_ ?_ ?_ ?_
       rotate_left 2
       · (simp only [List.getElem?_toArray, List.getElem?_cons_succ, List.getElem?_cons_zero]; rfl)
       · exact fun _ _ _ h => h
       · first | rfl | (go_simp; done)
       · (intro x_ hx; (try dsimp only at hx); (have q1 := (hx (by decide)).cell k1 id; have q3 := (hx (by decide)).cell c1 id); go_simp; (try rw [if_neg (by omega)]); (try rw [if_pos (by omega)]); (try go_simp); try with_reducible rfl)
       try simp only [Act.put, List.setIfInBounds_toArray, List.set_cons_zero, List.set_cons_succ])
    | (refine Rg.skip (o := ?_) ?_ ?_ ?_ ?_
       rotate_left 1
       · (simp only [List.getElem?_toArray, List.getElem?_cons_succ, List.getElem?_cons_zero]; rfl)
       · exact fun _ _ _ h => h
       · first | rfl | (go_simp; done)
       try simp only [Act.put, List.setIfInBounds_toArray, List.set_cons_zero, List.set_cons_succ]))
  refine Rg.e (o := ?_) ?_ ?_
  rotate_left 1
  · (simp only [List.getElem?_toArray, List.getElem?_cons_succ, List.getElem?_cons_zero]; rfl)
  intro K hK
  go_simp
  clear hfz k0 k1 c0 c1
  refine hK.out _ _ (fun _ _ => True) (fun k x hk h => fun h2 => absurd (Nat.le_trans hk h2) (by decide)) ?_ ?_
  · exact fun _ _ => trivial
  try simp only [Act.put, List.setIfInBounds_toArray, List.set_cons_zero, List.set_cons_succ]
  repeat (first
    | (refine Rg.q (o := ?_) (v := ?_) ?_ ?_ ?_ ?_ ?_
       rotate_left 2
       · (simp only [List.getElem?_toArray, List.getElem?_cons_succ, List.getElem?_cons_zero]; rfl)
       · exact fun _ _ _ h => h
       · first | rfl | (go_simp; done)
       · (intro x_ hx; (try dsimp only at hx); (skip); go_simp; (try rw [if_neg (by omega)]); (try rw [if_pos (by omega)]); (try go_simp); try with_reducible rfl)
       try simp only [Act.put, List.setIfInBounds_toArray, List.set_cons_zero, List.set_cons_succ])
    | (refine Rg.skip (o := ?_) ?_ ?_ ?_ ?_
       rotate_left 1
       · (simp only [List.getElem?_toArray, List.getElem?_cons_succ, List.getElem?_cons_zero]; rfl)
       · exact fun _ _ _ h => h
       · first | rfl | (go_simp; done)
       try simp only [Act.put, List.setIfInBounds_toArray, List.set_cons_zero, List.set_cons_succ]))
  refine Rg.done ?_
  go_simp
  go_wp2
  go_ret
  have HTa : Tks wa n (.slice (some ⟨g, 0, none⟩) (p ++ [(⟨ef, ec, eA, ecp, exs⟩ : TV)]).length cc) (p ++ [⟨ef, ec, eA, ecp, exs⟩]) := by
    rw [← H0.out]; exact HT.out.no FA.out
  have T1 := Tks.count (ec + c) HTa
  have hl9 : (p ++ [(⟨ef, ec + c, eA, ecp, exs⟩ : TV)]).length = fs.length := by rw [H0.out]; simp
  dsimp only at T1
  rw [hl9] at T1
  refine ⟨rfl, ⟨p ++ [⟨ef, ec + c, eA, ecp, exs⟩], (T1.no (Fr.refl _ _).drew).no (Fr.refl _ _).drew, by simp [TV.tok]⟩, ?_⟩
  have hf : Fr (Up n) w wa := FA.out.mono (fun _ _ h => h.elim)
  exact ((hf.setCell (p := ⟨g, p.length * 3 + 1, none⟩) (.inl (HT.out.new g rfl)) _).drew).drew
end Go.Proofs.YtanbddaecojijaaDoor.Tk
namespace Go.Proofs.YtanbddaecojijaaDoor.Tk
open Go.RowKit Go.IntWalk Go.Proofs.YtanbddaecojijaaDoorW.PrintWords Go.Proofs.YtanbddaecojijaaDoor.B Go.Proofs.YtanbddaecojijaaDoor.PB Go.Proofs.YtanbddaecojijaaDoor.STell Go.Proofs.YtanbddaecojijaaDoor.Blk Go.Proofs.YtanbddaecojijaaDoor.Bk

set_option maxHeartbeats 4000000 in
set_option maxRecDepth 100000 in
theorem add_data (n : Nat) (vo : Value) (p : List TV) (e : TV) (f c : Int) (d : Value) (xs : List UInt8) (w : World) (hT : Tks w n vo (p ++ [e])) (hn : n ≤ w.heap.size) (hfl : p.length ≤ 1000000) (hd : RdB w d xs) (j1 : c = 0) (j2 : e.c = 0) (hlen : e.xs.length + xs.length ≤ 100000000) :
    Calls Tryd.prog 68 #[vo, .agg (tkC f c d)] w fun e' w' => e' = .returned vo ∧ Tl w' n vo (p.map TV.tok ++ [(e.f, e.c, e.xs ++ xs)]) ∧ Fr (Up n) w w' := by
  obtain ⟨fs, h0⟩ : ∃ fs, p ++ [e] = fs := ⟨_, rfl⟩
  have h0 := h0.symm
  have hT0 := hT
  rw [← h0] at hT
  obtain ⟨A, cc, rfl⟩ := hT.row.form
  obtain ⟨Ad, cd, rfl, _⟩ := id hd
  have HT := Aside0.mk hT; have HD := Aside0.mk hd
  have hb := heap_alloc_new w (.cells (tkC f c (.slice Ad xs.length cd)) 117)
  obtain ⟨ef, ec, eA, ecp, exs⟩ := e
  dsimp only at j2 hlen ⊢
  subst j1
  subst j2
  have hl0 : fs.length = p.length + 1 := by rw [h0]; simp
  have hlI : (fs.length : Int) - 1 = (p.length : Int) := by omega
  have hpl : p.length < fs.length := by omega
  obtain ⟨g, c9, he9, _⟩ := hT.row.at_ (by omega)
  injection he9 with e1 e2 e3
  subst e1
  subst e3
  clear e2
  obtain ⟨A', c', he', _, _, hc⟩ := hT.row.rd
  injection he' with e4 _ e5
  subst e4
  subst e5
  obtain ⟨ad, had, hcell⟩ := hc (by omega)
  injection had with had
  subst had
  have hfe : fs[p.length]? = some ⟨ef, 0, eA, ecp, exs⟩ := by rw [h0]; simp
  have hcv : ∀ i u, (fT.enc (⟨ef, 0, eA, ecp, exs⟩ : TV))[i]? = some u → w.cell? ⟨g, p.length * 3 + i, none⟩ = some u := fun i u hu => by
    have hi : i < 3 := (List.getElem?_eq_some_iff.1 hu).1
    have h1 := fT.cells_get fs p.length _ hfe i hi
    have h2 := hcell (p.length * 3 + i) u (by rw [show p.length * 3 + i = p.length * fT.sz + i from rfl, h1]; exact hu)
    rw [show (⟨g, 0, none⟩ : Addr).add (p.length * 3 + i) = ⟨g, p.length * 3 + i, none⟩ from by unfold Addr.add; split <;> simp_all] at h2
    exact h2
  have kk1 : w.cell? ⟨g, p.length * 3 + 1, Option.none⟩ = some (.int .i64 0) := hcv 1 _ rfl
  have kk2 : w.cell? ⟨g, p.length * 3 + 2, Option.none⟩ = some (.slice eA exs.length ecp) := hcv 2 _ rfl
  have HLI := Aside0.mk hlI
  have hty : fs.length = p.length + 1 := hl0
  have H0 := Aside0.mk h0
  have HOE : Aside0 (OwB w (.slice eA exs.length ecp) exs) := ⟨(hT.own (⟨ef, 0, eA, ecp, exs⟩ : TV) (by rw [h0]; simp)).1⟩
  have HNE : Aside0 (∀ q, (Value.slice eA exs.length ecp).ownBlock = some q → n ≤ q ∧ q ≠ g) := ⟨fun q hq => ⟨(hT.own (⟨ef, 0, eA, ecp, exs⟩ : TV) (by rw [h0]; simp)).2 q hq, fun e9 => hT.ne (⟨ef, 0, eA, ecp, exs⟩ : TV) (by rw [h0]; simp) q hq (by rw [e9]; rfl)⟩⟩
  have HTY : Aside0 (∃ cs, w.heap[g]? = some (.cells cs 117 (0, 0))) := ⟨hT.row.typed g rfl⟩
  have HNG : Aside0 (n ≤ g) := ⟨hT.new g rfl⟩
  clear hT hT0 h0 hd hcv hc hcell hfe hlI hl0 hty
  go_enter Tryd.func68, Tryd.ntmps68
  go_upto_region 1 with fail
  have XA := Aside0.mk hb
  have FA : Aside0 (Fr No w (w.alloc (.cells (tkC f 0 (.slice Ad xs.length cd)) 117))) := ⟨(Fr.refl _ _).alloc _⟩
  clear hb
  change Code.wp _ _ _ _ (w.alloc (.cells (tkC f 0 (.slice Ad xs.length cd)) 117))
  generalize w.alloc (.cells (tkC f 0 (.slice Ad xs.length cd)) 117) = wa at XA FA ⊢
  have k1 := FA.out.cell kk1 id
  have k2 := FA.out.cell kk2 id
  have c1 : wa.cell? ⟨w.heap.size, 1, Option.none⟩ = some (.int .i64 0) := by rw [blk_cell XA.out]; rfl
  have c2 : wa.cell? ⟨w.heap.size, 2, Option.none⟩ = some (.slice Ad xs.length cd) := by rw [blk_cell XA.out]; rfl
  clear kk1 kk2
  have hlI := HLI.out
  go_upto_region 4 with (refine lsIx 44 117 3 (.tmp 12) (.tmp 13) ⟨g, 0, none⟩ (some ⟨g, 0, none⟩) fs.length cc p.length _ Tryd.underlying44 (by kernel_rfl) rfl rfl rfl rfl rfl rfl hpl ?_)
  refine Rg.start (fun _ x => Fr No wa x) (by kernel_rfl) (by kernel_rfl) [] [] (by kernel_rfl) (.q 0 0 (.q 1 0 (.q 2 0 (.q 3 0 (.q 4 0 (.q 5 0 (.q 6 0 (.q 7 0 (.q 8 0 (.q 9 0 (.q 10 0 (.q 11 0 (.q 12 0 (.q 13 0 (.q 14 0 (.q 15 0 (.q 16 0 (.q 17 0 (.q 18 0 (.q 19 0 (.q 20 0 (.q 21 0 (.q 22 0 (.q 23 0 (.q 24 0 (.done)))))))))))))))))))))))))) (by kernel_rfl) ?_ ?_
  · exact fun _ => (Fr.refl _ _).drew
  repeat (first
    | (refine Rg.q (o := ?_) (v := ?_) ?_ ?_ ?_ ?_ ?_
       rotate_left 2
       · (simp only [List.getElem?_toArray, List.getElem?_cons_succ, List.getElem?_cons_zero]; rfl)
       · exact fun _ _ _ h => h
       · first | rfl | (go_simp; done)
       · (intro x_ hx; (try dsimp only at hx); (have q1 := hx.cell k1 id; have q3 := hx.cell c1 id); go_simp; (try rw [if_neg (by omega)]); (try rw [if_pos (by omega)]); (try go_simp); try with_reducible rfl)
       try simp only [Act.put, List.setIfInBounds_toArray, List.set_cons_zero, List.set_cons_succ])
    | (refine Rg.skip (o := ?_) ?_ ?_ ?_ ?_
       rotate_left 1
       · (simp only [List.getElem?_toArray, List.getElem?_cons_succ, List.getElem?_cons_zero]; rfl)
       · exact fun _ _ _ h => h
       · first | rfl | (go_simp; done)
       try simp only [Act.put, List.setIfInBounds_toArray, List.set_cons_zero, List.set_cons_succ]))
  refine Rg.done ?_
  go_simp
  have F4 : Aside0 (Fr No wa wa.drew) := ⟨(Fr.refl _ _).drew⟩
  have d1 := F4.out.cell k1 id
  have d3 := F4.out.cell c1 id
  go_wp2_with fail
  have F5 : Aside0 (Fr No wa wa.drew.drew) := ⟨((Fr.refl _ _).drew).drew⟩
  refine Rg.start (fun k x => k ≤ 0 → Fr No wa x) (by kernel_rfl) (by kernel_rfl) [7, 10] [[5, 6, 1, 2, 3, 4, 7], [7, 6, 5, 4, 3, 2, 1, 0, 8, 9, 10]] (by kernel_rfl) (.q 0 1 (.q 1 0 (.q 2 0 (.q 3 0 (.q 4 0 (.q 5 0 (.q 6 0 (.e 7 1 (.q 8 1 (.q 9 1 (.e 10 2 (.done)))))))))))) (by kernel_rfl) ?_ ?_
  · exact fun _ _ => F5.out
  repeat (first
    | (refine Rg.q (o := ?_) (v := ?_) ?_ ?_ ?_ ?_ ?_
       rotate_left 2
       · (simp only [List.getElem?_toArray, List.getElem?_cons_succ, List.getElem?_cons_zero]; rfl)
       · exact fun _ _ _ h => h
       · first | rfl | (go_simp; done)
       · (intro x_ hx; (try dsimp only at hx); (try (have q1 := (hx (by decide)).cell k2 id; have q3 := (hx (by decide)).cell c2 id)); go_simp; (try rw [if_neg (by omega)]); (try rw [if_pos (by omega)]); (try go_simp); try with_reducible rfl)
       try simp only [Act.put, List.setIfInBounds_toArray, List.set_cons_zero, List.set_cons_succ])
    | (refine Rg.skip (o := ?_) ?_ ?_ ?_ ?_
       rotate_left 1
       · (simp only [List.getElem?_toArray, List.getElem?_cons_succ, List.getElem?_cons_zero]; rfl)
       · exact fun _ _ _ h => h
       · first | rfl | (go_simp; done)
       try simp only [Act.put, List.setIfInBounds_toArray, List.set_cons_zero, List.set_cons_succ]))
  refine Rg.e (o := ?_) ?_ ?_
  rotate_left 1
  · (simp only [List.getElem?_toArray, List.getElem?_cons_succ, List.getElem?_cons_zero]; rfl)
  intro K hK
  rw [if_pos (by first | rfl | (go_simp; done))]
  have F6 : Aside0 (Fr No w wa.drew.drew) := ⟨FA.out.none F5.out⟩
  refine opBs (.slice eA exs.length ecp) exs (.slice Ad xs.length cd) xs (.tmp 65) (.tmp 67) rfl rfl rfl (HOE.out.no F6.out) (HD.out.no F6.out) (by omega) ?_
  intro v1 w1 i1 i2 i3 i4
  obtain ⟨A1, c1', rfl⟩ := i1.form
  have I1 := Aside0.mk i1; have I2 := Aside0.mk i2; have I3 := Aside0.mk i3
  obtain ⟨cs9, hcs9⟩ := HTY.out
  have hfz : w1.frozen? ⟨g, p.length * 3 + 2, Option.none⟩ = false := blk_frozen (i2.heap (F6.out.heap hcs9 id) (fun hb => (HNE.out g hb).2 rfl)) _
  have kc : w1.cell? ⟨g, p.length * 3 + 2, Option.none⟩ = some (.slice eA exs.length ecp) := i2.cell (F5.out.cell k2 id) (fun hb => (HNE.out g hb).2 rfl)
  clear i1 i2 i3 i4 k1 k2 c1 c2 d1 d3 hcs9
  refine hK.out _ _ (fun _ _ => True) (fun k x hk h => fun h2 => absurd (Nat.le_trans hk h2) (by decide)) ?_ ?_
  · exact fun _ _ => trivial
  try simp only [Act.put, List.setIfInBounds_toArray, List.set_cons_zero, List.set_cons_succ]
  repeat (first
    | (refine Rg.q (o := ?_) (v := ?_) ?_ ?_ ?_ ?_ ?_
       rotate_left 2
       · (simp only [List.getElem?_toArray, List.getElem?_cons_succ, List.getElem?_cons_zero]; rfl)
       · exact fun _ _ _ h => h
       · first | rfl | (go_simp; done)
       · (intro x_ hx; (try dsimp only at hx); (skip); go_simp; (try rw [if_neg (by omega)]); (try rw [if_pos (by omega)]); (try go_simp); try with_reducible rfl)
       try simp only [Act.put, List.setIfInBounds_toArray, List.set_cons_zero, List.set_cons_succ])
    | (refine Rg.skip (o := ?_) ?_ ?_ ?_ ?_
       rotate_left 1
       · (simp only [List.getElem?_toArray, List.getElem?_cons_succ, List.getElem?_cons_zero]; rfl)
       · exact fun _ _ _ h => h
       · first | rfl | (go_simp; done)
       try simp only [Act.put, List.setIfInBounds_toArray, List.set_cons_zero, List.set_cons_succ]))
  refine Rg.e (o := ?_) ?_ ?_
  rotate_left 1
  · (simp only [List.getElem?_toArray, List.getElem?_cons_succ, List.getElem?_cons_zero]; rfl)
  intro K hK
  go_simp
  refine hK.out _ _ (fun _ _ => True) (fun k x hk h => trivial) ?_ ?_
  · exact fun _ _ => trivial
  try simp only [Act.put, List.setIfInBounds_toArray, List.set_cons_zero, List.set_cons_succ]
  repeat (first
    | (refine Rg.q (o := ?_) (v := ?_) ?_ ?_ ?_ ?_ ?_
       rotate_left 2
       · (simp only [List.getElem?_toArray, List.getElem?_cons_succ, List.getElem?_cons_zero]; rfl)
       · exact fun _ _ _ h => h
       · first | rfl | (go_simp; done)
       · (intro x_ hx; (try dsimp only at hx); (skip); go_simp; (try rw [if_neg (by omega)]); (try rw [if_pos (by omega)]); (try go_simp); try with_reducible rfl)
       try simp only [Act.put, List.setIfInBounds_toArray, List.set_cons_zero, List.set_cons_succ])
    | (refine Rg.skip (o := ?_) ?_ ?_ ?_ ?_
       rotate_left 1
       · (simp only [List.getElem?_toArray, List.getElem?_cons_succ, List.getElem?_cons_zero]; rfl)
       · exact fun _ _ _ h => h
       · first | rfl | (go_simp; done)
       try simp only [Act.put, List.setIfInBounds_toArray, List.set_cons_zero, List.set_cons_succ]))
  refine Rg.done ?_
  clear hfz kc
  go_simp
  go_wp2
  go_ret
  have HTa : Tks wa.drew.drew n (.slice (some ⟨g, 0, none⟩) (p ++ [(⟨ef, 0, eA, ecp, exs⟩ : TV)]).length cc) (p ++ [⟨ef, 0, eA, ecp, exs⟩]) := by
    rw [← H0.out]; exact HT.out.no F6.out
  have T1 := Tks.data HTa (Nat.le_trans hn F6.out.size) I1.out I2.out I3.out
  have hl9 : (p ++ [(⟨ef, 0, A1, c1', exs ++ xs⟩ : TV)]).length = fs.length := by rw [H0.out]; simp
  rw [hl9] at T1
  rw [List.length_append] at T1
  refine ⟨rfl, ⟨p ++ [⟨ef, 0, A1, c1', exs ++ xs⟩], ?_, by simp [TV.tok]⟩, ?_⟩
  · first | exact T1 | (rw [List.length_append]; exact T1)
  · have hf : Fr (Up n) w w1 := (F6.out.mono (fun _ _ h => h.elim)).trans I2.out (fun q _ hb => (HNE.out q hb).1)
    exact hf.setCell (p := ⟨g, p.length * 3 + 2, none⟩) (.inl HNG.out) _
end Go.Proofs.YtanbddaecojijaaDoor.Tk
namespace Go.Proofs.YtanbddaecojijaaDoor.Tk
open Go.RowKit Go.IntWalk Go.Proofs.YtanbddaecojijaaDoorW.PrintWords Go.Proofs.YtanbddaecojijaaDoor.B Go.Proofs.YtanbddaecojijaaDoor.PB Go.Proofs.YtanbddaecojijaaDoor.STell Go.Proofs.YtanbddaecojijaaDoor.Blk Go.Proofs.YtanbddaecojijaaDoor.Bk

theorem add_calls (n : Nat) (vo : Value) (L : List Tok) (f c : Int) (d : Value) (xs : List UInt8) (w : World) (hT : Tl w n vo L) (hn : n ≤ w.heap.size) (hl : L.length ≤ 1000000) (hd : RdB w d xs) (hs : ∀ t ∈ L, small t) (ht : small (f, c, xs)) (hx : ∀ t ∈ L, t.2.2.length + xs.length ≤ 100000000) :
    Calls Tryd.prog 68 #[vo, .agg (tkC f c d)] w fun e w' => ∃ vo', e = .returned vo' ∧ Tl w' n vo' (addT L (f, c, xs)) ∧ Fr (Up n) w w' := by
  obtain ⟨fs, hT, rfl⟩ := hT
  rw [List.length_map] at hl
  have hs' : ∀ e ∈ fs, small e.tok := fun e he => hs _ (List.mem_map_of_mem he)
  rcases snoc_or fs with rfl | ⟨p, e, rfl⟩
  · have := add_new n vo [] f c d xs w hT hn hl hd ht.2.2.2.2 hs' ht (fun p e h => by simp at h)
    exact this
  · have hse := hs' e (by simp)
    have hlp : p.length ≤ 1000000 := by rw [List.length_append] at hl; omega
    cases hj : joins e.tok (f, c, xs) with
    | none =>
      refine (add_new n vo (p ++ [e]) f c d xs w hT hn hl hd ht.2.2.2.2 hs' ht (fun p' e' h => ?_)).mono ?_
      · have h1 := List.append_inj' h rfl
        have h2 : e = e' := by simpa using h1.2
        rw [← h2]; exact hj
      · rintro e' w' ⟨vo', rfl, h1, h2⟩
        refine ⟨vo', rfl, ?_, h2⟩
        rw [List.map_append, List.map_cons, List.map_nil] at h1 ⊢
        rw [addT_snoc, hj]
        exact h1
    | some b =>
      have hj2 := hj
      unfold joins at hj2
      split at hj2
      · rename_i h3
        injection hj2 with hj2
        refine (add_count n vo p e f c d xs w hT hn hlp hse ht h3.1 h3.2.1 h3.2.2).mono ?_
        rintro e' w' ⟨rfl, h1, h2⟩
        refine ⟨vo, rfl, ?_, h2⟩
        rw [List.map_append, List.map_cons, List.map_nil, addT_snoc, hj, ← hj2]
        exact h1
      · split at hj2
        · rename_i h4 h3
          injection hj2 with hj2
          refine (add_data n vo p e f c d xs w hT hn hlp hd h3.1 h3.2 (hx _ (List.mem_map_of_mem (by simp)))).mono ?_
          rintro e' w' ⟨rfl, h1, h2⟩
          refine ⟨vo, rfl, ?_, h2⟩
          rw [List.map_append, List.map_cons, List.map_nil, addT_snoc, hj, ← hj2]
          exact h1
        · cases hj2
end Go.Proofs.YtanbddaecojijaaDoor.Tk
