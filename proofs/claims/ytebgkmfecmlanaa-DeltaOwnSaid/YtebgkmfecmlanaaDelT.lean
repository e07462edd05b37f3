/- The document's add of tokens: walked (one more). The document's add of tokens, behind others: walked. The document's Make of tokens: walked. -/
import Derived.Test.YtebgkmfecmlanaaTk
import Derived.Test.YtebgkmfecmlanaaBk
import Derived.Test.YtebgkmfecmlanaaSpecDel
import Derived.Test.YtebgkmfecmlanaaRef6
set_option linter.unusedVariables false
set_option linter.unusedSimpArgs false
namespace Go.Proofs.Ytebgkmfecmlanaa.Tk
open Go.RowKit Go.IntWalk Go.Proofs.YtebgkmfecmlanaaW.PrintWords Go.Proofs.Ytebgkmfecmlanaa.B Go.Proofs.Ytebgkmfecmlanaa.PB Go.Proofs.Ytebgkmfecmlanaa.STell Go.Proofs.Ytebgkmfecmlanaa.Bk

theorem own_emptyD (W : World) : Ow fD 82 (W.alloc (.cells #[] 82)) (.slice (some ⟨W.heap.size, 0, none⟩) 0 0) [] := by
  have := World.ownsRow_made (base := 0) (e := 82) (size := 3) W #[] 0 (Nat.zero_le _) (by simp) rfl
  exact this
abbrev tdC (f c : Int) (xs : List UInt8) : Array Value := #[.int .i64 f, .int .i64 c, .string (bstr xs)]
set_option maxRecDepth 100000 in
theorem oneD (f c : Int) (xs : List UInt8) (W : World) : (Instr.buildSlice 34 1 #[(0, .agg (tdC f c xs))]).run Try.prog W = .ok (.slice (some ⟨W.heap.size, 0, none⟩) 1 1) (W.alloc (.cells (tdC f c xs) 82)) :=
  run_bs1 (s := 3) Try.underlying34 (by kernel_rfl) (by kernel_rfl) (by decide) (by decide) _ rfl W

set_option maxHeartbeats 4000000 in
set_option maxRecDepth 100000 in
/-- To none: one. -/
theorem refadd_nil (v : Value) (f c : Int) (xs : List UInt8) (w : World) (hv : Rd fD w v []) : Calls Try.prog 33 #[v, .agg (tdC f c xs)] w fun e w' =>
    ∃ v', e = .returned v' ∧ Ow fD 82 w' v' [(f, c, xs)] ∧ (∀ q, v'.ownBlock = some q → w.heap.size ≤ q) ∧ Fr No w w' := by
  obtain ⟨A, cc, rfl, _⟩ := id hv
  have HV := Aside0.mk hv
  have hb := heap_alloc_new w (.cells (tdC f c xs) 82)
  clear hv
  go_enter Try.func33, Try.ntmps33
  go_upto_region 1 with fail
  have XA := Aside0.mk hb
  have FA : Aside0 (Fr No w (w.alloc (.cells (tdC f c xs) 82))) := ⟨(Fr.refl _ _).alloc _⟩
  clear hb
  change Code.wp _ _ _ _ (w.alloc (.cells (tdC f c xs) 82))
  generalize w.alloc (.cells (tdC f c xs) 82) = wa at XA FA ⊢
  have N0 : Aside0 (Ow fD 82 (wa.alloc (.cells #[] 82)) (.slice (some ⟨wa.heap.size, 0, none⟩) 0 0) []) := ⟨own_emptyD wa⟩
  have FN : Aside0 (Fr No w (wa.alloc (.cells #[] 82))) := ⟨FA.out.alloc _⟩
  go_upto_region 2 with (at_builtin; go_loud (refine apN (f := fD) rfl (.tmp 7) (.tmp 8) _ _ (.agg #[.int .i64 0, .int .i64 0, .string ⟨#[]⟩]) 32 rfl Try.underlying34 infoD rfl (by decide) (by decide) (.slice (some ⟨wa.heap.size, 0, none⟩) 0 0) [] _ [] rfl rfl N0.out (HV.out.no FN.out) (by simp) ?_; intro v1 w1 i1 i2 i3 i4; have I1 := Aside0.mk i1; have I2 := Aside0.mk i2; have I3 := Aside0.mk i3; clear i1 i2 i3 i4))
  rw [List.nil_append] at I1
  obtain ⟨A1, c1, rfl⟩ := I1.out.form
  have hwa : w.heap.size < wa.heap.size := blk_lt XA.out
  have hne : ∀ q, (Value.slice (some ⟨wa.heap.size, 0, none⟩) 0 0).ownBlock = some q → q = wa.heap.size := fun q hq => by
    have : wa.heap.size = q := by simpa [Value.ownBlock] using hq
    omega
  have F1 : Aside0 (Fr No w w1) := ⟨FN.out.trans I2.out (fun q hq hb => by have := hne q hb; omega)⟩
  have X1 : Aside0 (w1.heap[w.heap.size]? = some (.cells (tdC f c xs) 82 (0, 0))) := ⟨I2.out.heap (blk_alloc XA.out _) (fun hb => by have := hne _ hb; omega)⟩
  have N1 : Aside0 (∀ q, (Value.slice A1 ([] : List Tok).length c1).ownBlock = some q → w.heap.size ≤ q) := ⟨fun q hq => by
    rcases I3.out with h9 | ⟨q', h9, h10⟩
    · have := hne q (h9 ▸ hq); omega
    · rw [hq] at h9; injection h9 with h9; have := FN.out.size; omega⟩
  have LD := ld_all (P := Try.prog) (ty := 82) X1.out Try.underlying82 rfl (by kernel_rfl)
  clear hwa hne
  have hO9 : Ow fD 82 (w1.alloc (.cells (tdC f c xs) 82)) (.slice A1 ([] : List Tok).length c1) [] := I1.out.no ((Fr.refl _ _).alloc _)
  have hY9 : Rd fD (w1.alloc (.cells (tdC f c xs) 82)) (.slice (some ⟨w1.heap.size, 0, none⟩) 1 1) [((f, c, xs) : Tok)] := rd_one w1 ((f, c, xs) : Tok) _ rfl _
  have HO9 := Aside0.mk hO9; have HY9 := Aside0.mk hY9
  clear hO9 hY9
  go_wp2_with (first
    | (at_builtin; (simp only [Act.put, List.setIfInBounds_toArray, List.set_cons_zero, List.set_cons_succ]); go_loud (refine apN (f := fD) rfl (.tmp 71) (.tmp 73) _ _ (.agg #[.int .i64 0, .int .i64 0, .string ⟨#[]⟩]) 32 rfl Try.underlying34 infoD rfl (by decide) (by decide) (.slice A1 ([] : List Tok).length c1) [] (.slice (some ⟨w1.heap.size, 0, none⟩) 1 1) [(f, c, xs)] rfl rfl HO9.out HY9.out (by simp only [List.length_nil, List.length_cons]; omega) ?_; intro v9 w9 j1 j2 j3 j4; have J1 := Aside0.mk j1; have J2 := Aside0.mk j2; have J3 := Aside0.mk j3; clear j1 j2 j3 j4))
    | (refine ldG (.tmp 3) 82 _ _ rfl rfl (LD _ (Fr.refl _ _)) (by first | rfl | (go_simp; done)) ?_)
    | (refine lsX rfl (ex_buildSlice (oneD f c xs w1) rfl rfl) ?_))
  clear LD
  go_ret
  refine ⟨v9, by go_simp, by simpa using J1.out, fun q hq => ?_, (F1.out.alloc (.cells (tdC f c xs) 82)).trans J2.out (fun q hq hb => absurd (N1.out q hb) (by omega))⟩
  have hq' : v9.ownBlock = some q := hq
  rcases J3.out with h9 | ⟨q', h9, h10⟩
  · exact N1.out q (h9.symm.trans hq')
  · rw [hq'] at h9; injection h9 with h9; have := F1.out.size; simp at h10; omega
end Go.Proofs.Ytebgkmfecmlanaa.Tk
namespace Go.Proofs.Ytebgkmfecmlanaa.Tk
open Go.RowKit Go.IntWalk Go.Proofs.YtebgkmfecmlanaaW.PrintWords Go.Proofs.Ytebgkmfecmlanaa.B Go.Proofs.Ytebgkmfecmlanaa.PB Go.Proofs.Ytebgkmfecmlanaa.STell Go.Proofs.Ytebgkmfecmlanaa.Bk

set_option maxHeartbeats 8000000 in
set_option maxRecDepth 100000 in
theorem refadd_more (v : Value) (p : List Tok) (af ac : Int) (axs : List UInt8) (f c : Int) (xs : List UInt8) (w : World) (hv : Rd fD w v (p ++ [(af, ac, axs)])) (hl : p.length ≤ 1000000) (a1 : 0 ≤ af) (a2 : af ≤ 4611686018427387904) (a3 : 0 ≤ ac) (a4 : ac ≤ 1000000) (t3 : 0 ≤ c) (t4 : c ≤ 1000000) (hb9 : axs.length + xs.length ≤ 100000000) :
    Calls Try.prog 33 #[v, .agg (tdC f c xs)] w fun e w' =>
    ∃ v', e = .returned v' ∧ Ow fD 82 w' v' (addT (p ++ [(af, ac, axs)]) (f, c, xs)) ∧ (∀ q, v'.ownBlock = some q → w.heap.size ≤ q) ∧ Fr No w w' := by
  obtain ⟨L, h0⟩ : ∃ L, p ++ [(af, ac, axs)] = L := ⟨_, rfl⟩
  have hadd := addT_snoc p (af, ac, axs) (f, c, xs)
  rw [h0] at hv hadd ⊢
  obtain ⟨R, hR⟩ : ∃ R, addT L (f, c, xs) = R := ⟨_, rfl⟩
  rw [hR] at hadd ⊢
  obtain ⟨A, cc, rfl, _⟩ := id hv
  have HV := Aside0.mk hv; have HADD := Aside0.mk hadd
  have hb := heap_alloc_new w (.cells (tdC f c xs) 82)
  have hll : L.length = p.length + 1 := by rw [← h0]; simp
  have hfe : L[p.length]? = some (af, ac, axs) := by rw [← h0]; simp
  have HFE := Aside0.mk hfe; have HLL := Aside0.mk hll; have H0 := Aside0.mk h0
  clear hv hadd hR h0 hfe hll
  go_enter Try.func33, Try.ntmps33
  go_upto_region 1 with fail
  have XA := Aside0.mk hb
  have FA : Aside0 (Fr No w (w.alloc (.cells (tdC f c xs) 82))) := ⟨(Fr.refl _ _).alloc _⟩
  clear hb
  change Code.wp _ _ _ _ (w.alloc (.cells (tdC f c xs) 82))
  generalize w.alloc (.cells (tdC f c xs) 82) = wa at XA FA ⊢
  have N0 : Aside0 (Ow fD 82 (wa.alloc (.cells #[] 82)) (.slice (some ⟨wa.heap.size, 0, none⟩) 0 0) []) := ⟨own_emptyD wa⟩
  have FN : Aside0 (Fr No w (wa.alloc (.cells #[] 82))) := ⟨FA.out.alloc _⟩
  go_upto_region 2 with (at_builtin; go_loud (refine apN (f := fD) rfl (.tmp 7) (.tmp 8) _ _ (.agg #[.int .i64 0, .int .i64 0, .string ⟨#[]⟩]) 32 rfl Try.underlying34 infoD rfl (by decide) (by decide) (.slice (some ⟨wa.heap.size, 0, none⟩) 0 0) [] _ L rfl rfl N0.out (HV.out.no FN.out) (by have := HLL.out; simp; omega) ?_; intro v1 w1 i1 i2 i3 i4; have I1 := Aside0.mk i1; have I2 := Aside0.mk i2; have I3 := Aside0.mk i3; clear i1 i2 i3 i4))
  rw [List.nil_append] at I1
  have hne : ∀ q, (Value.slice (some ⟨wa.heap.size, 0, none⟩) 0 0).ownBlock = some q → q = wa.heap.size := fun q hq => by
    have : wa.heap.size = q := by simpa [Value.ownBlock] using hq
    omega
  have hwa : w.heap.size < wa.heap.size := blk_lt XA.out
  have F1 : Aside0 (Fr No w w1) := ⟨FN.out.trans I2.out (fun q hq hb => by have := hne q hb; omega)⟩
  have X1 : Aside0 (w1.heap[w.heap.size]? = some (.cells (tdC f c xs) 82 (0, 0))) := ⟨I2.out.heap (blk_alloc XA.out _) (fun hb => by have := hne _ hb; omega)⟩
  obtain ⟨A1, c1, hv1⟩ := I1.out.form
  subst hv1
  obtain ⟨g, c9, he9, _⟩ := I1.out.at_ (by have := HLL.out; omega)
  injection he9 with e1 e2 e3
  subst e1
  subst e3
  clear e2
  have NG : Aside0 (w.heap.size < g) := ⟨by
    rcases I3.out with h9 | ⟨q', h9, h10⟩
    · have h8 : wa.heap.size = g := by simpa [Value.ownBlock] using h9.symm
      omega
    · have h8 : g = q' := by simpa [Value.ownBlock] using h9
      have := FN.out.size; simp at h10; omega⟩
  have hcv : ∀ i u, (fD.enc ((af, ac, axs) : Tok))[i]? = some u → w1.cell? ⟨g, p.length * 3 + i, none⟩ = some u := fun i u hu => by
    obtain ⟨ad, hA, hc⟩ := rd_elem I1.out.rd p.length _ HFE.out
    injection hA with hA
    subst hA
    have h2 := hc i u hu
    rw [show (⟨g, 0, none⟩ : Addr).add (p.length * fD.sz) = ⟨g, p.length * 3, none⟩ from by show Addr.add _ (p.length * 3) = _; unfold Addr.add; split <;> simp_all, show (⟨g, p.length * 3, none⟩ : Addr).add i = ⟨g, p.length * 3 + i, none⟩ from by unfold Addr.add; split <;> simp_all] at h2
    exact h2
  have K0 : Aside0 (w1.cell? ⟨g, p.length * 3 + 0, none⟩ = some (.int .i64 af)) := ⟨hcv 0 _ rfl⟩
  have K1 : Aside0 (w1.cell? ⟨g, p.length * 3 + 1, none⟩ = some (.int .i64 ac)) := ⟨hcv 1 _ rfl⟩
  have K2 : Aside0 (w1.cell? ⟨g, p.length * 3 + 2, none⟩ = some (.string (bstr axs))) := ⟨hcv 2 _ rfl⟩
  have hlI : (L.length : Int) - 1 = (p.length : Int) := by have := HLL.out; omega
  have hl1 : (0 : Int) < (L.length : Int) := by have := HLL.out; omega
  have hpl : p.length < L.length := by have := HLL.out; omega
  have LE : ∀ x, Fr No w1 x → (loadVar 82 ((⟨g, 0, none⟩ : Addr).add (p.length * 3))).run Try.prog x = .ok (.agg (tdC af ac axs)) x := fun x hx => by
    obtain ⟨ad, hA, hc⟩ := rd_elem (I1.out.no hx).rd p.length _ HFE.out
    injection hA with hA
    subst hA
    exact run_loadVar_cells (P := Try.prog) hc Try.underlying82 rfl (by show _ = some 3; kernel_rfl)
  have HLI := Aside0.mk hlI
  have hwp : IntKind.i64.wrap ((p.length : Nat) : Int) = (p.length : Int) := by rw [i64_left]; exact wrap64_in _ (by omega)
  clear hcv hne hwa
  go_upto_region 4 with (first
    | (refine lsIx 34 82 3 (.tmp 13) (.tmp 16) ⟨g, 0, none⟩ (some ⟨g, 0, none⟩) L.length c1 p.length _ Try.underlying34 (by kernel_rfl) rfl rfl rfl rfl rfl rfl hpl ?_)
    | (refine ldG (.tmp 17) 82 _ _ rfl rfl (LE _ (Fr.refl _ _)) (by first | rfl | (go_simp; done)) ?_)
    | (refine PB.stRow (.tmp 6) (.tmp 18) 82 w1.heap.size 82 _ (tdC af ac axs) rfl rfl rfl rfl (heap_alloc_new w1 _) (by kernel_rfl) rfl (by simp [Value.oneCell']) ?_; rw [World.setRow_alloc_new]))
  change Code.wp _ _ _ _ (w1.alloc (.cells (tdC af ac axs) 82))
  have XB : Aside0 ((w1.alloc (.cells (tdC af ac axs) 82)).heap[w1.heap.size]? = some (.cells (tdC af ac axs) 82 (0, 0))) := ⟨heap_alloc_new w1 _⟩
  have FB : Aside0 (Fr No w1 (w1.alloc (.cells (tdC af ac axs) 82))) := ⟨(Fr.refl _ _).alloc _⟩
  generalize w1.alloc (.cells (tdC af ac axs) 82) = w2 at XB FB ⊢
  have X2 : Aside0 (w2.heap[w.heap.size]? = some (.cells (tdC f c xs) 82 (0, 0))) := ⟨FB.out.heap X1.out id⟩
  have F2 : Aside0 (Fr No w w2) := ⟨F1.out.none FB.out⟩
  have O2 : Aside0 (Ow fD 82 w2 (.slice (some ⟨g, 0, none⟩) L.length c1) L) := ⟨I1.out.no FB.out⟩
  have d0 : w2.cell? ⟨w.heap.size, 0, Option.none⟩ = some (.int .i64 f) := by rw [blk_cell X2.out]; rfl
  have d1 : w2.cell? ⟨w.heap.size, 1, Option.none⟩ = some (.int .i64 c) := by rw [blk_cell X2.out]; rfl
  have b0 : w2.cell? ⟨w1.heap.size, 0, Option.none⟩ = some (.int .i64 af) := by rw [blk_cell XB.out]; rfl
  have b1 : w2.cell? ⟨w1.heap.size, 1, Option.none⟩ = some (.int .i64 ac) := by rw [blk_cell XB.out]; rfl
  have hwe : IntKind.i64.wrap (af + ac) = af + ac := by rw [i64_left]; exact wrap64_in _ (by omega)
  have hwc : IntKind.i64.wrap (ac + c) = ac + c := by rw [i64_left]; exact wrap64_in _ (by omega)
  clear LE
  have hcase : (c = 0 ∧ ac = 0) ∨ (0 < c ∧ 0 < ac ∧ af + ac = f) ∨ (c = 0 ∧ 0 < ac) ∨ (0 < c ∧ ac = 0) ∨ (0 < c ∧ 0 < ac ∧ af + ac ≠ f) := by omega
  rcases hcase with ⟨j1, j2⟩ | ⟨j1, j2, j3⟩ | ⟨j1, j2⟩ | ⟨j1, j2⟩ | ⟨j1, j2, j3⟩
  · have HRR : Aside0 (R = p ++ [(af, ac, axs ++ xs)]) := ⟨by
      rw [HADD.out, show joins (af, ac, axs) (f, c, xs) = some (af, ac, axs ++ xs) from by unfold joins; rw [if_neg (by simp only; omega), if_pos ⟨j1, j2⟩]]⟩
    clear hwe hwc
    subst j1
    subst j2
    go_wp2_with fail
    have kk : w2.cell? ⟨g, p.length * 3 + 2, Option.none⟩ = some (.string (bstr axs)) := FB.out.cell K2.out id
    have dd : w2.cell? ⟨w.heap.size, 2, Option.none⟩ = some (.string (bstr xs)) := by rw [blk_cell X2.out]; rfl
    have F3 : Aside0 (Fr No w2 w2.drew) := ⟨(Fr.refl _ _).drew⟩
    obtain ⟨cs9, hcs9⟩ := O2.out.typed g rfl
    have hfz : w2.frozen? ⟨g, p.length * 3 + 2, Option.none⟩ = false := blk_frozen hcs9 _
    clear hcs9
    refine Rg.start (fun k x => k ≤ 0 → Fr No w2 x) (by kernel_rfl) (by kernel_rfl) [12] [[9, 8, 7, 6, 5, 4, 1, 2, 3, 0, 10, 11, 12]] (by kernel_rfl) (.q 0 0 (.q 1 0 (.q 2 0 (.q 3 0 (.q 4 0 (.q 5 0 (.q 6 0 (.q 7 0 (.q 8 0 (.q 9 0 (.q 10 0 (.q 11 0 (.e 12 1 (.done)))))))))))))) (by kernel_rfl) ?_ ?_
    · exact fun _ _ => F3.out
    repeat (first
      | (refine Rg.q (o := ?_) (v := ?_) ?_ ?_ ?_ ?_ ?_
         rotate_left 2
         · (simp only [List.getElem?_toArray, List.getElem?_cons_succ, List.getElem?_cons_zero]; rfl)
         · exact fun _ _ _ h => h
         · first | rfl | (go_simp; done)
         · (intro x_ hx; (try dsimp only at hx); first | ((refine (ex_ix 34 82 3 _ _ ⟨g, 0, none⟩ (some ⟨g, 0, none⟩) L.length c1 p.length _ Try.underlying34 (by kernel_rfl) rfl rfl rfl rfl rfl hpl).trans ?_; with_reducible rfl)) | (fail) | (try (have q1 := (hx (by decide)).cell kk id; have q2 := (hx (by decide)).cell dd id); (try clear hx); go_simp; (try rw [if_neg (by omega)]); (try rw [if_pos (by omega)]); (try go_simp); try with_reducible rfl))
         try simp only [Act.put, List.setIfInBounds_toArray, List.set_cons_zero, List.set_cons_succ])
      | (refine Rg.skip (o := ?_) ?_ ?_ ?_ ?_
         rotate_left 1
         · (simp only [List.getElem?_toArray, List.getElem?_cons_succ, List.getElem?_cons_zero]; rfl)
         · exact fun _ _ _ h => h
         · first | rfl | (go_simp; done)
         try simp only [Act.put, List.setIfInBounds_toArray, List.set_cons_zero, List.set_cons_succ]))
    refine Rg.e (o := ?_) ?_ ?_
    rotate_left 1
    · (simp only [List.getElem?_toArray, List.getElem?_cons_succ, List.getElem?_cons_zero]; rfl)
    intro K hK
    go_simp
    clear hfz kk dd b0 b1 d0 d1
    refine hK.out _ _ (fun _ _ => True) (fun k x hk h => fun h2 => absurd (Nat.le_trans hk h2) (by decide)) ?_ ?_
    · exact fun _ _ => trivial
    try simp only [Act.put, List.setIfInBounds_toArray, List.set_cons_zero, List.set_cons_succ]
    repeat (first
      | (refine Rg.q (o := ?_) (v := ?_) ?_ ?_ ?_ ?_ ?_
         rotate_left 2
         · (simp only [List.getElem?_toArray, List.getElem?_cons_succ, List.getElem?_cons_zero]; rfl)
         · exact fun _ _ _ h => h
         · first | rfl | (go_simp; done)
         · (intro x_ hx; (try dsimp only at hx); (skip); go_simp; (try rw [if_neg (by omega)]); (try rw [if_pos (by omega)]); (try go_simp); try with_reducible rfl)
         try simp only [Act.put, List.setIfInBounds_toArray, List.set_cons_zero, List.set_cons_succ])
      | (refine Rg.skip (o := ?_) ?_ ?_ ?_ ?_
         rotate_left 1
         · (simp only [List.getElem?_toArray, List.getElem?_cons_succ, List.getElem?_cons_zero]; rfl)
         · exact fun _ _ _ h => h
         · first | rfl | (go_simp; done)
         try simp only [Act.put, List.setIfInBounds_toArray, List.set_cons_zero, List.set_cons_succ]))
    refine Rg.done ?_
    go_simp
    go_wp2
    go_ret
    have hst := Ow.store (f := fD) O2.out p.length 2 (af, 0, axs) ((af, 0, axs ++ xs) : Tok) (.string (bstr (axs ++ xs))) HFE.out rfl (by decide)
    rw [show L.set p.length ((af, 0, axs ++ xs) : Tok) = R from by rw [HRR.out, ← H0.out]; simp, show fD.sz = 3 from rfl] at hst
    refine ⟨_, rfl, hst.no (Fr.refl _ _).drew, fun q hq => ?_, ?_⟩
    · have e9 : g = q := by simpa [Value.ownBlock] using hq
      have := NG.out; omega
    · exact (F2.out.setCell (p := ⟨g, p.length * 3 + 2, none⟩) (.inr (Nat.le_of_lt NG.out)) _).drew
  · have HRR : Aside0 (R = p ++ [(af, ac + c, axs)]) := ⟨by
      rw [HADD.out, show joins (af, ac, axs) (f, c, xs) = some (af, ac + c, axs) from by unfold joins; rw [if_pos ⟨j1, j2, j3⟩]]⟩
    have j5 : (af + ac == f) = true := by rw [beq_iff_eq]; exact j3
    clear j3
    go_wp2_with fail
    have kk : w2.cell? ⟨g, p.length * 3 + 1, Option.none⟩ = some (.int .i64 ac) := FB.out.cell K1.out id
    have dd : w2.cell? ⟨w.heap.size, 1, Option.none⟩ = some (.int .i64 c) := by rw [blk_cell X2.out]; rfl
    have F3 : Aside0 (Fr No w2 w2.drew) := ⟨(Fr.refl _ _).drew⟩
    obtain ⟨cs9, hcs9⟩ := O2.out.typed g rfl
    have hfz : w2.frozen? ⟨g, p.length * 3 + 1, Option.none⟩ = false := blk_frozen hcs9 _
    clear hcs9
    refine Rg.start (fun k x => k ≤ 0 → Fr No w2 x) (by kernel_rfl) (by kernel_rfl) [12] [[9, 8, 7, 6, 5, 4, 1, 2, 3, 0, 10, 11, 12]] (by kernel_rfl) (.q 0 0 (.q 1 0 (.q 2 0 (.q 3 0 (.q 4 0 (.q 5 0 (.q 6 0 (.q 7 0 (.q 8 0 (.q 9 0 (.q 10 0 (.q 11 0 (.e 12 1 (.done)))))))))))))) (by kernel_rfl) ?_ ?_
    · exact fun _ _ => F3.out
    repeat (first
      | (refine Rg.q (o := ?_) (v := ?_) ?_ ?_ ?_ ?_ ?_
         rotate_left 2
         · (simp only [List.getElem?_toArray, List.getElem?_cons_succ, List.getElem?_cons_zero]; rfl)
         · exact fun _ _ _ h => h
         · first | rfl | (go_simp; done)
         · (intro x_ hx; (try dsimp only at hx); first | ((refine (ex_ix 34 82 3 _ _ ⟨g, 0, none⟩ (some ⟨g, 0, none⟩) L.length c1 p.length _ Try.underlying34 (by kernel_rfl) rfl rfl rfl rfl rfl hpl).trans ?_; with_reducible rfl)) | (fail) | (try (have q1 := (hx (by decide)).cell kk id; have q2 := (hx (by decide)).cell dd id); (try clear hx); go_simp; (try rw [if_neg (by omega)]); (try rw [if_pos (by omega)]); (try go_simp); try with_reducible rfl))
         try simp only [Act.put, List.setIfInBounds_toArray, List.set_cons_zero, List.set_cons_succ])
      | (refine Rg.skip (o := ?_) ?_ ?_ ?_ ?_
         rotate_left 1
         · (simp only [List.getElem?_toArray, List.getElem?_cons_succ, List.getElem?_cons_zero]; rfl)
         · exact fun _ _ _ h => h
         · first | rfl | (go_simp; done)
         try simp only [Act.put, List.setIfInBounds_toArray, List.set_cons_zero, List.set_cons_succ]))
    refine Rg.e (o := ?_) ?_ ?_
    rotate_left 1
    · (simp only [List.getElem?_toArray, List.getElem?_cons_succ, List.getElem?_cons_zero]; rfl)
    intro K hK
    go_simp
    clear hfz kk dd b0 b1 d0 d1
    refine hK.out _ _ (fun _ _ => True) (fun k x hk h => fun h2 => absurd (Nat.le_trans hk h2) (by decide)) ?_ ?_
    · exact fun _ _ => trivial
    try simp only [Act.put, List.setIfInBounds_toArray, List.set_cons_zero, List.set_cons_succ]
    repeat (first
      | (refine Rg.q (o := ?_) (v := ?_) ?_ ?_ ?_ ?_ ?_
         rotate_left 2
         · (simp only [List.getElem?_toArray, List.getElem?_cons_succ, List.getElem?_cons_zero]; rfl)
         · exact fun _ _ _ h => h
         · first | rfl | (go_simp; done)
         · (intro x_ hx; (try dsimp only at hx); (skip); go_simp; (try rw [if_neg (by omega)]); (try rw [if_pos (by omega)]); (try go_simp); try with_reducible rfl)
         try simp only [Act.put, List.setIfInBounds_toArray, List.set_cons_zero, List.set_cons_succ])
      | (refine Rg.skip (o := ?_) ?_ ?_ ?_ ?_
         rotate_left 1
         · (simp only [List.getElem?_toArray, List.getElem?_cons_succ, List.getElem?_cons_zero]; rfl)
         · exact fun _ _ _ h => h
         · first | rfl | (go_simp; done)
         try simp only [Act.put, List.setIfInBounds_toArray, List.set_cons_zero, List.set_cons_succ]))
    refine Rg.done ?_
    go_simp
    go_wp2
    go_ret
    have hst := Ow.store (f := fD) O2.out p.length 1 (af, ac, axs) ((af, ac + c, axs) : Tok) (.int .i64 (ac + c)) HFE.out rfl (by decide)
    rw [show L.set p.length ((af, ac + c, axs) : Tok) = R from by rw [HRR.out, ← H0.out]; simp, show fD.sz = 3 from rfl] at hst
    refine ⟨_, rfl, hst.no (Fr.refl _ _).drew, fun q hq => ?_, ?_⟩
    · have e9 : g = q := by simpa [Value.ownBlock] using hq
      have := NG.out; omega
    · exact (F2.out.setCell (p := ⟨g, p.length * 3 + 1, none⟩) (.inr (Nat.le_of_lt NG.out)) _).drew
  case' inr.inr.inl =>
    have HRR : Aside0 (R = L ++ [(f, c, xs)]) := ⟨by
      rw [HADD.out, show joins (af, ac, axs) (f, c, xs) = none from by unfold joins; rw [if_neg (by simp only; omega), if_neg (by simp only; omega)]]⟩
    have j5 : (ac == 0) = false := by rw [beq_eq_false_iff_ne]; omega
    have j4 : (c == 0) = true := by rw [beq_iff_eq]; exact j1
    have j3 : ¬ 0 < c := by omega
    clear j1
    go_upto_region 10 with fail
  case' inr.inr.inr.inl =>
    have HRR : Aside0 (R = L ++ [(f, c, xs)]) := ⟨by
      rw [HADD.out, show joins (af, ac, axs) (f, c, xs) = none from by unfold joins; rw [if_neg (by simp only; omega), if_neg (by simp only; omega)]]⟩
    have j4 : (c == 0) = false := by rw [beq_eq_false_iff_ne]; omega
    have j3 : ¬ 0 < ac := by omega
    clear j2
    go_upto_region 10 with fail
  case' inr.inr.inr.inr =>
    have HRR : Aside0 (R = L ++ [(f, c, xs)]) := ⟨by
      rw [HADD.out, show joins (af, ac, axs) (f, c, xs) = none from by unfold joins; rw [if_neg (by simp only; omega), if_neg (by simp only; omega)]]⟩
    have j4 : (c == 0) = false := by rw [beq_eq_false_iff_ne]; omega
    have j5 : (af + ac == f) = false := by rw [beq_eq_false_iff_ne]; exact j3
    clear j3
    go_upto_region 10 with fail
  all_goals
    clear b0 b1 d0 d1 hwe hwc hwp hlI
    have LD := ld_all (P := Try.prog) (ty := 82) X2.out Try.underlying82 rfl (by kernel_rfl)
    go_wp2_with (first
      | (at_builtin; go_loud (refine apN (f := fD) rfl (.tmp 71) (.tmp 73) _ _ (.agg #[.int .i64 0, .int .i64 0, .string ⟨#[]⟩]) 32 rfl Try.underlying34 infoD rfl (by decide) (by decide) (.slice (some ⟨g, 0, none⟩) L.length c1) L (.slice (some ⟨w2.heap.size, 0, none⟩) 1 1) [(f, c, xs)] rfl rfl (O2.out.no ((Fr.refl _ _).alloc _)) (rd_one w2 ((f, c, xs) : Tok) _ rfl _) (by have := HLL.out; simp; omega) ?_; intro v9 w9 j1 j2 j3 j4; have J1 := Aside0.mk j1; have J2 := Aside0.mk j2; have J3 := Aside0.mk j3; clear j1 j2 j3 j4))
      | (refine ldG (.tmp 3) 82 _ _ rfl rfl (LD _ (Fr.refl _ _)) (by first | rfl | (go_simp; done)) ?_)
      | (refine lsX rfl (ex_buildSlice (oneD f c xs w2) rfl rfl) ?_))
    clear LD
    go_ret
    refine ⟨_, rfl, by rw [HRR.out]; exact J1.out, fun q hq => ?_, (F2.out.alloc (.cells (tdC f c xs) 82)).trans J2.out (fun q hq hb => by
      have hb' : (Value.slice (some ⟨g, 0, none⟩) L.length c1).ownBlock = some q := hb
      have e9 : g = q := by simpa [Value.ownBlock] using hb'
      have := NG.out; omega)⟩
    have hq' : v9.ownBlock = some q := hq
    rcases J3.out with h9 | ⟨q', h9, h10⟩
    · rw [hq'] at h9
      have e9 : q = g := by simpa [Value.ownBlock] using h9
      have := NG.out; omega
    · rw [hq'] at h9; injection h9 with h9; have := F2.out.size; simp at h10; omega

theorem refadd_calls (v : Value) (L : List Tok) (f c : Int) (xs : List UInt8) (w : World) (hv : Rd fD w v L) (hl : L.length ≤ 1000000) (hs : ∀ t ∈ L, 0 ≤ t.1 ∧ t.1 ≤ 4611686018427387904 ∧ 0 ≤ t.2.1 ∧ t.2.1 ≤ 1000000 ∧ t.2.2.length ≤ 50000000) (t3 : 0 ≤ c) (t4 : c ≤ 1000000) (hx : xs.length ≤ 50000000) :
    Calls Try.prog 33 #[v, .agg (tdC f c xs)] w fun e w' =>
    ∃ v', e = .returned v' ∧ Ow fD 82 w' v' (addT L (f, c, xs)) ∧ (∀ q, v'.ownBlock = some q → w.heap.size ≤ q) ∧ Fr No w w' := by
  rcases snoc_or L with rfl | ⟨p, a, rfl⟩
  · exact refadd_nil v f c xs w hv
  · obtain ⟨af, ac, axs⟩ := a
    obtain ⟨h1, h2, h3, h4, h5⟩ := hs (af, ac, axs) (by simp)
    simp only at h1 h2 h3 h4 h5
    rw [List.length_append] at hl
    exact refadd_more v p af ac axs f c xs w hv (by omega) h1 h2 h3 h4 t3 t4 (by omega)
end Go.Proofs.Ytebgkmfecmlanaa.Tk
namespace Go.Proofs.Ytebgkmfecmlanaa.Tk
open Go.RowKit Go.IntWalk Go.Proofs.YtebgkmfecmlanaaW.PrintWords Go.Proofs.Ytebgkmfecmlanaa.B Go.Proofs.Ytebgkmfecmlanaa.PB Go.Proofs.Ytebgkmfecmlanaa.STell Go.Proofs.Ytebgkmfecmlanaa.Blk Go.Proofs.Ytebgkmfecmlanaa.Bk Go.Proofs.Ytebgkmfecmlanaa.SBlk Go.Proofs.Ytebgkmfecmlanaa.SWeak

set_option maxHeartbeats 4000000 in
set_option maxRecDepth 100000 in
theorem rmake_bad (size cut len : Int) (sl : Value) (bs : List BK) (d : List UInt8) (w : World) (hv : Rd (fBk .i64) w sl bs) (hsz : size ≤ 9223372036854775807) (hln : len ≤ 9223372036854775807) (hE : chkE size cut len bs ≠ 0) :
    Calls Try.prog 13 #[.agg (sgC size cut len sl), .string (bstr d)] w fun e w' => e = .returned (.tuple #[.slice none 0 0, .int .i64 (chkE size cut len bs)]) ∧ Fr No w w' := by
  obtain ⟨A, c, rfl, hAc, hm, _⟩ := id hv
  obtain ⟨E, hEE⟩ : ∃ E, chkE size cut len bs = E := ⟨_, rfl⟩
  have hck := fun W hW => Ref6.check_calls size cut len (.slice A bs.length c) bs W hW hsz hln
  rw [hEE] at hE hck ⊢
  have hE0 : (E == 0) = false := by rw [beq_eq_false_iff_ne]; exact hE
  have HV := Aside0.mk hv; have HCK := Aside0.mk hck
  clear hv hck hEE
  go_enter Try.func13, Try.ntmps13
  go_upto_region 1 with fail
  have hb := heap_alloc_new w (.cells (sgC size cut len (.slice A bs.length c)) 39)
  have F1 : Aside0 (Fr No w (w.alloc (.cells (sgC size cut len (.slice A bs.length c)) 39))) := ⟨(Fr.refl _ _).alloc _⟩
  change Code.wp _ _ _ _ (w.alloc (.cells (sgC size cut len (.slice A bs.length c)) 39))
  generalize w.alloc (.cells (sgC size cut len (.slice A bs.length c)) 39) = w1 at hb F1 ⊢
  have LD := ld_all (P := Try.prog) (ty := 39) hb Try.underlying39 rfl (by kernel_rfl)
  go_wp2_with (first
    | (refine ldG (.tmp 2) 39 _ _ rfl rfl (LD _ (Fr.refl _ _)) (by first | rfl | (go_simp; done)) ?_)
    | fail)
  refine (HCK.out w1 (HV.out.no F1.out)).mono ?_
  rintro e w2 ⟨rfl, hf⟩
  have F2 : Aside0 (Fr No w w2) := ⟨F1.out.none hf⟩
  clear hf LD hb
  go_wp2
  (try simp only [Exit.inBlock, Exit.then]); refine bodyPost_ret (results_list (rs := [.tmp 4, .tmp 5]) rfl (by simp) (.tmp (.tmp .nil))) rfl ?_
  exact ⟨rfl, F2.out⟩

/-- What the loop keeps. -/
def Rm (s : Nat) (f : List UInt8 → Option Nat) (nb : Nat) (d : List UInt8) (R : List Tok) (w0 wr : World) (vo : Value) (k : Nat) : Prop :=
  ∃ T : List Tok, Ow fD 82 wr vo T ∧ (∀ q, vo.ownBlock = some q → w0.heap.size ≤ q) ∧ good nb T ∧ upto k T ∧ T.length ≤ k ∧ tell s f (d.drop k) T = R ∧ Fr No w0 wr
theorem take_minR (d : List UInt8) (k s m : Nat) (h : min s (d.length - k) = m) : (d.drop k).take s = (d.drop k).take m := by
  rcases Nat.le_total s (d.length - k) with h1 | h1
  · rw [← h, Nat.min_eq_left h1]
  · rw [← h, Nat.min_eq_right h1, List.take_of_length_le (by rw [List.length_drop]; omega), List.take_of_length_le (by rw [List.length_drop]; omega)]
theorem drop_minR (d : List UInt8) (k s m : Nat) (h : min s (d.length - k) = m) : (d.drop k).drop s = d.drop (k + m) := by
  rw [List.drop_drop]
  rcases Nat.le_total s (d.length - k) with h1 | h1
  · rw [← h, Nat.min_eq_left h1]
  · rw [List.drop_eq_nil_of_le (by omega), List.drop_eq_nil_of_le (by omega)]
theorem Rm.hit {s nb : Nat} {f : List UInt8 → Option Nat} {d : List UInt8} {R : List Tok} {w0 w9 : World} {vo : Value} {k m i : Nat} {T : List Tok} (hs : 1 ≤ s) (hk : k < d.length) (hz : min s (d.length - k) = m) (hfi : f ((d.drop k).take m) = some i) (hi : i < nb)
    (hgd : good nb T) (hup : upto k T) (hTn : T.length ≤ k) (hR : tell s f (d.drop k) T = R) (hT : Ow fD 82 w9 vo (addT T ((i : Int), 1, []))) (hn : ∀ q, vo.ownBlock = some q → w0.heap.size ≤ q) (hf : Fr No w0 w9) : Rm s f nb d R w0 w9 vo (k + m) := by
  refine ⟨addT T ((i : Int), 1, []), hT, hn, good_add hgd ⟨by simp, by simp, fun _ => ⟨rfl, by simp only; omega⟩, fun h9 => by simp at h9⟩ (.inr rfl), fun t ht => ?_, ?_, ?_, hf⟩
  · have := upto_add (t := ((i : Int), (1 : Int), ([] : List UInt8))) hup t ht
    simp at this
    omega
  · have := (addT_length T ((i : Int), 1, [])).1
    omega
  · rw [← hR, tell_hit T hs (fun h => ?_) (i := i) (by rw [take_minR d k s m hz]; exact hfi), drop_minR d k s m hz]
    have := congrArg List.length h
    rw [List.length_drop] at this
    simp at this
    omega
theorem Rm.miss {s nb : Nat} {f : List UInt8 → Option Nat} {d : List UInt8} {R : List Tok} {w0 w9 : World} {vo : Value} {k m : Nat} {x : UInt8} {T : List Tok} (hk : d[k]? = some x) (hz : min s (d.length - k) = m) (hfi : f ((d.drop k).take m) = none)
    (hgd : good nb T) (hup : upto k T) (hTn : T.length ≤ k) (hR : tell s f (d.drop k) T = R) (hT : Ow fD 82 w9 vo (addT T (0, 0, [x]))) (hn : ∀ q, vo.ownBlock = some q → w0.heap.size ≤ q) (hf : Fr No w0 w9) : Rm s f nb d R w0 w9 vo (k + 1) := by
  obtain ⟨hkl, hx⟩ := List.getElem?_eq_some_iff.1 hk
  refine ⟨addT T (0, 0, [x]), hT, hn, good_add hgd ⟨by simp, by simp, fun h9 => by simp at h9, fun _ => ⟨rfl, by simp⟩⟩ (.inl rfl), fun t ht => ?_, ?_, ?_, hf⟩
  · have := upto_add (t := ((0 : Int), (0 : Int), [x])) hup t ht
    simpa using this
  · have := (addT_length T (0, 0, [x])).1
    omega
  · have e : d.drop k = x :: d.drop (k + 1) := by rw [List.drop_eq_getElem_cons hkl, hx]
    rw [← hR, e, tell_miss T (by rw [← e, take_minR d k s m hz]; exact hfi)]

set_option maxHeartbeats 8000000 in
set_option maxRecDepth 100000 in
theorem rmake_ok (s c L : Nat) (sl : Value) (bs : List BK) (d : List UInt8) (w : World) (hv : Rd (fBk .i64) w sl bs) (hl : d.length ≤ 8192) (hE : chkE s c L bs = 0) (hs1 : 1 ≤ s) (hs : s ≤ 4096) (hc : c ≤ 32) (hL : L ≤ 9223372036854775807) (hn : bs.length ≤ 4096) (hin : ∀ i, i < bs.length → i * s < L) :
    Calls Try.prog 13 #[.agg (sgC s c L sl), .string (bstr d)] w fun e w' => ∃ vo, e = .returned (.tuple #[vo, .int .i64 0]) ∧ Ow fD 82 w' vo (tell s (fB s L c bs) d []) ∧ Fr No w w' := by
  obtain ⟨A, ca, rfl, _⟩ := id hv
  have hck := fun W hW => Ref6.check_calls (s : Int) (c : Int) (L : Int) (.slice A bs.length ca) bs W hW (by omega) (by omega)
  simp only [hE] at hck
  have hdsz : (bstr d).size = d.length := bstr_size d
  obtain ⟨R, hR⟩ : ∃ R, tell s (fB s L c bs) d [] = R := ⟨_, rfl⟩
  rw [hR]
  have HV := Aside0.mk hv; have HCK := Aside0.mk hck; have HIN := Aside0.mk hin; have HR := Aside0.mk hR
  clear hv hck hin hR hE
  go_enter Try.func13, Try.ntmps13
  go_upto_region 1 with fail
  have hb := heap_alloc_new w (.cells (sgC s c L (.slice A bs.length ca)) 39)
  have F1 : Aside0 (Fr No w (w.alloc (.cells (sgC s c L (.slice A bs.length ca)) 39))) := ⟨(Fr.refl _ _).alloc _⟩
  change Code.wp _ _ _ _ (w.alloc (.cells (sgC s c L (.slice A bs.length ca)) 39))
  generalize w.alloc (.cells (sgC s c L (.slice A bs.length ca)) 39) = w1 at hb F1 ⊢
  have HB := Aside0.mk hb
  have LD := ld_all (P := Try.prog) (ty := 39) hb Try.underlying39 rfl (by kernel_rfl)
  clear hb
  go_wp2_with (first
    | (refine ldG (.tmp 2) 39 _ _ rfl rfl (LD _ (Fr.refl _ _)) (by first | rfl | (go_simp; done)) ?_)
    | fail)
  refine (HCK.out w1 (HV.out.no F1.out)).mono ?_
  rintro e w2 ⟨rfl, hf⟩
  have F2 : Aside0 (Fr No w w2) := ⟨F1.out.none hf⟩
  have HB2 : Aside0 (w2.heap[w.heap.size]? = some (.cells (sgC s c L (.slice A bs.length ca)) 39 (0, 0))) := ⟨hf.heap HB.out id⟩
  clear hf LD
  go_wp2_with fail
  have D0 : Aside0 (Rm s (fB s L c bs) bs.length d R w2 w2 (.slice none 0 0) 0) := ⟨[], Ow.nil _ _ _, (fun q hq => by cases hq), good_nil _, (fun t ht => by cases ht), Nat.le_refl _, HR.out, Fr.refl _ _⟩
  go_loopw [7, 8] (fun v7 v8 wr => ∃ k : Nat, v8 = .int .i64 (k : Int) ∧ k ≤ d.length ∧ Aside0 (Rm s (fB s L c bs) bs.length d R w2 wr v7 k)) (fun _ v8 _ => d.length - (intOf v8).toNat)
  case atStart => exact ⟨0, rfl, Nat.zero_le _, D0⟩
  case round =>
    obtain ⟨k, rfl, hk, HRM⟩ := hrel
    by_cases hkl : k < d.length
    · have hkI : (k : Int) < (d.length : Int) := by omega
      obtain ⟨T, hO, hOn, hgd, hup, hTn, hR, hf⟩ := HRM.out
      obtain ⟨z, hz⟩ : ∃ z, min s (d.length - k) = z := ⟨_, rfl⟩
      have hz1 : 1 ≤ z := by omega
      have hzk : k + z ≤ d.length := by omega
      have hzs : z ≤ s := by omega
      have HO := Aside0.mk hO; have HON := Aside0.mk hOn; have HGD := Aside0.mk hgd; have HUP := Aside0.mk hup; have HR1 := Aside0.mk hR; have HF := Aside0.mk hf
      have HZ := Aside0.mk hz
      have c0 : wr.cell? ⟨w.heap.size, 0, Option.none⟩ = some (.int .i64 (s : Int)) := by rw [blk_cell (hf.heap HB2.out id)]; rfl
      have hcut : ∀ W : World, (Instr.slice 9 (.string (bstr d)) (some (.int .i64 (k : Int))) (some (.int .i64 ((k : Int) + (z : Int)))) none).run Try.prog W = .ok (.string (bstr ((d.drop k).take z))) W := fun W => by
        rw [run_slice_string W 9 (bstr d) .i64 .i64 _ _ Try.underlying9 (by omega) (by omega) (by rw [bstr_size]; omega), bstr_extract, show ((k : Int) + (z : Int)).toNat = k + z by omega, Int.toNat_natCast, List.drop_take, Nat.add_sub_cancel_left]
      clear hO hOn hgd hup hR hf HRM
      have LDS := ld_all (P := Try.prog) (ty := 39) (HF.out.heap HB2.out id) Try.underlying39 rfl (by kernel_rfl)
      have hor : ((s : Int) < (d.length : Int) - (k : Int) ∧ s = z) ∨ (¬ (s : Int) < (d.length : Int) - (k : Int) ∧ (d.length : Int) = (k : Int) + (z : Int)) := by omega
      clear hz
      obtain ⟨x, hx0⟩ : ∃ x, d[k]? = some x := ⟨_, List.getElem?_eq_getElem hkl⟩
      have hone : (d.drop k).take 1 = [x] := by
        obtain ⟨h1, h2⟩ := List.getElem?_eq_some_iff.1 hx0
        rw [List.drop_eq_getElem_cons h1, List.take_succ_cons, h2]; rfl
      have HC1 : Aside0 (∀ W : World, (Instr.slice 9 (.string (bstr d)) (some (.int .i64 (k : Int))) (some (.int .i64 ((k : Int) + 1))) none).run Try.prog W = .ok (.string (bstr [x])) W) := ⟨fun W => by
        rw [run_slice_string W 9 (bstr d) .i64 .i64 _ _ Try.underlying9 (by omega) (by omega) (by rw [bstr_size]; omega), bstr_extract, show ((k : Int) + 1).toNat = k + 1 by omega, Int.toNat_natCast, List.drop_take, Nat.add_sub_cancel_left, hone]⟩
      have HX0 := Aside0.mk hx0
      obtain ⟨l, hlw⟩ : ∃ l, (d.drop k).take z = l := ⟨_, rfl⟩
      have hll : l.length = z := by rw [← hlw, List.length_take, List.length_drop]; omega
      rw [hlw] at hcut
      obtain ⟨r, hr⟩ : ∃ r, fB s L c bs l = r := ⟨_, rfl⟩
      have hfind := fun v W hv => Ref6.find_calls s L c v bs l W hv (by omega) (by omega) hL HIN.out (by omega) (by omega)
      rw [show findL (hit s L (sums c l) l.length) 0 bs = r from hr] at hfind
      have HFND := Aside0.mk hfind; have HLW := Aside0.mk hlw; have HRR := Aside0.mk hr
      clear hone hx0 hlw hll hfind hr
      rcases hor with ⟨h1, h2⟩ | ⟨h1, h2⟩
      case' inl =>
        have hcutX := hcut
        rw [← h2] at hcutX
        have HTO : Aside0 (Value.int .i64 ((k : Int) + (s : Int)) = Value.int .i64 ((k + z : Nat) : Int)) := ⟨by rw [← h2]; rfl⟩
        have hws : IntKind.i64.wrap ((k : Int) + (s : Int)) = (k : Int) + (s : Int) := by rw [i64_left]; exact wrap64_in _ (by omega)
        clear h2 hcut
        go_upto_region 10 with fail
      case' inr =>
        have hcutX := hcut
        rw [← h2] at hcutX
        have HTO : Aside0 (Value.int .i64 (d.length : Int) = Value.int .i64 ((k + z : Nat) : Int)) := ⟨by rw [h2]; rfl⟩
        clear h2 hcut
        go_upto_region 10 with fail
      all_goals
        clear c0
        refine Rg.start (fun _ y => Fr No wr y) (by kernel_rfl) (by kernel_rfl) [5] [[3, 2, 1, 4, 0, 5]] (by kernel_rfl) (.q 0 0 (.q 1 0 (.q 2 0 (.q 3 0 (.q 4 0 (.e 5 1 (.q 6 1 (.done)))))))) (by kernel_rfl) ?_ ?_
        · exact fun _ => (Fr.refl _ _).drew
        repeat (first
          | (refine Rg.q (o := ?_) (v := ?_) ?_ ?_ ?_ ?_ ?_
             rotate_left 2
             · (simp only [List.getElem?_toArray, List.getElem?_cons_succ, List.getElem?_cons_zero]; rfl)
             · exact fun _ _ _ h => h
             · first | rfl | (go_simp; done)
             · (intro x_ hx; (try dsimp only at hx); first | ((refine (ex_ld rfl rfl (LDS _ hx)).trans ?_; with_reducible rfl)) | (fail) | (skip; (try clear hx); go_simp; (try rw [if_neg (by omega)]); (try rw [if_pos (by omega)]); (try go_simp); try with_reducible rfl))
             try simp only [Act.put, List.setIfInBounds_toArray, List.set_cons_zero, List.set_cons_succ])
          | (refine Rg.skip (o := ?_) ?_ ?_ ?_ ?_
             rotate_left 1
             · (simp only [List.getElem?_toArray, List.getElem?_cons_succ, List.getElem?_cons_zero]; rfl)
             · exact fun _ _ _ h => h
             · first | rfl | (go_simp; done)
             try simp only [Act.put, List.setIfInBounds_toArray, List.set_cons_zero, List.set_cons_succ]))
        refine Rg.e (o := ?_) ?_ ?_
        rotate_left 1
        · (simp only [List.getElem?_toArray, List.getElem?_cons_succ, List.getElem?_cons_zero]; rfl)
        intro K hK
        go_simp
        refine (HFND.out _ _ (((HV.out.no F2.out).no HF.out).no (Fr.refl _ _).drew)).mono ?_
        rintro en x2 ⟨rfl, hf⟩
        have K2 : Aside0 (Fr No wr x2) := ⟨((Fr.refl No wr).drew).none hf⟩
        clear hf hcutX LDS
        go_simp
        refine hK.out _ _ (fun _ y => Fr No wr y) (fun k x hk h => h) ?_ ?_
        · exact fun _ _ => K2.out
        try simp only [Act.put, List.setIfInBounds_toArray, List.set_cons_zero, List.set_cons_succ]
        repeat (first
          | (refine Rg.q (o := ?_) (v := ?_) ?_ ?_ ?_ ?_ ?_
             rotate_left 2
             · (simp only [List.getElem?_toArray, List.getElem?_cons_succ, List.getElem?_cons_zero]; rfl)
             · exact fun _ _ _ h => h
             · first | rfl | (go_simp; done)
             · (intro x_ hx; (try dsimp only at hx); (skip); go_simp; (try rw [if_neg (by omega)]); (try rw [if_pos (by omega)]); (try go_simp); try with_reducible rfl)
             try simp only [Act.put, List.setIfInBounds_toArray, List.set_cons_zero, List.set_cons_succ])
          | (refine Rg.skip (o := ?_) ?_ ?_ ?_ ?_
             rotate_left 1
             · (simp only [List.getElem?_toArray, List.getElem?_cons_succ, List.getElem?_cons_zero]; rfl)
             · exact fun _ _ _ h => h
             · first | rfl | (go_simp; done)
             try simp only [Act.put, List.setIfInBounds_toArray, List.set_cons_zero, List.set_cons_succ]))
        refine Rg.done ?_
        go_simp
        have F22 : Aside0 (Fr No w2 x2) := ⟨HF.out.none K2.out⟩
        rcases r with _ | r
        · dsimp only [Ref6.fndZ]
          have hcut1 := HC1.out
          go_wp2_with fail
          refine (refadd_calls u7 T 0 0 [x] x2 (HO.out.no K2.out).rd (by omega) (fun t ht => ?_) (by omega) (by omega) (by simp)).mono ?_
          · have h9 := small_of (HGD.out.ok t ht) (by omega) (HUP.out t ht) (by omega)
            have := HUP.out t ht
            exact ⟨h9.1, h9.2.1, h9.2.2.1, h9.2.2.2.1, by omega⟩
          rintro e w8 ⟨vo, rfl, hT8, hn8, hf8⟩
          have T8 := Aside0.mk hT8
          have F8 : Aside0 (Fr No w2 w8) := ⟨F22.out.none hf8⟩
          have N8 : Aside0 (∀ q, vo.ownBlock = some q → w2.heap.size ≤ q) := ⟨fun q hq => Nat.le_trans F22.out.size (hn8 q hq)⟩
          clear hT8 hn8 hf8 hcut1
          go_wp2
          go_roundw
          case rel => exact ⟨k + 1, by go_num, by omega, ⟨Rm.miss HX0.out HZ.out (by rw [HLW.out]; exact HRR.out) HGD.out HUP.out hTn HR1.out T8.out N8.out F8.out⟩⟩
          case measure => simp [intOf]; omega
        · dsimp only [Ref6.fndZ]
          have hri := fB_lt HRR.out
          have HRI := Aside0.mk hri
          have hrI : (0 : Int) ≤ (r : Int) := by omega
          go_wp2_with fail
          refine (refadd_calls u7 T (r : Int) 1 [] x2 (HO.out.no K2.out).rd (by omega) (fun t ht => ?_) (by omega) (by omega) (by simp)).mono ?_
          · have h9 := small_of (HGD.out.ok t ht) (by omega) (HUP.out t ht) (by omega)
            have := HUP.out t ht
            exact ⟨h9.1, h9.2.1, h9.2.2.1, h9.2.2.2.1, by omega⟩
          rintro e w8 ⟨vo, rfl, hT8, hn8, hf8⟩
          have T8 := Aside0.mk hT8
          have F8 : Aside0 (Fr No w2 w8) := ⟨F22.out.none hf8⟩
          have N8 : Aside0 (∀ q, vo.ownBlock = some q → w2.heap.size ≤ q) := ⟨fun q hq => Nat.le_trans F22.out.size (hn8 q hq)⟩
          clear hT8 hn8 hf8
          go_wp2
          go_roundw
          case rel => exact ⟨k + z, HTO.out, by omega, ⟨Rm.hit hs1 hkl HZ.out (by rw [HLW.out]; exact HRR.out) HRI.out HGD.out HUP.out hTn HR1.out T8.out N8.out F8.out⟩⟩
          case measure => simp [intOf]; omega
    · have hkI : ¬ (k : Int) < (d.length : Int) := by omega
      obtain rfl : k = d.length := by omega
      obtain ⟨T, hO, hOn, hgd, hup, hTn, hR, hf⟩ := HRM.out
      rw [List.drop_length, tell_nil] at hR
      subst hR
      obtain ⟨A9, c9, rfl⟩ := hO.form
      have hT8 : ¬ (8192 : Int) < (T.length : Int) := by omega
      have HO := Aside0.mk hO; have HF := Aside0.mk hf
      clear hO hf hgd hup HRM
      go_wp2
      (try simp only [Exit.inBlock, Exit.then]); refine bodyPost_ret (results_list (rs := [.tmp 4, .tmp 5]) rfl (by simp) (.tmp (.tmp .nil))) rfl ?_
      exact ⟨_, rfl, HO.out, F2.out.none HF.out⟩
end Go.Proofs.Ytebgkmfecmlanaa.Tk
