/- patch.Told: as cells; Apply, Tell: walked. patch.Tell: walked. patch.Send, the statements' head of chapter 08: walked. The statements' head of chapter 08: walked. -/
import Derived.Test.YtnfneokmiopieaaDoorPatJ
import Derived.Test.YtnfneokmiopieaaDoorShaC
import Derived.Test.YtnfneokmiopieaaDoorDelM
import Derived.Test.YtnfneokmiopieaaDoorSums6
import Derived.Test.YtnfneokmiopieaaDoorDelH
import Derived.Test.YtnfneokmiopieaaDoorSpecJ2
import Derived.Lib.SlBytesConst
set_option linter.unusedVariables false
set_option linter.unusedSimpArgs false
namespace Go.Proofs.YtnfneokmiopieaaDoor.Pat
open Go.RowKit Go.IntWalk Go.Proofs.YtnfneokmiopieaaDoorW.PrintWords Go.Proofs.YtnfneokmiopieaaDoor.B Go.Proofs.YtnfneokmiopieaaDoor.PB Go.Proofs.YtnfneokmiopieaaDoor.STell Go.Proofs.YtnfneokmiopieaaDoor.SJoin Go.Proofs.YtnfneokmiopieaaDoor.Tk Go.Proofs.YtnfneokmiopieaaDoor.Blk Go.Proofs.YtnfneokmiopieaaDoor.SBlk Go.Proofs.YtnfneokmiopieaaDoor.Bk Go.Proofs.YtnfneokmiopieaaDoor.L6

/-- A told file's cells. -/
def toL (vl : Value) (ct : Int) (st : List UInt8) : List Value := vl :: .int .i64 ct :: st.map vu8
def toC (vl : Value) (ct : Int) (st : List UInt8) : Array Value := (toL vl ct st).toArray
theorem toC_size {vl : Value} {ct : Int} {st : List UInt8} (h : st.length = 32) : (toC vl ct st).size = 34 := by simp [toC, toL, h]
theorem toC_0 (vl : Value) (ct : Int) (st : List UInt8) : (toC vl ct st)[0]? = some vl := by simp [toC, toL]
theorem toC_1 (vl : Value) (ct : Int) (st : List UInt8) : (toC vl ct st)[1]? = some (.int .i64 ct) := by simp [toC, toL]
theorem toC_one {A : Option Addr} {n c : Nat} {ct : Int} {st : List UInt8} : (toC (.slice A n c) ct st).all (·.oneCell') = true := by
  rw [Array.all_eq_true]
  intro i hi
  have : ∀ u ∈ toL (.slice A n c) ct st, u.oneCell' = true := fun u hu => by
    rcases List.mem_cons.1 hu with rfl | hu
    · rfl
    · rcases List.mem_cons.1 hu with rfl | hu
      · rfl
      · obtain ⟨x, _, rfl⟩ := List.mem_map.1 hu
        rfl
  exact this _ (by simp [toC])
theorem ld_told {w : World} {g : Nat} {t : TypeId} {fz : Nat × Nat} {vl : Value} {ct : Int} {st : List UInt8} (hs : st.length = 32) (h : w.heap[g]? = some (.cells (toC vl ct st) t fz)) : ∀ x, Fr No w x → (loadVar 38 ⟨g, 2, none⟩).run Tryd.prog x = .ok (Arr.av st) x := fun x hx => by
  have hc : Cv x ⟨g, 2, none⟩ (st.map vu8) := by
    have := Cv.of_block (hx.heap h id) 2
    have e : (toC vl ct st).toList.drop 2 = st.map vu8 := by simp [toC, toL]
    rw [e] at this
    exact this
  exact run_loadVar_cells hc Tryd.underlying38 rfl (by rw [List.length_map, hs]; kernel_rfl)
section
variable {P : Program}
theorem fill_three {pl : Nat → Option (Nat × Nat)} {cells : Array Value} {a b : Value} {v : Array Value} {n : Nat} (h0 : pl 0 = some (0, 1)) (h1 : pl 1 = some (1, 1)) (h2 : pl 2 = some (2, n)) (ha : a.cells = #[a]) (hb : b.cells = #[b]) (hv : v.size = n) (hc : cells.size = n + 2) :
    Instr.fill pl cells [(0, a), (1, b), (2, .agg v)] = some (#[a, b] ++ v) := by
  unfold Instr.fill
  simp only [h0, ha]
  have e0 : ∀ x : Value, (#[x] : Array Value).size = 1 := fun _ => rfl
  rw [if_neg (by rw [e0, hc]; simp)]
  have e1 : (Array.foldl (fun cs (x : Value × Nat) => cs.setIfInBounds (0 + x.2) x.1) cells (#[a] : Array Value).zipIdx) = cells.setIfInBounds 0 a := rfl
  rw [e1]
  unfold Instr.fill
  simp only [h1, hb]
  rw [if_neg (by rw [e0]; simp [hc]; try omega)]
  have e2 : ∀ cs0 : Array Value, (Array.foldl (fun cs (x : Value × Nat) => cs.setIfInBounds (1 + x.2) x.1) cs0 (#[b] : Array Value).zipIdx) = cs0.setIfInBounds 1 b := fun _ => rfl
  rw [e2]
  unfold Instr.fill
  simp only [h2, Value.cells, hv]
  rw [if_neg (by simp [hc]; try omega)]
  unfold Instr.fill
  congr 1
  have g := Great.foldl_set 2 v.toList 0 ((cells.setIfInBounds 0 a).setIfInBounds 1 b)
  apply Array.ext'
  apply List.ext_getElem?
  intro k
  have hk := g.2 k
  rw [← Array.foldl_toList, Array.toList_zipIdx]
  simp only [List.getElem?_toArray, Array.getElem?_toList] at hk ⊢
  rw [hk]
  by_cases hk0 : k = 0
  · subst hk0
    rw [if_neg (by omega), Array.getElem?_append_left (by simp)]
    simp [hc]
  · by_cases hk1 : k = 1
    · subst hk1
      rw [if_neg (by omega), Array.getElem?_append_left (by simp)]
      simp [hc]
    · by_cases hkn : k < n + 2
      · rw [if_pos (by simp [hv, hc]; omega), Array.getElem?_append_right (by simp; omega)]
        simp
      · rw [if_neg (by simp [hv]; omega), Array.getElem?_append_right (by simp; omega), Array.getElem?_eq_none (by simp [hc]; omega), Array.getElem?_eq_none (by simp [hv]; omega)]
theorem run_build3 {t : TypeId} {fs : Array Field} {n : Nat} (hu : P.underlying t = some (.struct fs)) (hz : ((P.info? t).bind (·.zero)).map (·.cells.size) = some (n + 2)) (hp : fs.toList.mapM (fun f => (P.info? f.type).map fun i => (f.offset, i.size)) = some [(0, 1), (1, 1), (2, n)])
    (a b : Value) (ha : a.cells = #[a]) (hb : b.cells = #[b]) (v : Array Value) (hv : v.size = n) (W : World) : (Instr.build t #[(0, a), (1, b), (2, .agg v)]).run P W = .ok (.agg (#[a, b] ++ v)) W := by
  refine run_build W t _ _ ?_
  unfold Program.built
  cases hit : P.info? t with
  | none => simp [hit] at hz
  | some it =>
    cases hzz : it.zero with
    | none => simp [hit, hzz] at hz
    | some z =>
      simp only [hit, hzz, Option.bind_some, Option.map_some, Option.some.injEq] at hz
      simp only [hu, hzz, hp]
      exact fill_three rfl rfl rfl ha hb hv hz
end
set_option maxRecDepth 100000 in
theorem buildT {A : Option Addr} {n c : Nat} (ct : Int) {st : List UInt8} (hs : st.length = 32) (W : World) : (Instr.build 40 #[(0, .slice A n c), (1, .int .i64 ct), (2, Arr.av st)]).run Tryd.prog W = .ok (.agg (toC (.slice A n c) ct st)) W := by
  have := run_build3 (P := Tryd.prog) (t := 40) (n := 32) Tryd.underlying40 (by kernel_rfl) (by kernel_rfl) (.slice A n c) (.int .i64 ct) rfl rfl (st.map vu8).toArray (by simp [hs]) W
  unfold Arr.av
  rw [this]
  congr 2
  simp [toC, toL]

theorem joinL_len {old : List UInt8} {size : Int} : ∀ (L : List Tok) (i : Nat) (out : List UInt8), out.length ≤ 65536 → (joinL old size i out L).1.length ≤ 65536
  | [], _, out, h => h
  | t :: L, i, out, h => by
    rw [joinL]
    split
    · refine joinL_len L _ _ ?_
      unfold stepJ
      split
      · exact Nat.zero_le _
      · split
        · split
          · exact Nat.zero_le _
          · split
            · exact Nat.zero_le _
            · rw [List.length_append]; omega
        · split
          · exact Nat.zero_le _
          · rw [List.length_append]; omega
    · exact Nat.zero_le _
/-- What is made of a file that is told. -/
def applyR (old : List UInt8) (size : Int) (L : List Tok) (ct : Int) (st : List UInt8) : List UInt8 × Option (Nat × Nat) :=
  if (joinR old size L).2.1 ≠ 0 then ([], errJ (joinR old size L)) else if Sha.cut ct (joinR old size L).1 = st then ((joinR old size L).1, none) else ([], some (L.length, 81))

set_option maxHeartbeats 8000000 in
set_option maxRecDepth 100000 in
theorem apply_calls (vo vl : Value) (old : List UInt8) (size ct : Int) (st : List UInt8) (fs : List TV) (w : World) (hst : st.length = 32) (ho : RdB w vo old) (hv : Rd fT w vl fs) (hes : ∀ e ∈ fs, RdB w e.dv e.xs) (hol : old.length ≤ 100000) (hn : fs.length ≤ 1000000) (hsz : size ≤ 9223372036854775807) (hxs : ∀ e ∈ fs, e.xs.length ≤ 100000000) (hF : ∀ e ∈ fs, e.c ≤ 9223372036854775807)
    (hc1 : -9223372036854775808 ≤ ct) (hc2 : ct ≤ 9223372036854775807) :
    Calls Tryd.prog 15 #[.agg (toC vl ct st), vo, .int .i64 size] w fun e w' => ∃ v ev, e = .returned (.tuple #[v, ev]) ∧ On w w' v (applyR old size (fs.map TV.tok) ct st).1 ∧ IsErr w' ev (applyR old size (fs.map TV.tok) ct st).2 := by
  obtain ⟨A, c, rfl, _⟩ := id hv
  obtain ⟨J, hJ⟩ : ∃ J, joinR old size (fs.map TV.tok) = J := ⟨_, rfl⟩
  have hjl : J.1.length ≤ 65536 := by rw [← hJ]; exact joinL_len _ _ _ (Nat.zero_le _)
  have hjc := fun W h1 h2 h3 => join_calls vo (.slice A fs.length c) old size fs W h1 h2 h3 hol hn hsz hxs hF
  rw [hJ] at hjc
  obtain ⟨R, hR⟩ : ∃ R, applyR old size (fs.map TV.tok) ct st = R := ⟨_, rfl⟩
  have HR : Aside0 (R = if J.2.1 ≠ 0 then ([], errJ J) else if Sha.cut ct J.1 = st then (J.1, none) else ([], some (fs.length, 81))) := ⟨by rw [← hR]; unfold applyR; rw [hJ, List.length_map]⟩
  rw [hR]
  have HV := Aside0.mk hv; have HO := Aside0.mk ho; have HES := Aside0.mk hes; have HJC := Aside0.mk hjc; have HST := Aside0.mk hst
  clear hv ho hes hjc hR hJ hxs hF hst
  go_enter Tryd.func15, Tryd.ntmps15
  go_upto_region 1 with fail
  have XS0 := heap_alloc_new w (.cells (toC (.slice A fs.length c) ct st) 40)
  have F1 : Aside0 (Fr No w (w.alloc (.cells (toC (.slice A fs.length c) ct st) 40))) := ⟨(Fr.refl _ _).alloc _⟩
  change Code.wp _ _ _ _ (w.alloc (.cells (toC (.slice A fs.length c) ct st) 40))
  generalize w.alloc (.cells (toC (.slice A fs.length c) ct st) 40) = w1 at XS0 F1 ⊢
  have XS := Aside0.mk XS0
  have c0 : w1.cell? ⟨w.heap.size, 0, Option.none⟩ = some (.slice A fs.length c) := by rw [blk_cell XS0]; exact toC_0 _ _ _
  clear XS0
  go_wp2_with fail
  refine (HJC.out w1 (HO.out.no F1.out) (HV.out.no F1.out) (fun e he => (HES.out e he).no F1.out)).mono ?_
  rintro e w2 ⟨v, ev, rfl, hN, hE, _⟩
  have F2 : Aside0 (Fr No w w2) := ⟨F1.out.none hN.fr⟩
  have HN := Aside0.mk (hN.back F1.out)
  have XS2 := Aside0.mk (hN.fr.heap XS.out id)
  by_cases hz : J.2.1 = 0
  · have he : errJ J = none := by unfold errJ; rw [if_pos hz]
    rw [he] at hE
    obtain rfl : ev = .nilIface := hE
    obtain ⟨Av, cv, rfl⟩ := hN.own.form
    have c1 : w2.cell? ⟨w.heap.size, 1, Option.none⟩ = some (.int .i64 ct) := by rw [blk_cell XS2.out]; exact toC_1 _ _ _
    have c0' : w2.cell? ⟨w.heap.size, 0, Option.none⟩ = some (.slice A fs.length c) := by rw [blk_cell XS2.out]; exact toC_0 _ _ _
    have LS := ld_told HST.out XS2.out
    have qe := fun W => Arr.run_neq Tryd.underlying38 W (Sha.cut ct J.1) st (Sha.cut_length _ _) HST.out
    unfold Arr.av at qe LS
    have qg := fun x y W => run_eqGuard_agg (P := Tryd.prog) W .neq 38 x y ((Sha.cut ct J.1).map vu8).toArray (st.map vu8).toArray (by kernel_rfl)
    obtain ⟨B, hB⟩ : ∃ B : Bool, (!decide (Sha.cut ct J.1 = st)) = B := ⟨_, rfl⟩
    simp only [hB] at qe
    have HB := Aside0.mk hB
    clear hN he c0 hB
    go_wp2_with fail
    refine Rg.start (fun _ x => Fr No w2 x) (by kernel_rfl) (by kernel_rfl) [3] [[2, 0, 1, 3]] (by kernel_rfl) (.q 0 0 (.q 1 0 (.q 2 0 (.q 4 1 (.q 5 1 (.e 3 1 (.q 6 1 (.done)))))))) (by kernel_rfl) ?_ ?_
    · exact fun _ => (Fr.refl _ _).drew
    repeat (first
      | (refine Rg.q (o := ?_) (v := ?_) ?_ ?_ ?_ ?_ ?_
         rotate_left 2
         · (simp only [List.getElem?_toArray, List.getElem?_cons_succ, List.getElem?_cons_zero]; rfl)
         · exact fun _ _ _ h => h
         · first | rfl | (go_simp; done)
         · (intro x_ hx; (try dsimp only at hx); first | (fail) | ((refine (ex_ld rfl rfl (LS _ hx)).trans ?_; with_reducible rfl)) | (have q1 := hx.cell c1 id; (try clear hx); go_simp; (try rw [if_neg (by omega)]); (try rw [if_pos (by omega)]); (try go_simp); try with_reducible rfl))
         try simp only [Act.put, List.setIfInBounds_toArray, List.set_cons_zero, List.set_cons_succ])
      | (refine Rg.skip (o := ?_) ?_ ?_ ?_ ?_
         rotate_left 1
         · (simp only [List.getElem?_toArray, List.getElem?_cons_succ, List.getElem?_cons_zero]; rfl)
         · exact fun _ _ _ h => h
         · first | rfl | (go_simp; done)
         try simp only [Act.put, List.setIfInBounds_toArray, List.set_cons_zero, List.set_cons_succ]))
    refine Rg.e (o := ?_) ?_ ?_
    rotate_left 1
    · (simp only [List.getElem?_toArray, List.getElem?_cons_succ, List.getElem?_cons_zero]; rfl)
    intro K hK
    go_simp
    refine (Sha.cut_calls ct (.slice Av J.1.length cv) J.1 _ (HN.out.own.rd.no (Fr.refl _ _).drew) (by omega) hc1 hc2).mono ?_
    rintro en x1 ⟨rfl, hf⟩
    have K1 : Aside0 (Fr No w2 x1) := ⟨((Fr.refl No w2).drew).none hf⟩
    clear hf
    unfold Arr.av
    go_simp
    refine hK.out _ _ (fun _ x => Fr No w2 x) (fun k x hk h => h) ?_ ?_
    · exact fun _ _ => K1.out
    try simp only [Act.put, List.setIfInBounds_toArray, List.set_cons_zero, List.set_cons_succ]
    repeat (first
      | (refine Rg.q (o := ?_) (v := ?_) ?_ ?_ ?_ ?_ ?_
         rotate_left 2
         · (simp only [List.getElem?_toArray, List.getElem?_cons_succ, List.getElem?_cons_zero]; rfl)
         · exact fun _ _ _ h => h
         · first | rfl | (go_simp; done)
         · (intro x_ hx; (try dsimp only at hx); first | (fail) | ((refine (ex_ld rfl rfl (LS _ hx)).trans ?_; with_reducible rfl)) | (have q1 := hx.cell c1 id; (try clear hx); go_simp; (try rw [if_neg (by omega)]); (try rw [if_pos (by omega)]); (try go_simp); try with_reducible rfl))
         try simp only [Act.put, List.setIfInBounds_toArray, List.set_cons_zero, List.set_cons_succ])
      | (refine Rg.skip (o := ?_) ?_ ?_ ?_ ?_
         rotate_left 1
         · (simp only [List.getElem?_toArray, List.getElem?_cons_succ, List.getElem?_cons_zero]; rfl)
         · exact fun _ _ _ h => h
         · first | rfl | (go_simp; done)
         try simp only [Act.put, List.setIfInBounds_toArray, List.set_cons_zero, List.set_cons_succ]))
    refine Rg.done ?_
    go_simp
    cases B with
    | true =>
      have hne : ¬ Sha.cut ct J.1 = st := by have := HB.out; simpa using this
      have HRE : Aside0 (R = ([], some (fs.length, 81))) := ⟨by rw [HR.out, if_neg (by simpa using hz), if_neg hne]⟩
      have c0'' := K1.out.cell c0' id
      clear qe qg LS c1 c0' hne
      go_wp2
      refine Rg.start (fun k x => k ≤ 0 → Fr No x1 x) (by kernel_rfl) (by kernel_rfl) [4] [[0, 1, 2, 3, 4]] (by kernel_rfl) (.q 0 0 (.q 1 0 (.q 2 0 (.q 3 0 (.q 6 1 (.e 4 1 (.q 5 1 (.q 7 1 (.done))))))))) (by kernel_rfl) ?_ ?_
      · exact fun _ _ => (Fr.refl _ _).drew
      repeat (first
        | (refine Rg.q (o := ?_) (v := ?_) ?_ ?_ ?_ ?_ ?_
           rotate_left 2
           · (simp only [List.getElem?_toArray, List.getElem?_cons_succ, List.getElem?_cons_zero]; rfl)
           · exact fun _ _ _ h => h
           · first | rfl | (go_simp; done)
           · (intro x_ hx; (try dsimp only at hx); (try (have q1 := (hx (by decide)).cell c0'' id)); go_simp; (try rw [if_neg (by omega)]); (try rw [if_pos (by omega)]); (try go_simp); try with_reducible rfl)
           try simp only [Act.put, List.setIfInBounds_toArray, List.set_cons_zero, List.set_cons_succ])
        | (refine Rg.skip (o := ?_) ?_ ?_ ?_ ?_
           rotate_left 1
           · (simp only [List.getElem?_toArray, List.getElem?_cons_succ, List.getElem?_cons_zero]; rfl)
           · exact fun _ _ _ h => h
           · first | rfl | (go_simp; done)
           try simp only [Act.put, List.setIfInBounds_toArray, List.set_cons_zero, List.set_cons_succ]))
      refine Rg.e (o := ?_) ?_ ?_
      rotate_left 1
      · (simp only [List.getElem?_toArray, List.getElem?_cons_succ, List.getElem?_cons_zero]; rfl)
      intro K hK
      go_simp
      have K2 : Aside0 (Fr No w (x1.alloc (.cells #[.int .i64 (fs.length : Int), .int .i64 81] 64))) := ⟨(F2.out.none K1.out).alloc _⟩
      have X2 : Aside0 ((x1.alloc (.cells #[.int .i64 (fs.length : Int), .int .i64 81] 64)).heap[x1.heap.size]? = some (.cells #[.int .i64 (fs.length : Int), .int .i64 81] 64 (0, 0))) := ⟨heap_alloc_new _ _⟩
      clear c0''
      refine hK.out _ _ (fun _ _ => True) (fun k x hk h => fun h2 => absurd (Nat.le_trans hk h2) (by decide)) ?_ ?_
      · exact fun _ _ => trivial
      try simp only [Act.put, List.setIfInBounds_toArray, List.set_cons_zero, List.set_cons_succ]
      repeat (first
        | (refine Rg.q (o := ?_) (v := ?_) ?_ ?_ ?_ ?_ ?_
           rotate_left 2
           · (simp only [List.getElem?_toArray, List.getElem?_cons_succ, List.getElem?_cons_zero]; rfl)
           · exact fun _ _ _ h => h
           · first | rfl | (go_simp; done)
           · (intro x_ hx; (try dsimp only at hx); (skip); go_simp; (try rw [if_neg (by omega)]); (try rw [if_pos (by omega)]); (try go_simp); try with_reducible rfl)
           try simp only [Act.put, List.setIfInBounds_toArray, List.set_cons_zero, List.set_cons_succ])
        | (refine Rg.skip (o := ?_) ?_ ?_ ?_ ?_
           rotate_left 1
           · (simp only [List.getElem?_toArray, List.getElem?_cons_succ, List.getElem?_cons_zero]; rfl)
           · exact fun _ _ _ h => h
           · first | rfl | (go_simp; done)
           try simp only [Act.put, List.setIfInBounds_toArray, List.set_cons_zero, List.set_cons_succ]))
      refine Rg.done ?_
      go_simp
      go_wp2
      (try simp only [Exit.inBlock, Exit.then]); refine bodyPost_ret (results_list (rs := [.tmp 6, .tmp 7]) rfl (by simp) (.tmp (.tmp .nil))) rfl ?_
      rw [HRE.out]
      exact ⟨_, _, rfl, On.nil K2.out.drew, ⟨x1.heap.size, rfl, X2.out⟩⟩
    | false =>
      have hee : Sha.cut ct J.1 = st := by have := HB.out; simpa using this
      have HRE : Aside0 (R = (J.1, none)) := ⟨by rw [HR.out, if_neg (by simpa using hz), if_pos hee]⟩
      clear qe qg LS c1 c0' hee
      go_wp2
      (try simp only [Exit.inBlock, Exit.then]); refine bodyPost_ret (results_list (rs := [.tmp 6, .tmp 7]) rfl (by simp) (.tmp (.tmp .nil))) rfl ?_
      rw [HRE.out]
      exact ⟨_, _, rfl, HN.out.no K1.out, rfl⟩
  · have HRE : Aside0 (R = ([], errJ J)) := ⟨by rw [HR.out, if_pos hz]⟩
    have he : errJ J = some (J.2.2, J.2.1.toNat) := by unfold errJ; rw [if_neg hz]
    rw [he] at hE HRE
    obtain ⟨b, rfl, hb⟩ := hE
    have HBK := Aside0.mk hb
    clear hN he hb c0
    go_wp2
    (try simp only [Exit.inBlock, Exit.then]); refine bodyPost_ret (results_list (rs := [.tmp 6, .tmp 7]) rfl (by simp) (.tmp (.tmp .nil))) rfl ?_
    rw [HRE.out]
    exact ⟨_, _, rfl, On.nil F2.out, ⟨b, rfl, HBK.out⟩⟩
end Go.Proofs.YtnfneokmiopieaaDoor.Pat
namespace Go.Proofs.YtnfneokmiopieaaDoor.Pat
open Go.RowKit Go.IntWalk Go.Proofs.YtnfneokmiopieaaDoorW.PrintWords Go.Proofs.YtnfneokmiopieaaDoor.B Go.Proofs.YtnfneokmiopieaaDoor.PB Go.Proofs.YtnfneokmiopieaaDoor.STell Go.Proofs.YtnfneokmiopieaaDoor.SJoin Go.Proofs.YtnfneokmiopieaaDoor.Tk Go.Proofs.YtnfneokmiopieaaDoor.Blk Go.Proofs.YtnfneokmiopieaaDoor.SBlk Go.Proofs.YtnfneokmiopieaaDoor.Bk Go.Proofs.YtnfneokmiopieaaDoor.L6 Go.Proofs.YtnfneokmiopieaaDoor.L7

theorem name_alloc {P : Program} {C : Code} {Q : Exit → Act → World → Prop} {a : Act} {W : World} {o : Obj} (h : ∀ w2 : World, w2.heap[W.heap.size]? = some o → Fr No W w2 → Code.wp P C Q a w2) : Code.wp P C Q a (W.alloc o) := h _ (heap_alloc_new W o) ((Fr.refl _ _).alloc _)

set_option maxHeartbeats 8000000 in
set_option maxRecDepth 100000 in
theorem tell_calls (size cut len : Int) (sl vd : Value) (bs : List BK) (d : List UInt8) (ct : Int) (w : World) (hv : Rd (fBk .u32) w sl bs) (hd : RdB w vd d) (hl : d.length ≤ 8192) (hsz : size ≤ 9223372036854775807) (hln : len ≤ 9223372036854775807) (hE : chkE size cut len bs = 0) (hc1 : -9223372036854775808 ≤ ct) (hc2 : ct ≤ 9223372036854775807) :
    Calls Tryd.prog 18 #[.agg (sgC size cut len sl), vd, .int .i64 ct] w fun e w' => ∃ vo, e = .returned (.tuple #[.agg (toC vo ct (Sha.cut ct d)), .int .i64 0]) ∧ Tl w' w.heap.size vo (tellR size cut len bs d) ∧ Fr No w w' := by
  obtain ⟨A, c, rfl, _⟩ := id hv
  obtain ⟨A', c', rfl, _⟩ := id hd
  have hdm := fun W h1 h2 => dmake_calls size cut len (.slice A bs.length c) (.slice A' d.length c') bs d W h1 h2 hl hsz hln
  obtain ⟨X, hX⟩ : ∃ X, tellR size cut len bs d = X := ⟨_, rfl⟩
  simp only [hX, hE] at hdm
  rw [hX]
  have HV := Aside0.mk hv; have HD := Aside0.mk hd; have HDM := Aside0.mk hdm
  clear hv hd hdm hE hX
  go_enter Tryd.func18, Tryd.ntmps18
  go_upto_region 1 with fail
  refine name_alloc (fun w2 h2 f2 => ?_)
  have hb := f2.heap (heap_alloc_new w (.cells (sgC size cut len (.slice A bs.length c)) 46)) id
  have F2 : Aside0 (Fr No w w2) := ⟨((Fr.refl _ _).alloc _).none f2⟩
  have hs1 : (w.alloc (.cells (sgC size cut len (.slice A bs.length c)) 46)).heap.size = w.heap.size + 1 := by simp
  rw [hs1] at h2
  have HT0 : Aside0 (∃ cs0 : Array Value, w2.heap[w.heap.size + 1]? = some (.cells cs0 40 (0, 0)) ∧ cs0.size = 34) := ⟨_, h2, rfl⟩
  have HLT : Aside0 (w.heap.size + 1 < w2.heap.size) := ⟨blk_lt h2⟩
  clear h2 f2 hs1
  have LD := ld_all (P := Tryd.prog) (ty := 46) hb Tryd.underlying46 rfl (by kernel_rfl)
  clear hb
  have hl6 : ¬ (65536 : Int) < (d.length : Int) := by omega
  go_wp2_with (first
    | (refine ldG (.tmp 3) 46 _ _ rfl rfl (LD _ (Fr.refl _ _)) (by first | rfl | (go_simp; done)) ?_)
    | fail)
  refine (HDM.out w2 (HV.out.no F2.out) (HD.out.no F2.out)).mono ?_
  rintro e w3 ⟨vo, rfl, hT, hf⟩
  obtain ⟨Ao, co, rfl⟩ := hT.form
  have F3 : Aside0 (Fr No w w3) := ⟨F2.out.none hf⟩
  have HT := Aside0.mk hT
  have HT3 : Aside0 (∃ cs0 : Array Value, w3.heap[w.heap.size + 1]? = some (.cells cs0 40 (0, 0)) ∧ cs0.size = 34) := ⟨by
    obtain ⟨cs0, h1, h2⟩ := HT0.out
    exact ⟨cs0, hf.heap h1 id, h2⟩⟩
  clear hf hT LD hl6
  go_wp2_with fail
  refine (Sha.cut_calls ct (.slice A' d.length c') d w3 (HD.out.no F3.out) (by omega) hc1 hc2).mono ?_
  rintro e w4 ⟨rfl, hf⟩
  have F4 : Aside0 (Fr No w w4) := ⟨F3.out.none hf⟩
  have HT4 := Aside0.mk (HT.out.no hf)
  obtain ⟨cs0, h1, h2⟩ := HT3.out
  have X4 := Aside0.mk (hf.heap h1 id)
  have hsl := Sha.cut_length ct d
  obtain ⟨S, hS⟩ : ∃ S, Sha.cut ct d = S := ⟨_, rfl⟩
  have HSS := Aside0.mk hS
  rw [hS] at hsl ⊢
  have HSL := Aside0.mk hsl
  clear hf h1 hS hsl
  go_wp2_with (first
    | (refine lsX rfl (ex_build (buildT (A := Ao) (n := X.length) (c := co) ct HSL.out w4) rfl (by kernel_rfl)) ?_)
    | (refine PB.stRow (.tmp 6) (.tmp 29) 40 (w.heap.size + 1) 40 cs0 (toC (.slice Ao X.length co) ct S) rfl rfl rfl rfl X4.out (by rw [toC_size HSL.out]; kernel_rfl) (by rw [toC_size HSL.out]; exact h2) toC_one ?_))
  (try simp only [Exit.inBlock, Exit.then]); refine bodyPost_ret (results_list (rs := [.cell 6 40, .tmp 7]) rfl (by simp) (.cell (w.heap.size + 1) 40 (toC (.slice Ao X.length co) ct S) (0, 0) _ rfl (setRow_heap _ _ _ _ _ _ X4.out) Tryd.underlying40 rfl (by rw [toC_size HSL.out]; kernel_rfl) (.tmp .nil))) rfl ?_
  refine ⟨.slice Ao X.length co, by rw [HSS.out]; rfl, (HT4.out.fr (fr_one_row w4 (w.heap.size + 1) _) (fun q hq e => by have e' : q = w.heap.size + 1 := e; have := HLT.out; omega)).down F2.out.size, fr_setRow F4.out (.inr (by omega)) _⟩
end Go.Proofs.YtnfneokmiopieaaDoor.Pat
namespace Go.Proofs.YtnfneokmiopieaaDoor.Pat
open Go.RowKit Go.IntWalk Go.Proofs.YtnfneokmiopieaaDoorW.PrintWords Go.Proofs.YtnfneokmiopieaaDoor.B Go.Proofs.YtnfneokmiopieaaDoor.PB Go.Proofs.YtnfneokmiopieaaDoor.STell Go.Proofs.YtnfneokmiopieaaDoor.SJoin Go.Proofs.YtnfneokmiopieaaDoor.Tk Go.Proofs.YtnfneokmiopieaaDoor.Blk Go.Proofs.YtnfneokmiopieaaDoor.SBlk Go.Proofs.YtnfneokmiopieaaDoor.Bk Go.Proofs.YtnfneokmiopieaaDoor.L6 Go.Proofs.YtnfneokmiopieaaDoor.L7

/-- What is sent: tokens, what they make. -/
def sendL (old d : List UInt8) (s : Nat) (cut : Int) : List Tok := tell s (fB s old.length cut (blocks s cut old (cnt old.length s))) d []
def sendA (old d : List UInt8) (s : Nat) (cut whole : Int) : List UInt8 × Option (Nat × Nat) := applyR old s (sendL old d s cut) whole (Sha.cut whole d)

set_option maxHeartbeats 8000000 in
set_option maxRecDepth 100000 in
theorem send_bad (vo vd : Value) (old d : List UInt8) (size cut whole : Int) (w : World) (ho : RdB w vo old) (hd : RdB w vd d) (hsz : size ≤ 9223372036854775807) (hE : makeE old.length size cut ≠ 0) :
    Calls Tryd.prog 21 #[vo, vd, .int .i64 size, .int .i64 cut, .int .i64 whole] w fun e w' => e = .returned (.tuple #[.slice none 0 0, .bool false, .int .i64 (makeE old.length size cut)]) ∧ Fr No w w' := by
  obtain ⟨A, c, rfl, _⟩ := id ho
  obtain ⟨A', c', rfl, _⟩ := id hd
  have hE0 : (makeE old.length size cut == 0) = false := by rw [beq_eq_false_iff_ne]; exact hE
  have hmb := fun W h => make_bad (.slice A old.length c) old size cut W h hsz hE
  obtain ⟨E, hEE⟩ : ∃ E, makeE old.length size cut = E := ⟨_, rfl⟩
  rw [hEE] at hE0 ⊢
  simp only [hEE] at hmb
  have HO := Aside0.mk ho; have HMB := Aside0.mk hmb
  clear ho hd hmb hE hEE
  go_enter Tryd.func21, Tryd.ntmps21
  go_wp2_with fail
  refine (HMB.out w HO.out).mono ?_
  rintro e w2 ⟨rfl, hf⟩
  have F2 : Aside0 (Fr No w w2) := ⟨hf⟩
  clear hf
  go_wp2
  (try simp only [Exit.inBlock, Exit.then]); refine bodyPost_ret (results_list (rs := [.tmp 10, .tmp 11, .tmp 12]) rfl (by simp) (.tmp (.tmp (.tmp .nil)))) rfl ?_
  exact ⟨rfl, F2.out.alloc _⟩

set_option maxHeartbeats 8000000 in
set_option maxRecDepth 100000 in
theorem send_ok (vo vd : Value) (old d : List UInt8) (s : Nat) (cut whole : Int) (w : World) (ho : RdB w vo old) (hd : RdB w vd d) (hol : old.length ≤ 8000) (hdl : d.length ≤ 8000) (hs1 : 1 ≤ s) (hs2 : s ≤ 4096) (hE : makeE old.length s cut = 0) (hc1 : -9223372036854775808 ≤ whole) (hc2 : whole ≤ 9223372036854775807) :
    Calls Tryd.prog 21 #[vo, vd, .int .i64 (s : Int), .int .i64 cut, .int .i64 whole] w fun e w' => ∃ v, e = .returned (.tuple #[v, .bool (sendA old d s cut whole).2.isSome, .int .i64 0]) ∧ On w w' v (if (sendA old d s cut whole).2.isSome then d else (sendA old d s cut whole).1) := by
  obtain ⟨A0, c0, rfl, _⟩ := id ho
  obtain ⟨A', c', rfl, _⟩ := id hd
  have hmk := fun W h => make_ok (.slice A0 old.length c0) old s cut W h (by omega) (by omega) hE
  have hbl := blocks_length s cut old (cnt old.length s)
  have hcl := cnt_le old.length s (by omega)
  have htr := tellR_made hE d
  have hck := chk_made hE
  have hgd := good_made (b := old) (cut := cut) hs1 d
  have hup := upto_tell (s := s) (by omega) (fB s old.length cut (blocks s cut old (cnt old.length s))) d [] 0 (fun t ht => by cases ht)
  have hln := tell_length (s := s) (by omega) (fB s old.length cut (blocks s cut old (cnt old.length s))) d []
  rw [Int.toNat_natCast] at hck
  simp only [Int.toNat_natCast] at hmk
  obtain ⟨R, hR⟩ : ∃ R, sendA old d s cut whole = R := ⟨_, rfl⟩
  rw [hR]
  unfold sendA sendL at hR
  obtain ⟨bs, hbs⟩ : ∃ bs, blocks s cut old (cnt old.length s) = bs := ⟨_, rfl⟩
  simp only [hbs] at hmk hbl htr hck hgd hup hln hR
  obtain ⟨L, hL⟩ : ∃ L, tell s (fB s old.length cut bs) d [] = L := ⟨_, rfl⟩
  rw [hL] at htr hgd hup hln hR
  rw [List.length_nil, Nat.zero_add] at hln
  rw [Nat.zero_add] at hup
  have hbb : bs.length ≤ 8000 := by omega
  have HO := Aside0.mk ho; have HD := Aside0.mk hd; have HMK := Aside0.mk hmk; have HTR := Aside0.mk htr; have HCK := Aside0.mk hck; have HGD := Aside0.mk hgd; have HUP := Aside0.mk hup; have HLN := Aside0.mk hln; have HR := Aside0.mk hR
  clear ho hd hmk htr hck hgd hup hln hR hL hbs hE hbl hcl
  go_enter Tryd.func21, Tryd.ntmps21
  go_wp2_with fail
  refine (HMK.out w HO.out).mono ?_
  rintro e w1 ⟨sl, rfl, hS, hf⟩
  have F1 : Aside0 (Fr No w w1) := ⟨hf⟩
  obtain ⟨A, c, rfl⟩ := hS.1.form
  have HS := Aside0.mk hS
  clear hf hS
  go_upto_region 2 with fail
  refine name_alloc (fun w2 h2 f2 => ?_)
  have XS := Aside0.mk h2
  have F2 : Aside0 (Fr No w w2) := ⟨F1.out.none f2⟩
  have HV : Aside0 (Rd (fBk .u32) w2 (.slice A bs.length c) bs) := ⟨HS.out.1.rd.no f2⟩
  clear h2 f2 HS
  obtain ⟨g, hg⟩ : ∃ g, w1.heap.size = g := ⟨_, rfl⟩
  rw [hg] at XS ⊢
  clear hg
  have LD := ld_all (P := Tryd.prog) (ty := 46) XS.out Tryd.underlying46 rfl (by kernel_rfl)
  go_wp2_with (first
    | (refine ldG (.tmp 13) 46 _ _ rfl rfl (LD _ (Fr.refl _ _)) (by first | rfl | (go_simp; done)) ?_)
    | fail)
  refine (tell_calls s cut old.length (.slice A bs.length c) (.slice A' d.length c') bs d whole w2 HV.out (HD.out.no F2.out) (by omega) (by omega) (by omega) HCK.out hc1 hc2).mono ?_
  rw [HTR.out]
  rintro e w3 ⟨vt, rfl, hT, hf⟩
  obtain ⟨At, ct, rfl⟩ := hT.form
  obtain ⟨fs, hT, hfs⟩ := hT
  have F3 : Aside0 (Fr No w w3) := ⟨F2.out.none hf⟩
  have hfl : fs.length ≤ 8000 := by have := HLN.out; rw [← hfs, List.length_map] at this; omega
  have hll : L.length = fs.length := by rw [← hfs, List.length_map]
  rw [hll] at hT ⊢
  have HT := Aside0.mk hT; have HFS := Aside0.mk hfs
  have hsl := Sha.cut_length whole d
  obtain ⟨S, hSS⟩ : ∃ S, Sha.cut whole d = S := ⟨_, rfl⟩
  rw [hSS] at hsl HR ⊢
  have HSL := Aside0.mk hsl
  clear hf hT hfs LD hll hSS hsl
  go_upto_region 5 with (refine PB.stRow (.tmp 15) (.tmp 33) 40 w3.heap.size 40 _ (toC (.slice At fs.length ct) whole S) rfl rfl rfl rfl (heap_alloc_new w3 _) (by rw [toC_size HSL.out]; kernel_rfl) (by rw [toC_size HSL.out]; rfl) toC_one ?_; rw [World.setRow_alloc_new])
  refine name_alloc (fun w4 h4 f4 => ?_)
  have X4 := Aside0.mk h4
  have F4 : Aside0 (Fr No w3 w4) := ⟨f4⟩
  clear h4 f4
  have LT := ld_all (P := Tryd.prog) (ty := 40) X4.out Tryd.underlying40 rfl (by rw [toC_size HSL.out]; kernel_rfl)
  go_wp2_with (first
    | (refine ldG (.tmp 15) 40 _ _ rfl rfl (LT _ (Fr.refl _ _)) (by first | rfl | (go_simp; done)) ?_)
    | fail)
  have HT4 := HT.out.no F4.out
  have hap := apply_calls (.slice A0 old.length c0) (.slice At fs.length ct) old s whole S fs w4 HSL.out (HO.out.no (F3.out.none F4.out)) HT4.row.rd (fun e he => (HT4.own e he).1.rd) (by omega) (by omega) (by omega) (fun e he => by
    have := HUP.out e.tok (by rw [← HFS.out]; exact List.mem_map_of_mem he)
    have e9 : e.tok.2.2 = e.xs := rfl
    rw [e9] at this; omega) (fun e he => by
    have h8 := HGD.out.ok e.tok (by rw [← HFS.out]; exact List.mem_map_of_mem he)
    have e9 : e.tok.2.1 = e.c := rfl
    have h1 := h8.c0; have h2 := h8.f0
    rcases (by omega : e.tok.2.1 = 0 ∨ 0 < e.tok.2.1) with h3 | h3
    · rw [← e9]; omega
    · have := (h8.blk h3).2; have := cnt_le old.length s (by omega); rw [← e9]; omega) hc1 hc2
  rw [HFS.out, HR.out] at hap
  refine hap.mono ?_
  rintro e w5 ⟨v, ev, rfl, hN, hER⟩
  have F5 : Aside0 (Fr No w w5) := ⟨(F3.out.none F4.out).none hN.fr⟩
  have HN : Aside0 (On w w5 v R.1) := ⟨hN.back (F3.out.none F4.out)⟩
  clear hap LT
  obtain ⟨R1, R2⟩ := R
  cases R2 with
  | none =>
    obtain rfl : ev = .nilIface := hER
    obtain ⟨Av, cv, rfl⟩ := hN.own.form
    clear hN
    go_wp2
    (try simp only [Exit.inBlock, Exit.then]); refine bodyPost_ret (results_list (rs := [.tmp 10, .tmp 11, .tmp 12]) rfl (by simp) (.tmp (.tmp (.tmp .nil)))) rfl ?_
    exact ⟨_, rfl, HN.out⟩
  | some q =>
    obtain ⟨qa, qc⟩ := q
    obtain ⟨b, rfl, _⟩ := hER
    clear hN
    go_wp2_with fail
    refine (clone_calls (.slice A' d.length c') d w5 (HD.out.no F5.out) (by omega)).mono ?_
    rintro e w6 ⟨dv, rfl, hN6⟩
    have HN6 : Aside0 (On w w6 dv d) := ⟨hN6.back F5.out⟩
    clear hN6
    go_wp2
    (try simp only [Exit.inBlock, Exit.then]); refine bodyPost_ret (results_list (rs := [.tmp 10, .tmp 11, .tmp 12]) rfl (by simp) (.tmp (.tmp (.tmp .nil)))) rfl ?_
    exact ⟨_, rfl, HN6.out⟩
end Go.Proofs.YtnfneokmiopieaaDoor.Pat
namespace Go.Proofs.YtnfneokmiopieaaDoor.Pat
open Go.RowKit Go.IntWalk Go.Proofs.YtnfneokmiopieaaDoorW.PrintWords Go.Proofs.YtnfneokmiopieaaDoor.B Go.Proofs.YtnfneokmiopieaaDoor.PB Go.Proofs.YtnfneokmiopieaaDoor.STell Go.Proofs.YtnfneokmiopieaaDoor.SJoin Go.Proofs.YtnfneokmiopieaaDoor.Tk Go.Proofs.YtnfneokmiopieaaDoor.Blk Go.Proofs.YtnfneokmiopieaaDoor.SBlk Go.Proofs.YtnfneokmiopieaaDoor.Bk Go.Proofs.YtnfneokmiopieaaDoor.L6 Go.Proofs.YtnfneokmiopieaaDoor.L7

theorem send4A : sendA d4 [120, 99, 100] 2 32 32 = ([120, 99, 100], none) := by
  have h1 : sendL d4 [120, 99, 100] 2 32 = [(0, 0, [120]), (1, 1, [])] := by
    have h2 := tellR_made (b := d4) (s := 2) (cut := 32) (by decide) [120, 99, 100]
    have h3 := tell4
    unfold sendL
    rw [← h2]
    exact h3
  have h4 : joinR d4 ((2 : Nat) : Int) [(0, 0, [120]), (1, 1, [])] = ([120, 99, 100], 0, 0) := by decide
  unfold sendA applyR
  rw [h1]
  rw [h4, if_neg (by simp), if_pos rfl]
theorem send4 (vo vd : Value) (w : World) (ho : RdB w vo d4) (hd : RdB w vd [120, 99, 100]) :
    Calls Tryd.prog 21 #[vo, vd, .int .i64 2, .int .i64 32, .int .i64 32] w fun e w' => ∃ A c, e = .returned (.tuple #[.slice A 3 c, .bool false, .int .i64 0]) ∧ On w w' (.slice A 3 c) [120, 99, 100] := by
  have h := send_ok vo vd d4 [120, 99, 100] 2 32 32 w ho hd (by decide) (by decide) (by decide) (by decide) (by decide) (by decide) (by decide)
  rw [send4A] at h
  refine h.mono ?_
  rintro e w' ⟨v, rfl, hN⟩
  obtain ⟨A, c, rfl⟩ := hN.own.form
  exact ⟨A, c, rfl, hN⟩
set_option maxHeartbeats 4000000 in
set_option maxRecDepth 100000 in
theorem sends_calls (w : World) : Calls Tryd.prog 8 #[] w fun e w' => e = .returned (.bool true) ∧ Fr No w w' := by
  have h1 := fun W : World => Lib.run_convert_bytes_const (P := Tryd.prog) W 22 5 #[.int .u8 97, .int .u8 98, .int .u8 99, .int .u8 100] 4 4 Tryd.underlying22 Tryd.underlying5
  have h2 := fun W : World => Lib.run_convert_bytes_const (P := Tryd.prog) W 22 5 #[.int .u8 120, .int .u8 99, .int .u8 100] 3 3 Tryd.underlying22 Tryd.underlying5
  have hsz : (w.alloc (.cells #[.int .u8 97, .int .u8 98, .int .u8 99, .int .u8 100] 5 (4, 5))).heap.size = w.heap.size + 1 := by simp
  have h3 := h2 (w.alloc (.cells #[.int .u8 97, .int .u8 98, .int .u8 99, .int .u8 100] 5 (4, 5)))
  rw [hsz] at h3
  have RX : Aside0 (RdB ((w.alloc (.cells #[.int .u8 97, .int .u8 98, .int .u8 99, .int .u8 100] 5 (4, 5))).alloc (.cells #[.int .u8 120, .int .u8 99, .int .u8 100] 5 (3, 4))) (.slice (some ⟨w.heap.size + 1, 0, none⟩) 3 3) [120, 99, 100]) := ⟨by
    have h9 := rdB_lit (w.alloc (.cells #[.int .u8 97, .int .u8 98, .int .u8 99, .int .u8 100] 5 (4, 5))) [120, 99, 100] 5 (3, 4) (by decide)
    rw [hsz] at h9
    exact h9⟩
  have RY : Aside0 (RdB ((w.alloc (.cells #[.int .u8 97, .int .u8 98, .int .u8 99, .int .u8 100] 5 (4, 5))).alloc (.cells #[.int .u8 120, .int .u8 99, .int .u8 100] 5 (3, 4))) (.slice (some ⟨w.heap.size, 0, none⟩) 4 4) d4) := ⟨(rdB_lit w d4 5 (4, 5) (by decide)).no ((Fr.refl _ _).alloc _)⟩
  have FZ : Aside0 (Fr No w ((w.alloc (.cells #[.int .u8 97, .int .u8 98, .int .u8 99, .int .u8 100] 5 (4, 5))).alloc (.cells #[.int .u8 120, .int .u8 99, .int .u8 100] 5 (3, 4)))) := ⟨((Fr.refl _ _).alloc _).alloc _⟩
  clear hsz h2
  go_enter Tryd.func8, Tryd.ntmps8
  go_wp2_with fail
  refine (send4 _ _ _ RY.out RX.out).mono ?_
  rintro e w1 ⟨A, c, rfl, hN⟩
  have F1 : Aside0 (Fr No w w1) := ⟨FZ.out.none hN.fr⟩
  have q1 : (convert 22 9 (.slice A 3 c)).run Tryd.prog w1 = .ok (.string ⟨#[120, 99, 100]⟩) w1 := str_of_rd hN.own.rd
  clear hN h1 h3
  go_wp2_with fail
  go_ret
  exact ⟨rfl, F1.out⟩
end Go.Proofs.YtnfneokmiopieaaDoor.Pat
