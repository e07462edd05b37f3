/- The walk of the law PatchJoins. -/
import Derived.Test.YtnfneokmiopieaaDoorPatS
import Derived.Test.YtnfneokmiopieaaDoorLiftT
import Derived.Test.YtnfneokmiopieaaDoorErrW
set_option linter.unusedVariables false
set_option linter.unusedSimpArgs false
namespace Go.Proofs.YtnfneokmiopieaaDoor.LPatchJoins
open Go.RowKit Go.IntWalk Go.Proofs.YtnfneokmiopieaaDoorW.PrintWords Go.Proofs.YtnfneokmiopieaaDoor.B Go.Proofs.YtnfneokmiopieaaDoor.PB Go.Proofs.YtnfneokmiopieaaDoor.Err Go.Proofs.YtnfneokmiopieaaDoor.STell Go.Proofs.YtnfneokmiopieaaDoor.SJoin Go.Proofs.YtnfneokmiopieaaDoor.Tk Go.Proofs.YtnfneokmiopieaaDoor.Pat Go.Proofs.YtnfneokmiopieaaDoor.Blk

theorem joinL_code {old : List UInt8} {size : Int} : ∀ (L : List Tok) (i : Nat) (out : List UInt8), 0 ≤ (joinL old size i out L).2.1
  | [], _, out => Int.le_refl _
  | t :: L, i, out => by
    rw [joinL]
    split
    · exact joinL_code L _ _
    · show 0 ≤ (stepJ old size out t).1
      unfold stepJ
      repeat' split
      all_goals first | decide | exact Int.le_refl _
/-- Whether this is tried: what is known then. -/
def FitsR (old : List UInt8) (fs : List TV) (e : Ending) : Prop := ∃ B : Bool, e = .returned (.bool B) ∧ (B = true → old.length ≤ 200 ∧ fs.length ≤ 30 ∧ ∀ e ∈ fs, e.xs.length ≤ 70000 ∧ e.c ≤ 300)
set_option maxHeartbeats 8000000 in
set_option maxRecDepth 100000 in
theorem fits_calls (vo vl : Value) (old : List UInt8) (size : Int) (fs : List TV) (w : World) (ho : RdB w vo old) (hv : Rd fT w vl fs) (hok : ∀ e ∈ fs, e.ok w) :
    Calls Tryd.prog 9 #[vo, .int .i64 size, vl] w fun e w' => FitsR old fs e ∧ Fr No w w' := by
  obtain ⟨A0, c0, rfl, _⟩ := id ho
  obtain ⟨A, c, rfl, _⟩ := id hv
  have HV := Aside0.mk hv; have HOK := Aside0.mk hok
  clear ho hv hok
  rcases (by omega : (200 : Int) < (old.length : Int) ∨ (¬ (200 : Int) < (old.length : Int) ∧ (30 : Int) < (fs.length : Int)) ∨ (¬ (200 : Int) < (old.length : Int) ∧ ¬ (30 : Int) < (fs.length : Int))) with h1 | ⟨h1, h2⟩ | ⟨h1, h2⟩
  · go_enter Tryd.func9, Tryd.ntmps9
    go_wp2
    go_ret
    exact ⟨⟨false, rfl, fun h => by cases h⟩, Fr.refl _ _⟩
  · go_enter Tryd.func9, Tryd.ntmps9
    go_wp2
    go_ret
    exact ⟨⟨false, rfl, fun h => by cases h⟩, Fr.refl _ _⟩
  · have HO : Aside0 (old.length ≤ 200 ∧ fs.length ≤ 30) := ⟨by omega, by omega⟩
    go_enter Tryd.func9, Tryd.ntmps9
    go_wp2_with fail
    go_loopw [7, 20] (fun v7 v20 wr => ∃ i n : Nat, v20 = .int .i64 (i : Int) ∧ v7 = .int .i64 (n : Int) ∧ i ≤ fs.length ∧ n ≤ 140000 ∧ Aside0 (∀ (j : Nat) (e : TV), j < i → fs[j]? = some e → e.xs.length ≤ 70000 ∧ e.c ≤ 300) ∧ Aside0 (Fr No w wr)) (fun _ v20 _ => fs.length - (intOf v20).toNat)
    case atStart => exact ⟨0, 0, rfl, rfl, Nat.zero_le _, Nat.zero_le _, ⟨fun j e hj => absurd hj (by omega)⟩, ⟨Fr.refl _ _⟩⟩
    case round =>
      obtain ⟨i, n, rfl, rfl, hi, hn, HX, HF⟩ := hrel
      by_cases hil : i < fs.length
      · have hiI : (i : Int) < (fs.length : Int) := by omega
        obtain ⟨e, he⟩ : ∃ e, fs[i]? = some e := ⟨_, List.getElem?_eq_getElem hil⟩
        have hxl := (HOK.out e (List.mem_of_getElem? he)).2
        obtain ⟨ad, hA, hcv⟩ := rd_elem (HV.out.no HF.out) i e he
        have HNX : Aside0 (e.xs.length ≤ 70000 → e.c ≤ 300 → ∀ (j : Nat) (e' : TV), j < i + 1 → fs[j]? = some e' → e'.xs.length ≤ 70000 ∧ e'.c ≤ 300) := ⟨fun h5 h6 j e' hj hj' => by
          rcases Nat.lt_or_ge j i with h9 | h9
          · exact HX.out j e' h9 hj'
          · obtain rfl : j = i := by omega
            rw [he] at hj'
            injection hj' with hj'
            rw [← hj']
            exact ⟨h5, h6⟩⟩
        obtain ⟨F, C, Ax, px, xs⟩ := e
        dsimp only at hxl HNX
        unfold reach at hxl
        obtain rfl := hA
        have k0 : wr.cell? (ad.add (i * 3)) = some (.int .i64 F) := by have := hcv 0 _ rfl; rw [add_add, Nat.add_zero] at this; exact this
        have k1 : wr.cell? { block := (ad.add (i * 3)).block, off := (ad.add (i * 3)).off + 1 } = some (.int .i64 C) := hcv 1 _ rfl
        have k2 : wr.cell? { block := (ad.add (i * 3)).block, off := (ad.add (i * 3)).off + 2 } = some (.slice Ax xs.length px) := hcv 2 _ rfl
        clear hcv he
        go_upto_region 7 with fail
        have XB0 := heap_alloc_new wr (.cells #[.int .i64 F, .int .i64 C, .slice Ax xs.length px] 52)
        have HFX : Aside0 (Fr No w (wr.alloc (.cells #[.int .i64 F, .int .i64 C, .slice Ax xs.length px] 52))) := ⟨HF.out.alloc _⟩
        change Code.wp _ _ _ _ (wr.alloc (.cells #[.int .i64 F, .int .i64 C, .slice Ax xs.length px] 52))
        generalize wr.alloc (.cells #[.int .i64 F, .int .i64 C, .slice Ax xs.length px] 52) = wx at XB0 HFX ⊢
        have d2 : wx.cell? ⟨wr.heap.size, 2, Option.none⟩ = some (.slice Ax xs.length px) := by rw [blk_cell XB0]; rfl
        have d1 : wx.cell? ⟨wr.heap.size, 1, Option.none⟩ = some (.int .i64 C) := by rw [blk_cell XB0]; rfl
        have hwn : IntKind.i64.wrap ((n : Int) + (xs.length : Int)) = (n : Int) + (xs.length : Int) := by rw [i64_left]; exact wrap64_in _ (by omega)
        clear XB0 k0 k1 k2 hxl
        rcases (by omega : (70000 : Int) < (xs.length : Int) ∨ (¬ (70000 : Int) < (xs.length : Int) ∧ (140000 : Int) < (n : Int) + (xs.length : Int)) ∨ (¬ (70000 : Int) < (xs.length : Int) ∧ ¬ (140000 : Int) < (n : Int) + (xs.length : Int) ∧ 300 < C) ∨ (¬ (70000 : Int) < (xs.length : Int) ∧ ¬ (140000 : Int) < (n : Int) + (xs.length : Int) ∧ ¬ 300 < C)) with h3 | ⟨h3, h4⟩ | ⟨h3, h4, h5⟩ | ⟨h3, h4, h5⟩
        · go_wp2
          go_ret
          exact ⟨⟨false, rfl, fun h => by cases h⟩, HFX.out⟩
        · go_wp2
          go_ret
          exact ⟨⟨false, rfl, fun h => by cases h⟩, HFX.out⟩
        · go_wp2
          go_ret
          exact ⟨⟨false, rfl, fun h => by cases h⟩, HFX.out⟩
        · go_wp2
          go_roundw
          case rel => exact ⟨i + 1, n + xs.length, by go_num, by go_num, by omega, by omega, ⟨HNX.out (by omega) (by omega)⟩, HFX⟩
          case measure => simp [intOf]; omega
      · have hiI : ¬ (i : Int) < (fs.length : Int) := by omega
        have HALL : Aside0 (∀ e ∈ fs, e.xs.length ≤ 70000 ∧ e.c ≤ 300) := ⟨fun e he => by
          obtain ⟨j, hj⟩ := List.getElem?_of_mem he
          have := (List.getElem?_eq_some_iff.1 hj).1
          exact HX.out j e (by omega) hj⟩
        go_wp2
        go_ret
        exact ⟨⟨true, rfl, fun _ => ⟨HO.out.1, HO.out.2, HALL.out⟩⟩, HF.out⟩

set_option maxHeartbeats 8000000 in
set_option maxRecDepth 100000 in
theorem walk (vb : Value) (b : List UInt8) (size : Int) (vl : Value) (fs : List TV) (w : World) (hg : Gl w) (hb : RdB w vb b ∧ b.length ≤ reach) (hs : (Lit.int .i64 size).wf = true) (hl : Rd fT w vl fs ∧ (∀ e ∈ fs, e.ok w) ∧ fs.length * 40 ≤ reach) : Calls Tryd.prog 3 #[vb, .int .i64 size, vl] w fun e w' => e = .returned (.bool true) ∧ Fr No w w' := by
  obtain ⟨hv, hok, _⟩ := hl
  obtain ⟨hbr, _⟩ := hb
  have hsz := (bounds_i64 hs).2
  obtain ⟨A0, c0, rfl, _⟩ := id hbr
  obtain ⟨A, c, rfl, _⟩ := id hv
  have HB := Aside0.mk hbr; have HV := Aside0.mk hv; have HOK := Aside0.mk hok; have HG := Aside0.mk hg
  clear hbr hv hok hg
  go_enter Tryd.func3, Tryd.ntmps3
  go_wp2_with fail
  refine (sends_calls w).mono ?_
  rintro e w1 ⟨rfl, hf⟩
  have F1 : Aside0 (Fr No w w1) := ⟨hf⟩
  clear hf
  go_wp2_with fail
  refine (fits_calls (.slice A0 b.length c0) (.slice A fs.length c) b size fs w1 (HB.out.no F1.out) (HV.out.no F1.out) (fun e he => ⟨(HOK.out e he).1.no F1.out, (HOK.out e he).2⟩)).mono ?_
  rintro e w2 ⟨⟨B, rfl, hB⟩, hf⟩
  have F2 : Aside0 (Fr No w w2) := ⟨F1.out.none hf⟩
  clear hf
  cases B with
  | false =>
    clear hB
    go_wp2
    go_ret
    exact ⟨rfl, F2.out⟩
  | true =>
    obtain ⟨b1, b2, b3⟩ := hB rfl
    have hjc := join_calls (.slice A0 b.length c0) (.slice A fs.length c) b size fs w2 (HB.out.no F2.out) (HV.out.no F2.out) (fun e he => (HOK.out e he).1.no F2.out) (by omega) (by omega) hsz (fun e he => by have := (b3 e he).1; omega) (fun e he => by have := (b3 e he).2; omega)
    have hrj := fun v W h => rjoin_calls v b size (fs.map TV.tok) W h (by omega) (by rw [List.length_map]; omega) hsz (fun e he => by obtain ⟨x, hx, rfl⟩ := List.mem_map.1 he; have := (b3 x hx).1; show x.xs.length ≤ _; omega) (fun e he => by obtain ⟨x, hx, rfl⟩ := List.mem_map.1 he; have := (b3 x hx).2; show x.c ≤ _; omega)
    have hcd := joinL_code (old := b) (size := size) (fs.map TV.tok) 0 []
    obtain ⟨J, hJ⟩ : ∃ J, joinR b size (fs.map TV.tok) = J := ⟨_, rfl⟩
    change 0 ≤ (joinR b size (fs.map TV.tok)).2.1 at hcd
    rw [hJ] at hjc hcd
    simp only [hJ] at hrj
    have HRJ := Aside0.mk hrj
    clear hrj hB b3 hJ
    go_wp2_with fail
    refine hjc.mono ?_
    rintro e w3 ⟨v, ev, rfl, hN, hE, _⟩
    have F3 : Aside0 (Fr No w w3) := ⟨F2.out.none hN.fr⟩
    obtain ⟨Av, cv, hvf⟩ := hN.own.form
    subst hvf
    have HN := Aside0.mk hN.own; have HE := Aside0.mk hE
    clear hN hE hjc
    go_wp2_with fail
    refine Rg.start (fun _ x => Fr No w3 x) (by kernel_rfl) (by kernel_rfl) [4, 5] [[3, 4], [3, 4, 2, 0, 1, 5]] (by kernel_rfl) (.q 0 1 (.q 1 1 (.q 2 1 (.q 3 0 (.e 4 1 (.e 5 2 (.q 6 2 (.q 7 2 (.q 8 2 (.q 9 2 (.q 10 2 (.q 11 2 (.q 12 2 (.done)))))))))))))) (by kernel_rfl) ?_ ?_
    · exact fun _ => (Fr.refl _ _).drew
    repeat (first
      | (refine Rg.q (o := ?_) (v := ?_) ?_ ?_ ?_ ?_ ?_
         rotate_left 2
         · (simp only [List.getElem?_toArray, List.getElem?_cons_succ, List.getElem?_cons_zero]; rfl)
         · exact fun _ _ _ h => h
         · first | rfl | (go_simp; done)
         · (intro x_ hx; (try dsimp only at hx); (have q0 := str_of_rd ((HB.out.no F3.out).no hx)); go_simp; (try rw [if_neg (by omega)]); (try rw [if_pos (by omega)]); (try go_simp); try with_reducible rfl)
         try simp only [Act.put, List.setIfInBounds_toArray, List.set_cons_zero, List.set_cons_succ])
      | (refine Rg.skip (o := ?_) ?_ ?_ ?_ ?_
         rotate_left 1
         · (simp only [List.getElem?_toArray, List.getElem?_cons_succ, List.getElem?_cons_zero]; rfl)
         · exact fun _ _ _ h => h
         · first | rfl | (go_simp; done)
         try simp only [Act.put, List.setIfInBounds_toArray, List.set_cons_zero, List.set_cons_succ]))
    refine Rg.e (o := ?_) ?_ ?_
    rotate_left 1
    · (simp only [List.getElem?_toArray, List.getElem?_cons_succ, List.getElem?_cons_zero]; rfl)
    intro K hK
    go_simp
    refine (plain8_calls (.slice A fs.length c) fs _ ((HV.out.no F3.out).no (Fr.refl _ _).drew) (fun e he => ((HOK.out e he).1.no F3.out).no (Fr.refl _ _).drew) (by omega)).mono ?_
    rintro en x1 ⟨vp, rfl, hP, hf⟩
    have G1 : Aside0 (Fr No w3 x1) := ⟨((Fr.refl No w3).drew).none hf⟩
    have HP := Aside0.mk hP
    clear hf hP
    go_simp
    refine hK.out _ _ (fun _ x => Fr No w3 x) (fun k x hk h => h) ?_ ?_
    · exact fun _ _ => G1.out
    try simp only [Act.put, List.setIfInBounds_toArray, List.set_cons_zero, List.set_cons_succ]
    repeat (first
      | (refine Rg.q (o := ?_) (v := ?_) ?_ ?_ ?_ ?_ ?_
         rotate_left 2
         · (simp only [List.getElem?_toArray, List.getElem?_cons_succ, List.getElem?_cons_zero]; rfl)
         · exact fun _ _ _ h => h
         · first | rfl | (go_simp; done)
         · (intro x_ hx; (try dsimp only at hx); (have q0 := str_of_rd ((HB.out.no F3.out).no hx)); go_simp; (try rw [if_neg (by omega)]); (try rw [if_pos (by omega)]); (try go_simp); try with_reducible rfl)
         try simp only [Act.put, List.setIfInBounds_toArray, List.set_cons_zero, List.set_cons_succ])
      | (refine Rg.skip (o := ?_) ?_ ?_ ?_ ?_
         rotate_left 1
         · (simp only [List.getElem?_toArray, List.getElem?_cons_succ, List.getElem?_cons_zero]; rfl)
         · exact fun _ _ _ h => h
         · first | rfl | (go_simp; done)
         try simp only [Act.put, List.setIfInBounds_toArray, List.set_cons_zero, List.set_cons_succ]))
    refine Rg.e (o := ?_) ?_ ?_
    rotate_left 1
    · (simp only [List.getElem?_toArray, List.getElem?_cons_succ, List.getElem?_cons_zero]; rfl)
    intro K hK
    go_simp
    refine (HRJ.out vp x1 HP.out.rd).mono ?_
    rintro en x2 ⟨rfl, hf⟩
    have G2 : Aside0 (Fr No w3 x2) := ⟨G1.out.none hf⟩
    clear hf
    go_simp
    refine hK.out _ _ (fun _ x => Fr No w3 x) (fun k x hk h => h) ?_ ?_
    · exact fun _ _ => G2.out
    try simp only [Act.put, List.setIfInBounds_toArray, List.set_cons_zero, List.set_cons_succ]
    repeat (first
      | (refine Rg.q (o := ?_) (v := ?_) ?_ ?_ ?_ ?_ ?_
         rotate_left 2
         · (simp only [List.getElem?_toArray, List.getElem?_cons_succ, List.getElem?_cons_zero]; rfl)
         · exact fun _ _ _ h => h
         · first | rfl | (go_simp; done)
         · (intro x_ hx; (try dsimp only at hx); (skip); go_simp; (try rw [if_neg (by omega)]); (try rw [if_pos (by omega)]); (try go_simp); try with_reducible rfl)
         try simp only [Act.put, List.setIfInBounds_toArray, List.set_cons_zero, List.set_cons_succ])
      | (refine Rg.skip (o := ?_) ?_ ?_ ?_ ?_
         rotate_left 1
         · (simp only [List.getElem?_toArray, List.getElem?_cons_succ, List.getElem?_cons_zero]; rfl)
         · exact fun _ _ _ h => h
         · first | rfl | (go_simp; done)
         try simp only [Act.put, List.setIfInBounds_toArray, List.set_cons_zero, List.set_cons_succ]))
    refine Rg.done ?_
    go_simp
    have qo : (convert 22 9 (.slice Av J.1.length cv)).run Tryd.prog x2 = .ok (.string (bstr J.1)) x2 := str_of_rd (HN.out.no G2.out).rd
    have F4 : Aside0 (Fr No w x2) := ⟨F3.out.none G2.out⟩
    go_wp2_with fail
    refine (number_calls (HG.out.no F4.out) (HE.out.no G2.out)).mono ?_
    have hno : ((noE (errJ J) : Nat) : Int) = J.2.1 := by
      unfold errJ
      split
      · rename_i h9; rw [h9]; rfl
      · show ((J.2.1.toNat : Nat) : Int) = _; omega
    rw [hno]
    rintro en x3 ⟨rfl, hf⟩
    have F5 : Aside0 (Fr No w x3) := ⟨F4.out.none hf⟩
    have HE3 := Aside0.mk ((HE.out.no G2.out).no hf)
    clear hf qo hno
    by_cases hz : J.2.1 = 0
    · have hzI : (J.2.1 == 0) = true := by rw [hz]; rfl
      clear hz
      go_wp2
      go_ret
      exact ⟨rfl, F5.out⟩
    · have hzI : (J.2.1 == 0) = false := by rw [beq_eq_false_iff_ne]; exact hz
      have hpl : plE (errJ J) = (J.2.2 : Int) := by unfold errJ; rw [if_neg hz]; rfl
      clear hz
      go_wp2_with fail
      refine (place_calls (HG.out.no F5.out) HE3.out).mono ?_
      rw [hpl]
      rintro en x4 ⟨rfl, hf⟩
      have F6 : Aside0 (Fr No w x4) := ⟨F5.out.none hf⟩
      clear hf hpl
      go_wp2
      go_ret
      exact ⟨rfl, F6.out⟩
end Go.Proofs.YtnfneokmiopieaaDoor.LPatchJoins
