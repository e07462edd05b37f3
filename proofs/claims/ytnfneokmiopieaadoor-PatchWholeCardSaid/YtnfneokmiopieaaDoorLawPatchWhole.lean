/- The walk of the law PatchWhole. -/
import Derived.Test.YtnfneokmiopieaaDoorPatS
import Derived.Test.YtnfneokmiopieaaDoorWhole
import Derived.Test.YtnfneokmiopieaaDoorShaH
import Derived.Test.YtnfneokmiopieaaDoorErrW
set_option linter.unusedVariables false
set_option linter.unusedSimpArgs false
namespace Go.Proofs.YtnfneokmiopieaaDoor.LPatchWhole
open Go.RowKit Go.IntWalk Go.Proofs.YtnfneokmiopieaaDoorW.PrintWords Go.Proofs.YtnfneokmiopieaaDoor.B Go.Proofs.YtnfneokmiopieaaDoor.PB Go.Proofs.YtnfneokmiopieaaDoor.Err Go.Proofs.YtnfneokmiopieaaDoor.STell Go.Proofs.YtnfneokmiopieaaDoor.SJoin Go.Proofs.YtnfneokmiopieaaDoor.Tk Go.Proofs.YtnfneokmiopieaaDoor.Pat Go.Proofs.YtnfneokmiopieaaDoor.Blk Go.Proofs.YtnfneokmiopieaaDoor.Bk

theorem name_allocK {K : Act → World → Prop} {a : Act} {W : World} {o : Obj} (h : ∀ w2 : World, w2.heap[W.heap.size]? = some o → Fr No W w2 → K a w2) : K a (W.alloc o) := h _ (heap_alloc_new W o) ((Fr.refl _ _).alloc _)
theorem set_ne (t : List UInt8) (k : Nat) (hk : k < t.length) : ¬ t = t.set k (t.getD k 0 ^^^ 1) := by
  intro h
  have h1 := congrArg (·.getD k 0) h
  simp only [List.getD, List.getElem?_set_self hk, Option.getD_some] at h1
  have h2 : ∀ x : UInt8, ¬ x = x ^^^ 1 := by
    intro x h
    have h3 : x ^^^ x = x ^^^ (x ^^^ 1) := by rw [← h]
    rw [← UInt8.xor_assoc] at h3
    simp at h3
  exact h2 _ h1
/-- A byte with another one, told by numbers. -/
theorem xor_u8 (x y : UInt8) : bits .xor .u8 (x.toNat : Int) (y.toNat : Int) = ((x ^^^ y).toNat : Int) := by
  have h := (Sha.bits_nat3 .u8 8 (by decide) (fun n h0 h1 => by rw [IntKind.wrap_u8]; omega) x.toNat y.toNat x.toNat_lt y.toNat_lt).2.2
  rw [h, UInt8.toNat_xor]
theorem join_whole (old d : List UInt8) (size : Int) (h : d.length ≤ 65536) : joinR old size (wholeL d) = (d, 0, 0) := by
  unfold wholeL
  split
  · rename_i h0
    rw [List.length_eq_zero_iff.1 h0]; rfl
  · have hs : stepJ old size [] (0, 0, d) = (0, d) := by
      unfold stepJ
      rw [if_neg (by simp), if_neg (by simp), if_neg (by simp; omega)]
      rfl
    unfold joinR
    rw [joinL, hs, if_pos rfl]
    rfl
theorem apply_whole (old d : List UInt8) (size : Int) (h : d.length ≤ 65536) : applyR old size (wholeL d) 32 (Sha.sha d) = (d, none) := by
  unfold applyR
  rw [join_whole old d size h, if_neg (by simp), if_pos (cut_full d)]
theorem apply_other (old d st : List UInt8) (size : Int) (h : d.length ≤ 65536) (hne : ¬ Sha.sha d = st) : applyR old size (wholeL d) 32 st = ([], some ((wholeL d).length, 81)) := by
  unfold applyR
  rw [join_whole old d size h, if_neg (by simp), if_neg (by rw [show (d, (0 : Int), 0).1 = d from rfl, cut_full]; exact hne)]
theorem whole_mem (d : List UInt8) : (wholeL d).length ≤ 1 ∧ ∀ t ∈ wholeL d, t.2.1 = 0 ∧ t.2.2.length ≤ d.length := by
  unfold wholeL
  split
  · exact ⟨by simp, fun t ht => by cases ht⟩
  · refine ⟨by simp, fun t ht => ?_⟩
    simp at ht
    subst ht
    exact ⟨rfl, Nat.le_refl _⟩
theorem toC_set {vl : Value} {ct : Int} {st : List UInt8} (i : Nat) (x : UInt8) : (toC vl ct st).setIfInBounds (2 + i) (vu8 x) = toC vl ct (st.set i x) := by
  apply Array.ext'
  rw [Array.toList_setIfInBounds]
  simp only [toC, toL]
  rw [show 2 + i = (i + 1) + 1 by omega, List.set_cons_succ, List.set_cons_succ, List.map_set]
/-- What is told, in its block, with its tokens. -/
structure ZT (w x : World) (g : Nat) (vo : Value) (fs : List TV) (st : List UInt8) : Prop where
  heap : x.heap[g]? = some (.cells (toC vo 32 st) 40 (0, 0))
  rd : Rd fT x vo fs
  own : ∀ e ∈ fs, RdB x e.dv e.xs
  fr : Fr No w x
  new : w.heap.size ≤ g
  ap1 : ∀ q, vo.ownBlock = some q → q ≠ g
  ap2 : ∀ e ∈ fs, ∀ q, e.dv.ownBlock = some q → q ≠ g
theorem ZT.no {w x y : World} {g : Nat} {vo : Value} {fs : List TV} {st : List UInt8} (h : ZT w x g vo fs st) (k : Fr No x y) : ZT w y g vo fs st :=
  ⟨k.heap h.heap id, h.rd.no k, fun e he => (h.own e he).no k, h.fr.none k, h.new, h.ap1, h.ap2⟩
theorem zt_made {w x : World} {g n : Nat} {vo : Value} {fs : List TV} {st : List UInt8} {cs : Array Value} (hT : Tks x n vo fs) (hg : x.heap[g]? = some (.cells cs 40 (0, 0))) (hf : Fr No w x) (hn : w.heap.size ≤ g) : ZT w (x.setRow g (toC vo 32 st)) g vo fs st := by
  have k : Fr (one g) x (x.setRow g (toC vo 32 st)) := fr_one_row x g _
  have a1 : ∀ q, vo.ownBlock = some q → q ≠ g := fun q hq e => by
    obtain ⟨cs', h2⟩ := hT.row.typed q hq
    rw [show q = g from e, hg] at h2
    injection h2 with h2
    injection h2 with _ h2
    exact absurd h2 (by decide)
  have a2 : ∀ e ∈ fs, ∀ q, e.dv.ownBlock = some q → q ≠ g := fun e he q hq e' => by
    obtain ⟨cs', h2⟩ := (hT.own e he).1.typed q hq
    rw [show q = g from e', hg] at h2
    injection h2 with h2
    injection h2 with _ h2
    exact absurd h2 (by decide)
  exact ⟨setRow_heap _ _ _ _ _ _ hg, hT.row.rd.fr k (fun _ q hq e => a1 q hq e), fun e he => (hT.own e he).1.rd.fr k (fun _ q hq e' => a2 e he q hq e'), fr_setRow hf (.inr hn) _, hn, a1, a2⟩
theorem ZT.set {w x : World} {g : Nat} {vo : Value} {fs : List TV} {st : List UInt8} (h : ZT w x g vo fs st) (i : Nat) (z : UInt8) : ZT w (x.setCell ⟨g, 2 + i, none⟩ (vu8 z)) g vo fs (st.set i z) := by
  have k : Fr (one g) x (x.setCell ⟨g, 2 + i, none⟩ (vu8 z)) := fr_one_set x g _ _
  refine ⟨?_, h.rd.fr k (fun _ q hq e => h.ap1 q hq e), fun e he => (h.own e he).fr k (fun _ q hq e' => h.ap2 e he q hq e'), h.fr.setCell (p := ⟨g, 2 + i, none⟩) (.inr h.new) _, h.new, h.ap1, h.ap2⟩
  have h1 := blk_set h.heap (2 + i) (vu8 z)
  rw [toC_set] at h1
  exact h1
theorem toC_at (vl : Value) (ct : Int) (st : List UInt8) (i : Nat) (hi : i < st.length) : (toC vl ct st)[2 + i]? = some (vu8 (st.getD i 0)) := by
  rw [show 2 + i = (i + 1) + 1 by omega]
  simp [toC, toL, hi]

set_option maxHeartbeats 8000000 in
set_option maxRecDepth 100000 in
theorem walk_out (vb : Value) (b : List UInt8) (vd : Value) (d : List UInt8) (k : Int) (w : World) (hb : RdB w vb b) (hd : RdB w vd d) (hout : 1000 < b.length ∨ 1000 < d.length) : Calls Tryd.prog 7 #[vb, vd, .int .i64 k] w fun e w' => e = .returned (.bool true) ∧ Fr No w w' := by
  obtain ⟨A, c, rfl, _⟩ := id hb
  obtain ⟨A', c', rfl, _⟩ := id hd
  clear hb hd
  have hc : (1000 : Int) < (b.length : Int) ∨ (¬ (1000 : Int) < (b.length : Int) ∧ (1000 : Int) < (d.length : Int)) := by omega
  clear hout
  rcases hc with h1 | ⟨h1, h2⟩
  all_goals
    go_enter Tryd.func7, Tryd.ntmps7
    go_wp2_with fail
    refine (sends_calls _).mono ?_
    rintro e w1 ⟨rfl, hf⟩
    have F1 : Aside0 (Fr No w w1) := ⟨hf⟩
    clear hf
    go_wp2
    go_ret
    exact ⟨rfl, F1.out⟩

set_option maxHeartbeats 8000000 in
set_option maxRecDepth 100000 in
theorem walk_ok (vb : Value) (b : List UInt8) (vd : Value) (d : List UInt8) (k : Int) (w : World) (hg : Gl w) (hb : RdB w vb b) (hd : RdB w vd d) (h1 : ¬ (1000 : Int) < (b.length : Int)) (h2 : ¬ (1000 : Int) < (d.length : Int)) : Calls Tryd.prog 7 #[vb, vd, .int .i64 k] w fun e w' => e = .returned (.bool true) ∧ Fr No w w' := by
  obtain ⟨A0, c0, rfl, hbc, _⟩ := id hb
  obtain ⟨A', c', rfl, hdc, _⟩ := id hd
  have hwl := whole_mem d
  have hwc := fun W h => whole_calls (.slice A' d.length c') d W h (by omega)
  have hap := apply_whole b d 7 (by omega)
  have hao := fun st h => apply_other b d st 7 (by omega) h
  have hsl := Sha.sha_length d
  obtain ⟨L, hL⟩ : ∃ L, wholeL d = L := ⟨_, rfl⟩
  rw [hL] at hwl hap
  simp only [hL] at hwc hao
  have hld : (bstr d).data.toList = d := by simp [bstr]
  have hrc := fun W => Sha.ref_of_calls (bstr d) W (by rw [bstr_size]; omega)
  simp only [hld] at hrc
  obtain ⟨S, hS⟩ : ∃ S, Sha.sha d = S := ⟨_, rfl⟩
  rw [hS] at hsl hap
  simp only [hS] at hrc hao
  have HB := Aside0.mk hb; have HD := Aside0.mk hd; have HG := Aside0.mk hg; have HWL := Aside0.mk hwl; have HWC := Aside0.mk hwc; have HAP := Aside0.mk hap; have HAO := Aside0.mk hao; have HSL := Aside0.mk hsl; have HRC := Aside0.mk hrc
  clear hb hd hg hwl hwc hap hao hsl hL hS hrc hld
  go_enter Tryd.func7, Tryd.ntmps7
  go_wp2_with fail
  refine (sends_calls w).mono ?_
  rintro e w1 ⟨rfl, hf⟩
  have F1 : Aside0 (Fr No w w1) := ⟨hf⟩
  clear hf
  go_wp2_with fail
  refine Rg.start (fun _ x => Fr No w1 x) (by kernel_rfl) (by kernel_rfl) [1, 4, 6, 7] [[0, 1], [0, 1, 2, 3, 4], [6], [2, 3, 4, 0, 1, 5, 6, 7]] (by kernel_rfl) (.q 0 0 (.q 2 1 (.q 3 1 (.two 1 1 (.two 4 2 (.q 5 3 (.e 6 3 (.e 7 4 (.done)))) 6 1 (.e 4 3 (.q 5 3 (.e 7 4 (.done))))) 6 0 (.e 1 1 (.e 4 3 (.q 5 3 (.e 7 4 (.done))))))))) (by kernel_rfl) ?_ ?_
  · exact fun _ => (Fr.refl _ _).drew
  have FD : Aside0 (Fr No w1 w1.drew) := ⟨(Fr.refl _ _).drew⟩
  generalize w1.drew = wd at FD ⊢
  repeat (first
    | (refine Rg.q (o := ?_) (v := ?_) ?_ ?_ ?_ ?_ ?_
       rotate_left 2
       · (simp only [List.getElem?_toArray, List.getElem?_cons_succ, List.getElem?_cons_zero]; rfl)
       · exact fun _ _ _ h => h
       · first | rfl | (go_simp; done)
       · (intro x_ hx; (try dsimp only at hx); (have q0 := str_of_rd ((HD.out.no F1.out).no hx)); go_simp; (try rw [if_neg (by omega)]); (try rw [if_pos (by omega)]); (try go_simp); try with_reducible rfl)
       try simp only [Act.put, List.setIfInBounds_toArray, List.set_cons_zero, List.set_cons_succ])
    | (refine Rg.skip (o := ?_) ?_ ?_ ?_ ?_
       rotate_left 1
       · (simp only [List.getElem?_toArray, List.getElem?_cons_succ, List.getElem?_cons_zero]; rfl)
       · exact fun _ _ _ h => h
       · first | rfl | (go_simp; done)
       try simp only [Act.put, List.setIfInBounds_toArray, List.set_cons_zero, List.set_cons_succ]))
  refine Rg.two ?wfirst ?afirst
  case' wfirst =>
    refine Rg.e (o := ?_) ?_ ?_
    rotate_left 1
    · (simp only [List.getElem?_toArray, List.getElem?_cons_succ, List.getElem?_cons_zero]; rfl)
    intro K hK
    go_simp
    refine (HWC.out _ ((HD.out.no F1.out).no FD.out)).mono ?_
    rintro en x1 ⟨vo, rfl, hT, hf⟩
    obtain ⟨Ao, co, rfl⟩ := hT.form
    obtain ⟨fs, hT, hfs⟩ := hT
    obtain ⟨n, hn⟩ : ∃ n, wd.heap.size = n := ⟨_, rfl⟩
    rw [hn] at hT
    have HT := Aside0.mk hT; have HFS := Aside0.mk hfs
    have K1 : Aside0 (Fr No w1 x1) := ⟨FD.out.none hf⟩
    clear hf hT hn hfs
    go_simp
    refine hK.out _ _ (fun _ x => Fr No w1 x) (fun k x hk h => h) ?_ ?_
    · exact fun _ _ => K1.out
    try simp only [Act.put, List.setIfInBounds_toArray, List.set_cons_zero, List.set_cons_succ]
    repeat (first
      | (refine Rg.q (o := ?_) (v := ?_) ?_ ?_ ?_ ?_ ?_
         rotate_left 2
         · (simp only [List.getElem?_toArray, List.getElem?_cons_succ, List.getElem?_cons_zero]; rfl)
         · exact fun _ _ _ h => h
         · first | rfl | (go_simp; done)
         · (intro x_ hx; (try dsimp only at hx); (have q0 := str_of_rd ((HD.out.no F1.out).no hx)); go_simp; (try rw [if_neg (by omega)]); (try rw [if_pos (by omega)]); (try go_simp); try with_reducible rfl)
         try simp only [Act.put, List.setIfInBounds_toArray, List.set_cons_zero, List.set_cons_succ])
      | (refine Rg.skip (o := ?_) ?_ ?_ ?_ ?_
         rotate_left 1
         · (simp only [List.getElem?_toArray, List.getElem?_cons_succ, List.getElem?_cons_zero]; rfl)
         · exact fun _ _ _ h => h
         · first | rfl | (go_simp; done)
         try simp only [Act.put, List.setIfInBounds_toArray, List.set_cons_zero, List.set_cons_succ]))
    refine Rg.two ?osecond ?asecond
    case' osecond =>
      refine Rg.e (o := ?_) ?_ ?_
      rotate_left 1
      · (simp only [List.getElem?_toArray, List.getElem?_cons_succ, List.getElem?_cons_zero]; rfl)
      intro K hK
      go_simp
      refine (HRC.out _).mono ?_
      unfold Arr.av
      rintro en x2 ⟨rfl, hf⟩
      have K2 : Aside0 (Fr No w1 x2) := ⟨K1.out.none hf⟩
      have HT2 := Aside0.mk (HT.out.no hf)
      clear hf HT
      go_simp
      refine hK.out _ _ (fun _ x => Fr No w1 x) (fun k x hk h => h) ?_ ?_
      · exact fun _ _ => K2.out
      try simp only [Act.put, List.setIfInBounds_toArray, List.set_cons_zero, List.set_cons_succ]
      repeat (first
        | (refine Rg.q (o := ?_) (v := ?_) ?_ ?_ ?_ ?_ ?_
           rotate_left 2
           · (simp only [List.getElem?_toArray, List.getElem?_cons_succ, List.getElem?_cons_zero]; rfl)
           · exact fun _ _ _ h => h
           · first | rfl | (go_simp; done)
           · (intro x_ hx; (try dsimp only at hx); first | (fail) | ((refine (Bk.ex_build (buildT (A := Ao) (n := L.length) (c := co) 32 HSL.out _) rfl rfl).trans ?_; with_reducible rfl)) | (skip; (try clear hx); go_simp; (try rw [if_neg (by omega)]); (try rw [if_pos (by omega)]); (try go_simp); try with_reducible rfl))
           try simp only [Act.put, List.setIfInBounds_toArray, List.set_cons_zero, List.set_cons_succ])
        | (refine Rg.skip (o := ?_) ?_ ?_ ?_ ?_
           rotate_left 1
           · (simp only [List.getElem?_toArray, List.getElem?_cons_succ, List.getElem?_cons_zero]; rfl)
           · exact fun _ _ _ h => h
           · first | rfl | (go_simp; done)
           try simp only [Act.put, List.setIfInBounds_toArray, List.set_cons_zero, List.set_cons_succ]))
      refine Rg.e (o := ?_) ?_ ?_
      rotate_left 1
      · (simp only [List.getElem?_toArray, List.getElem?_cons_succ, List.getElem?_cons_zero]; rfl)
      intro K hK
      go_simp
      refine name_allocK (fun w2 h2 f2 => ?_)
      have HZ0 : Aside0 (∃ cs0, w2.heap[x2.heap.size]? = some (.cells cs0 40 (0, 0)) ∧ cs0.size = 34) := ⟨_, h2, rfl⟩
      have HGN : Aside0 (w1.heap.size ≤ x2.heap.size) := ⟨K2.out.size⟩
      have K3 : Aside0 (Fr No w1 w2) := ⟨K2.out.none f2⟩
      have HT3 := Aside0.mk (HT2.out.no f2)
      clear h2 f2 HT2
      obtain ⟨g, hg⟩ : ∃ g, x2.heap.size = g := ⟨_, rfl⟩
      rw [hg] at HZ0 HGN ⊢
      clear hg
      refine hK.out _ _ (fun _ x => Fr No w1 x) (fun k x hk h => h) ?_ ?_
      · exact fun _ _ => K3.out
      try simp only [Act.put, List.setIfInBounds_toArray, List.set_cons_zero, List.set_cons_succ]
      repeat (first
        | (refine Rg.q (o := ?_) (v := ?_) ?_ ?_ ?_ ?_ ?_
           rotate_left 2
           · (simp only [List.getElem?_toArray, List.getElem?_cons_succ, List.getElem?_cons_zero]; rfl)
           · exact fun _ _ _ h => h
           · first | rfl | (go_simp; done)
           · (intro x_ hx; (try dsimp only at hx); first | (fail) | ((refine (Bk.ex_build (buildT (A := Ao) (n := L.length) (c := co) 32 HSL.out _) rfl rfl).trans ?_; with_reducible rfl)) | (skip; (try clear hx); go_simp; (try rw [if_neg (by omega)]); (try rw [if_pos (by omega)]); (try go_simp); try with_reducible rfl))
           try simp only [Act.put, List.setIfInBounds_toArray, List.set_cons_zero, List.set_cons_succ])
        | (refine Rg.skip (o := ?_) ?_ ?_ ?_ ?_
           rotate_left 1
           · (simp only [List.getElem?_toArray, List.getElem?_cons_succ, List.getElem?_cons_zero]; rfl)
           · exact fun _ _ _ h => h
           · first | rfl | (go_simp; done)
           try simp only [Act.put, List.setIfInBounds_toArray, List.set_cons_zero, List.set_cons_succ]))
      rename World => xz
    case' asecond =>
      refine Rg.e (o := ?_) ?_ ?_
      rotate_left 1
      · (simp only [List.getElem?_toArray, List.getElem?_cons_succ, List.getElem?_cons_zero]; rfl)
      intro K hK
      go_simp
      refine name_allocK (fun w2 h2 f2 => ?_)
      have HZ1 : Aside0 (∃ cs0, w2.heap[x1.heap.size]? = some (.cells cs0 40 (0, 0)) ∧ cs0.size = 34) := ⟨_, h2, rfl⟩
      have HGN : Aside0 (w1.heap.size ≤ x1.heap.size) := ⟨K1.out.size⟩
      have K2 : Aside0 (Fr No w1 w2) := ⟨K1.out.none f2⟩
      have HT2 := Aside0.mk (HT.out.no f2)
      clear h2 f2 HT
      obtain ⟨g, hg⟩ : ∃ g, x1.heap.size = g := ⟨_, rfl⟩
      rw [hg] at HZ1 HGN ⊢
      clear hg
      refine hK.out _ _ (fun _ x => Fr No w1 x) (fun k x hk h => h) ?_ ?_
      · exact fun _ _ => K2.out
      try simp only [Act.put, List.setIfInBounds_toArray, List.set_cons_zero, List.set_cons_succ]
      repeat (first
        | (refine Rg.q (o := ?_) (v := ?_) ?_ ?_ ?_ ?_ ?_
           rotate_left 2
           · (simp only [List.getElem?_toArray, List.getElem?_cons_succ, List.getElem?_cons_zero]; rfl)
           · exact fun _ _ _ h => h
           · first | rfl | (go_simp; done)
           · (intro x_ hx; (try dsimp only at hx); (have q0 := str_of_rd ((HD.out.no F1.out).no hx)); go_simp; (try rw [if_neg (by omega)]); (try rw [if_pos (by omega)]); (try go_simp); try with_reducible rfl)
           try simp only [Act.put, List.setIfInBounds_toArray, List.set_cons_zero, List.set_cons_succ])
        | (refine Rg.skip (o := ?_) ?_ ?_ ?_ ?_
           rotate_left 1
           · (simp only [List.getElem?_toArray, List.getElem?_cons_succ, List.getElem?_cons_zero]; rfl)
           · exact fun _ _ _ h => h
           · first | rfl | (go_simp; done)
           try simp only [Act.put, List.setIfInBounds_toArray, List.set_cons_zero, List.set_cons_succ]))
      refine Rg.e (o := ?_) ?_ ?_
      rotate_left 1
      · (simp only [List.getElem?_toArray, List.getElem?_cons_succ, List.getElem?_cons_zero]; rfl)
      intro K hK
      go_simp
      refine (HRC.out _).mono ?_
      unfold Arr.av
      rintro en x2 ⟨rfl, hf⟩
      have K3 : Aside0 (Fr No w1 x2) := ⟨K2.out.none hf⟩
      have HT3 := Aside0.mk (HT2.out.no hf)
      have HZ0 : Aside0 (∃ cs0, x2.heap[g]? = some (.cells cs0 40 (0, 0)) ∧ cs0.size = 34) := ⟨by
        obtain ⟨cs0, e1, e2⟩ := HZ1.out
        exact ⟨cs0, hf.heap e1 id, e2⟩⟩
      clear hf HT2 HZ1
      go_simp
      refine hK.out _ _ (fun _ x => Fr No w1 x) (fun k x hk h => h) ?_ ?_
      · exact fun _ _ => K3.out
      try simp only [Act.put, List.setIfInBounds_toArray, List.set_cons_zero, List.set_cons_succ]
      repeat (first
        | (refine Rg.q (o := ?_) (v := ?_) ?_ ?_ ?_ ?_ ?_
           rotate_left 2
           · (simp only [List.getElem?_toArray, List.getElem?_cons_succ, List.getElem?_cons_zero]; rfl)
           · exact fun _ _ _ h => h
           · first | rfl | (go_simp; done)
           · (intro x_ hx; (try dsimp only at hx); first | (fail) | ((refine (Bk.ex_build (buildT (A := Ao) (n := L.length) (c := co) 32 HSL.out _) rfl rfl).trans ?_; with_reducible rfl)) | (skip; (try clear hx); go_simp; (try rw [if_neg (by omega)]); (try rw [if_pos (by omega)]); (try go_simp); try with_reducible rfl))
           try simp only [Act.put, List.setIfInBounds_toArray, List.set_cons_zero, List.set_cons_succ])
        | (refine Rg.skip (o := ?_) ?_ ?_ ?_ ?_
           rotate_left 1
           · (simp only [List.getElem?_toArray, List.getElem?_cons_succ, List.getElem?_cons_zero]; rfl)
           · exact fun _ _ _ h => h
           · first | rfl | (go_simp; done)
           try simp only [Act.put, List.setIfInBounds_toArray, List.set_cons_zero, List.set_cons_succ]))
      rename World => xz
  case' afirst =>
    refine Rg.e (o := ?_) ?_ ?_
    rotate_left 1
    · (simp only [List.getElem?_toArray, List.getElem?_cons_succ, List.getElem?_cons_zero]; rfl)
    intro K hK
    go_simp
    refine name_allocK (fun w2 h2 f2 => ?_)
    have HZ1 : Aside0 (∃ cs0, w2.heap[wd.heap.size]? = some (.cells cs0 40 (0, 0)) ∧ cs0.size = 34) := ⟨_, h2, rfl⟩
    have HGN : Aside0 (w1.heap.size ≤ wd.heap.size) := ⟨FD.out.size⟩
    have K1 : Aside0 (Fr No w1 w2) := ⟨FD.out.none f2⟩
    clear h2 f2
    obtain ⟨g, hg⟩ : ∃ g, wd.heap.size = g := ⟨_, rfl⟩
    rw [hg] at HZ1 HGN ⊢
    clear hg
    refine hK.out _ _ (fun _ x => Fr No w1 x) (fun k x hk h => h) ?_ ?_
    · exact fun _ _ => K1.out
    try simp only [Act.put, List.setIfInBounds_toArray, List.set_cons_zero, List.set_cons_succ]
    repeat (first
      | (refine Rg.q (o := ?_) (v := ?_) ?_ ?_ ?_ ?_ ?_
         rotate_left 2
         · (simp only [List.getElem?_toArray, List.getElem?_cons_succ, List.getElem?_cons_zero]; rfl)
         · exact fun _ _ _ h => h
         · first | rfl | (go_simp; done)
         · (intro x_ hx; (try dsimp only at hx); (have q0 := str_of_rd ((HD.out.no F1.out).no hx)); go_simp; (try rw [if_neg (by omega)]); (try rw [if_pos (by omega)]); (try go_simp); try with_reducible rfl)
         try simp only [Act.put, List.setIfInBounds_toArray, List.set_cons_zero, List.set_cons_succ])
      | (refine Rg.skip (o := ?_) ?_ ?_ ?_ ?_
         rotate_left 1
         · (simp only [List.getElem?_toArray, List.getElem?_cons_succ, List.getElem?_cons_zero]; rfl)
         · exact fun _ _ _ h => h
         · first | rfl | (go_simp; done)
         try simp only [Act.put, List.setIfInBounds_toArray, List.set_cons_zero, List.set_cons_succ]))
    refine Rg.e (o := ?_) ?_ ?_
    rotate_left 1
    · (simp only [List.getElem?_toArray, List.getElem?_cons_succ, List.getElem?_cons_zero]; rfl)
    intro K hK
    go_simp
    refine (HWC.out _ ((HD.out.no F1.out).no K1.out)).mono ?_
    rintro en x1 ⟨vo, rfl, hT, hf⟩
    obtain ⟨Ao, co, rfl⟩ := hT.form
    obtain ⟨fs, hT, hfs⟩ := hT
    obtain ⟨n, hn⟩ : ∃ n, w2.heap.size = n := ⟨_, rfl⟩
    rw [hn] at hT
    have HT := Aside0.mk hT; have HFS := Aside0.mk hfs
    have K2 : Aside0 (Fr No w1 x1) := ⟨K1.out.none hf⟩
    have HZ2 : Aside0 (∃ cs0, x1.heap[g]? = some (.cells cs0 40 (0, 0)) ∧ cs0.size = 34) := ⟨by
      obtain ⟨cs0, e1, e2⟩ := HZ1.out
      exact ⟨cs0, hf.heap e1 id, e2⟩⟩
    clear hf hT hn hfs HZ1
    go_simp
    refine hK.out _ _ (fun _ x => Fr No w1 x) (fun k x hk h => h) ?_ ?_
    · exact fun _ _ => K2.out
    try simp only [Act.put, List.setIfInBounds_toArray, List.set_cons_zero, List.set_cons_succ]
    repeat (first
      | (refine Rg.q (o := ?_) (v := ?_) ?_ ?_ ?_ ?_ ?_
         rotate_left 2
         · (simp only [List.getElem?_toArray, List.getElem?_cons_succ, List.getElem?_cons_zero]; rfl)
         · exact fun _ _ _ h => h
         · first | rfl | (go_simp; done)
         · (intro x_ hx; (try dsimp only at hx); (have q0 := str_of_rd ((HD.out.no F1.out).no hx)); go_simp; (try rw [if_neg (by omega)]); (try rw [if_pos (by omega)]); (try go_simp); try with_reducible rfl)
         try simp only [Act.put, List.setIfInBounds_toArray, List.set_cons_zero, List.set_cons_succ])
      | (refine Rg.skip (o := ?_) ?_ ?_ ?_ ?_
         rotate_left 1
         · (simp only [List.getElem?_toArray, List.getElem?_cons_succ, List.getElem?_cons_zero]; rfl)
         · exact fun _ _ _ h => h
         · first | rfl | (go_simp; done)
         try simp only [Act.put, List.setIfInBounds_toArray, List.set_cons_zero, List.set_cons_succ]))
    refine Rg.e (o := ?_) ?_ ?_
    rotate_left 1
    · (simp only [List.getElem?_toArray, List.getElem?_cons_succ, List.getElem?_cons_zero]; rfl)
    intro K hK
    go_simp
    refine (HRC.out _).mono ?_
    unfold Arr.av
    rintro en x2 ⟨rfl, hf⟩
    have K3 : Aside0 (Fr No w1 x2) := ⟨K2.out.none hf⟩
    have HT3 := Aside0.mk (HT.out.no hf)
    have HZ0 : Aside0 (∃ cs0, x2.heap[g]? = some (.cells cs0 40 (0, 0)) ∧ cs0.size = 34) := ⟨by
      obtain ⟨cs0, e1, e2⟩ := HZ2.out
      exact ⟨cs0, hf.heap e1 id, e2⟩⟩
    clear hf HT HZ2
    go_simp
    refine hK.out _ _ (fun _ x => Fr No w1 x) (fun k x hk h => h) ?_ ?_
    · exact fun _ _ => K3.out
    try simp only [Act.put, List.setIfInBounds_toArray, List.set_cons_zero, List.set_cons_succ]
    repeat (first
      | (refine Rg.q (o := ?_) (v := ?_) ?_ ?_ ?_ ?_ ?_
         rotate_left 2
         · (simp only [List.getElem?_toArray, List.getElem?_cons_succ, List.getElem?_cons_zero]; rfl)
         · exact fun _ _ _ h => h
         · first | rfl | (go_simp; done)
         · (intro x_ hx; (try dsimp only at hx); first | (fail) | ((refine (Bk.ex_build (buildT (A := Ao) (n := L.length) (c := co) 32 HSL.out _) rfl rfl).trans ?_; with_reducible rfl)) | (skip; (try clear hx); go_simp; (try rw [if_neg (by omega)]); (try rw [if_pos (by omega)]); (try go_simp); try with_reducible rfl))
         try simp only [Act.put, List.setIfInBounds_toArray, List.set_cons_zero, List.set_cons_succ])
      | (refine Rg.skip (o := ?_) ?_ ?_ ?_ ?_
         rotate_left 1
         · (simp only [List.getElem?_toArray, List.getElem?_cons_succ, List.getElem?_cons_zero]; rfl)
         · exact fun _ _ _ h => h
         · first | rfl | (go_simp; done)
         try simp only [Act.put, List.setIfInBounds_toArray, List.set_cons_zero, List.set_cons_succ]))
    rename World => xz
  all_goals
    refine Rg.e (o := ?_) ?_ ?_
    rotate_left 1
    · (simp only [List.getElem?_toArray, List.getElem?_cons_succ, List.getElem?_cons_zero]; rfl)
    intro K hK
    rw [if_pos (by first | rfl | (go_simp; done))]
    obtain ⟨cs0, e1, e2⟩ := HZ0.out
    have hll : L.length = fs.length := by rw [← HFS.out, List.length_map]
    refine PB.opStRow (.tmp 7) (.tmp 25) 40 g 40 cs0 (toC (.slice Ao L.length co) 32 S) rfl rfl rfl e1 (by rw [toC_size HSL.out]; kernel_rfl) (by rw [toC_size HSL.out]; exact e2) toC_one ?_
    have Z := Aside0.mk (zt_made (st := S) (HT3.out : Tks _ _ (.slice Ao L.length co) fs) e1 K3.out HGN.out)
    rw [hll] at Z ⊢
    clear e1 e2 HZ0 K3 HT3
    refine hK.out _ _ (fun _ x => Fr No w1 x) (fun k x hk h => h) ?_ ?_
    · exact fun _ _ => Z.out.fr
    try simp only [Act.put, List.setIfInBounds_toArray, List.set_cons_zero, List.set_cons_succ]
    repeat (first
      | (refine Rg.q (o := ?_) (v := ?_) ?_ ?_ ?_ ?_ ?_
         rotate_left 2
         · (simp only [List.getElem?_toArray, List.getElem?_cons_succ, List.getElem?_cons_zero]; rfl)
         · exact fun _ _ _ h => h
         · first | rfl | (go_simp; done)
         · (intro x_ hx; (try dsimp only at hx); (skip); go_simp; (try rw [if_neg (by omega)]); (try rw [if_pos (by omega)]); (try go_simp); try with_reducible rfl)
         try simp only [Act.put, List.setIfInBounds_toArray, List.set_cons_zero, List.set_cons_succ])
      | (refine Rg.skip (o := ?_) ?_ ?_ ?_ ?_
         rotate_left 1
         · (simp only [List.getElem?_toArray, List.getElem?_cons_succ, List.getElem?_cons_zero]; rfl)
         · exact fun _ _ _ h => h
         · first | rfl | (go_simp; done)
         try simp only [Act.put, List.setIfInBounds_toArray, List.set_cons_zero, List.set_cons_succ]))
    refine Rg.done ?_
    go_simp
    generalize xz.setRow g (toC (.slice Ao fs.length co) 32 S) = w5 at Z ⊢
    have F5 : Aside0 (Fr No w w5) := ⟨F1.out.none Z.out.fr⟩
    have hfl : fs.length ≤ 1 := by have := HWL.out.1; omega
    have hmem : ∀ e ∈ fs, e.c = 0 ∧ e.xs.length ≤ d.length := fun e he => by
      have := HWL.out.2 e.tok (by rw [← HFS.out]; exact List.mem_map_of_mem he)
      exact this
    have HMEM := Aside0.mk hmem
    have HAPC : Aside0 (∀ (W : World) (st : List UInt8), st.length = 32 → ZT w1 W g (.slice Ao fs.length co) fs st → Calls Tryd.prog 15 #[.agg (toC (.slice Ao fs.length co) 32 st), .slice A0 b.length c0, .int .i64 7] W fun e w' => ∃ v ev, e = .returned (.tuple #[v, ev]) ∧ On W w' v (applyR b 7 L 32 st).1 ∧ IsErr w' ev (applyR b 7 L 32 st).2) := ⟨fun W st q1 q2 => by
      have := apply_calls (.slice A0 b.length c0) (.slice Ao fs.length co) b 7 32 st fs W q1 (HB.out.no (F1.out.none q2.fr)) q2.rd q2.own (by omega) (by omega) (by decide) (fun e he => by have := (HMEM.out e he).2; omega) (fun e he => by have := (HMEM.out e he).1; omega) (by decide) (by decide)
      rw [HFS.out] at this
      exact this⟩
    clear hmem HMEM
    have LD := ld_all (P := Tryd.prog) (ty := 40) Z.out.heap Tryd.underlying40 rfl (by rw [toC_size HSL.out]; kernel_rfl)
    have hap := HAPC.out w5 S HSL.out Z.out
    rw [HAP.out] at hap
    go_wp2_with (first
      | (refine ldG (.tmp 7) 40 _ _ rfl rfl (LD _ (Fr.refl _ _)) (by first | rfl | (go_simp; done)) ?_)
      | fail)
    refine hap.mono ?_
    rintro e w6 ⟨v, ev, rfl, hN, hE⟩
    obtain rfl : ev = .nilIface := hE
    obtain ⟨Av, cv, rfl⟩ := hN.own.form
    have F6 : Aside0 (Fr No w w6) := ⟨F5.out.none hN.fr⟩
    have Z6 := Aside0.mk (Z.out.no hN.fr)
    have q1 : (convert 22 9 (.slice Av d.length cv)).run Tryd.prog w6 = .ok (.string (bstr d)) w6 := str_of_rd hN.own.rd
    have q2 := str_of_rd (HD.out.no F6.out)
    clear hN hap LD Z
    by_cases hk : 0 ≤ k ∧ k < 32
    · obtain ⟨i, rfl⟩ := Int.eq_ofNat_of_zero_le hk.1
      have hi : i < 32 := by omega
      have hkI1 : ¬ (i : Int) < 0 := by omega
      have hkI2 : ¬ (31 : Int) < (i : Int) := by omega
      obtain ⟨x, hx⟩ : ∃ x, S.getD i 0 = x := ⟨_, rfl⟩
      have hc : w6.cell? ⟨g, 2 + i, Option.none⟩ = some (vu8 x) := by rw [blk_cell Z6.out.heap, toC_at _ _ _ _ (by rw [HSL.out]; exact hi), hx]
      have hfz : w6.frozen? ⟨g, 2 + i, Option.none⟩ = false := blk_frozen Z6.out.heap _
      have hxr := xor_u8 x 1
      rw [show ((1 : UInt8).toNat : Int) = 1 from rfl] at hxr
      have hne := set_ne S i (by rw [HSL.out]; exact hi)
      rw [hx] at hne
      obtain ⟨z, hz⟩ : ∃ z, x ^^^ 1 = z := ⟨_, rfl⟩
      rw [hz] at hne hxr
      have Z7 := Aside0.mk (Z6.out.set i z)
      obtain ⟨S2, hS2⟩ : ∃ S2, S.set i z = S2 := ⟨_, rfl⟩
      have hsl2 : S2.length = 32 := by rw [← hS2, List.length_set]; exact HSL.out
      rw [hS2] at Z7 hne
      have HSL2 := Aside0.mk hsl2
      have F7 : Aside0 (Fr No w (w6.setCell ⟨g, 2 + i, Option.none⟩ (vu8 z))) := ⟨F1.out.none Z7.out.fr⟩
      have hap2 := HAPC.out _ S2 hsl2 Z7.out
      rw [HAO.out S2 hne] at hap2
      have LD2 := ld_all (P := Tryd.prog) (ty := 40) Z7.out.heap Tryd.underlying40 rfl (by rw [toC_size HSL2.out]; kernel_rfl)
      clear hx hz hne hS2 hsl2 hk
      go_wp2_with (first
        | (refine ldG (.tmp 7) 40 _ _ rfl rfl (LD2 _ (Fr.refl _ _)) (by first | rfl | (go_simp; done)) ?_)
        | fail)
      refine hap2.mono ?_
      rintro e w8 ⟨v, ev, rfl, hN, hE⟩
      have F8 : Aside0 (Fr No w w8) := ⟨F7.out.none hN.fr⟩
      have HE := Aside0.mk hE
      have c0 : w8.cell? ⟨g, 0, Option.none⟩ = some (.slice Ao fs.length co) := by rw [blk_cell (Z7.out.no hN.fr).heap]; exact toC_0 _ _ _
      obtain ⟨Av2, cv2, rfl⟩ := hN.own.form
      clear hN hE hap2 LD2 hc hfz q1 q2
      go_wp2_with fail
      refine Rg.start (fun _ x => Fr No w8 x) (by kernel_rfl) (by kernel_rfl) [1, 5] [[0, 1], [0, 1, 2, 3, 4, 5]] (by kernel_rfl) (.q 0 0 (.e 1 1 (.q 2 1 (.q 3 1 (.q 4 1 (.q 6 2 (.q 7 2 (.q 8 2 (.e 5 2 (.q 9 2 (.q 10 2 (.q 11 2 (.done))))))))))))) (by kernel_rfl) ?_ ?_
      · exact fun _ => (Fr.refl _ _).drew
      repeat (first
        | (refine Rg.q (o := ?_) (v := ?_) ?_ ?_ ?_ ?_ ?_
           rotate_left 2
           · (simp only [List.getElem?_toArray, List.getElem?_cons_succ, List.getElem?_cons_zero]; rfl)
           · exact fun _ _ _ h => h
           · first | rfl | (go_simp; done)
           · (intro x_ hx; (try dsimp only at hx); (have q0 := hx.cell c0 id); go_simp; (try rw [if_neg (by omega)]); (try rw [if_pos (by omega)]); (try go_simp); try with_reducible rfl)
           try simp only [Act.put, List.setIfInBounds_toArray, List.set_cons_zero, List.set_cons_succ])
        | (refine Rg.skip (o := ?_) ?_ ?_ ?_ ?_
           rotate_left 1
           · (simp only [List.getElem?_toArray, List.getElem?_cons_succ, List.getElem?_cons_zero]; rfl)
           · exact fun _ _ _ h => h
           · first | rfl | (go_simp; done)
           try simp only [Act.put, List.setIfInBounds_toArray, List.set_cons_zero, List.set_cons_succ]))
      refine Rg.e (o := ?_) ?_ ?_
      rotate_left 1
      · (simp only [List.getElem?_toArray, List.getElem?_cons_succ, List.getElem?_cons_zero]; rfl)
      intro K hK
      go_simp
      refine (number_calls (HG.out.no (F8.out.none (Fr.refl No w8).drew)) (HE.out.no (Fr.refl No w8).drew)).mono ?_
      rintro en x1 ⟨rfl, hf⟩
      have K1 : Aside0 (Fr No w8 x1) := ⟨((Fr.refl No w8).drew).none hf⟩
      clear hf
      rw [show noE (some (L.length, 81)) = 81 from rfl]
      go_simp
      refine hK.out _ _ (fun _ x => Fr No w8 x) (fun k x hk h => h) ?_ ?_
      · exact fun _ _ => K1.out
      try simp only [Act.put, List.setIfInBounds_toArray, List.set_cons_zero, List.set_cons_succ]
      repeat (first
        | (refine Rg.q (o := ?_) (v := ?_) ?_ ?_ ?_ ?_ ?_
           rotate_left 2
           · (simp only [List.getElem?_toArray, List.getElem?_cons_succ, List.getElem?_cons_zero]; rfl)
           · exact fun _ _ _ h => h
           · first | rfl | (go_simp; done)
           · (intro x_ hx; (try dsimp only at hx); (have q0 := hx.cell c0 id); go_simp; (try rw [if_neg (by omega)]); (try rw [if_pos (by omega)]); (try go_simp); try with_reducible rfl)
           try simp only [Act.put, List.setIfInBounds_toArray, List.set_cons_zero, List.set_cons_succ])
        | (refine Rg.skip (o := ?_) ?_ ?_ ?_ ?_
           rotate_left 1
           · (simp only [List.getElem?_toArray, List.getElem?_cons_succ, List.getElem?_cons_zero]; rfl)
           · exact fun _ _ _ h => h
           · first | rfl | (go_simp; done)
           try simp only [Act.put, List.setIfInBounds_toArray, List.set_cons_zero, List.set_cons_succ]))
      refine Rg.e (o := ?_) ?_ ?_
      rotate_left 1
      · (simp only [List.getElem?_toArray, List.getElem?_cons_succ, List.getElem?_cons_zero]; rfl)
      intro K hK
      go_simp
      refine (place_calls (HG.out.no (F8.out.none K1.out)) (HE.out.no K1.out)).mono ?_
      rintro en x2 ⟨rfl, hf⟩
      have K2 : Aside0 (Fr No w8 x2) := ⟨K1.out.none hf⟩
      clear hf
      rw [show plE (some (L.length, 81)) = ((fs.length : Nat) : Int) from by rw [← hll]; rfl]
      go_simp
      refine hK.out _ _ (fun _ x => Fr No w8 x) (fun k x hk h => h) ?_ ?_
      · exact fun _ _ => K2.out
      try simp only [Act.put, List.setIfInBounds_toArray, List.set_cons_zero, List.set_cons_succ]
      repeat (first
        | (refine Rg.q (o := ?_) (v := ?_) ?_ ?_ ?_ ?_ ?_
           rotate_left 2
           · (simp only [List.getElem?_toArray, List.getElem?_cons_succ, List.getElem?_cons_zero]; rfl)
           · exact fun _ _ _ h => h
           · first | rfl | (go_simp; done)
           · (intro x_ hx; (try dsimp only at hx); (have q0 := hx.cell c0 id); go_simp; (try rw [if_neg (by omega)]); (try rw [if_pos (by omega)]); (try go_simp); try with_reducible rfl)
           try simp only [Act.put, List.setIfInBounds_toArray, List.set_cons_zero, List.set_cons_succ])
        | (refine Rg.skip (o := ?_) ?_ ?_ ?_ ?_
           rotate_left 1
           · (simp only [List.getElem?_toArray, List.getElem?_cons_succ, List.getElem?_cons_zero]; rfl)
           · exact fun _ _ _ h => h
           · first | rfl | (go_simp; done)
           try simp only [Act.put, List.setIfInBounds_toArray, List.set_cons_zero, List.set_cons_succ]))
      refine Rg.done ?_
      go_simp
      go_wp2
      go_ret
      exact ⟨rfl, F8.out.none K2.out⟩
    · rcases (by omega : k < 0 ∨ (¬ k < 0 ∧ 31 < k)) with h3 | ⟨h3, h4⟩
      · clear hk
        go_wp2
        go_ret
        exact ⟨rfl, F6.out⟩
      · clear hk
        go_wp2
        go_ret
        exact ⟨rfl, F6.out⟩

theorem walk (vb : Value) (b : List UInt8) (vd : Value) (d : List UInt8) (k : Int) (w : World) (hg : Gl w) (hb : RdB w vb b ∧ b.length ≤ reach) (hd : RdB w vd d ∧ d.length ≤ reach) (hk : (Lit.int .i64 k).wf = true) : Calls Tryd.prog 7 #[vb, vd, .int .i64 k] w fun e w' => e = .returned (.bool true) ∧ Fr No w w' := by
  by_cases h : 1000 < b.length ∨ 1000 < d.length
  · exact walk_out vb b vd d k w hb.1 hd.1 h
  · exact walk_ok vb b vd d k w hg hb.1 hd.1 (by omega) (by omega)
end Go.Proofs.YtnfneokmiopieaaDoor.LPatchWhole
