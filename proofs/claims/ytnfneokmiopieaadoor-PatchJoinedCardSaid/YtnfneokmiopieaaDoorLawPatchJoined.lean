/- The walk of the law PatchJoined. -/
import Derived.Test.YtnfneokmiopieaaDoorLawPatchJoins
import Derived.Test.YtnfneokmiopieaaDoorLiftP
set_option linter.unusedVariables false
set_option linter.unusedSimpArgs false
namespace Go.Proofs.YtnfneokmiopieaaDoor.LPatchJoined
open Go.RowKit Go.IntWalk Go.Proofs.YtnfneokmiopieaaDoorW.PrintWords Go.Proofs.YtnfneokmiopieaaDoor.B Go.Proofs.YtnfneokmiopieaaDoor.PB Go.Proofs.YtnfneokmiopieaaDoor.Err Go.Proofs.YtnfneokmiopieaaDoor.SBlk Go.Proofs.YtnfneokmiopieaaDoor.STell Go.Proofs.YtnfneokmiopieaaDoor.SJoin Go.Proofs.YtnfneokmiopieaaDoor.Tk Go.Proofs.YtnfneokmiopieaaDoor.Pat Go.Proofs.YtnfneokmiopieaaDoor.Blk Go.Proofs.YtnfneokmiopieaaDoor.Bk Go.Proofs.YtnfneokmiopieaaDoor.LPatchJoins

/-! ### what tokens make, in parts: plain -/
theorem step_cases (old : List UInt8) (size : Int) (t : Tok) : (∃ e, e ≠ 0 ∧ ∀ out, stepJ old size out t = (e, [])) ∨ ∃ add, ∀ out, stepJ old size out t = if 65536 < out.length + add.length then (2, []) else (0, out ++ add) := by
  unfold stepJ
  by_cases h1 : t.2.1 < 0 ∨ t.1 < 0 ∨ (0 < t.2.1 ∧ t.2.2 ≠ [])
  · exact .inl ⟨80, by decide, fun out => by rw [if_pos h1]⟩
  by_cases h2 : 0 < t.2.1
  · by_cases h3 : countI old.length size ≤ t.1 ∨ countI old.length size - t.1 < t.2.1
    · exact .inl ⟨1, by decide, fun out => by rw [if_neg h1, if_pos h2, if_pos h3]⟩
    · exact .inr ⟨blkB old size t.1 t.2.1, fun out => by rw [if_neg h1, if_pos h2, if_neg h3]⟩
  · exact .inr ⟨t.2.2, fun out => by rw [if_neg h1, if_neg h2]⟩
theorem joinL_app {old : List UInt8} {size : Int} : ∀ (L M : List Tok) (i : Nat) (out : List UInt8), joinL old size i out (L ++ M) = if (joinL old size i out L).2.1 = 0 then joinL old size (i + L.length) (joinL old size i out L).1 M else joinL old size i out L
  | [], M, i, out => by
    rw [List.nil_append, joinL, if_pos rfl]; rfl
  | t :: L, M, i, out => by
    rw [List.cons_append, joinL, joinL]
    by_cases h : (stepJ old size out t).1 = 0
    · rw [if_pos h, if_pos h, joinL_app L M (i + 1), List.length_cons, show i + 1 + L.length = i + (L.length + 1) by omega]
    · rw [if_neg h, if_neg h, if_neg h]
theorem joinL_mono {old : List UInt8} {size : Int} : ∀ (L : List Tok) (i : Nat) (x : List UInt8), (joinL old size i x L).2.1 = 0 → x.length ≤ (joinL old size i x L).1.length
  | [], _, x, _ => Nat.le_refl _
  | t :: L, i, x, h => by
    rw [joinL] at h ⊢
    by_cases h0 : (stepJ old size x t).1 = 0
    · rw [if_pos h0] at h ⊢
      have := joinL_mono L (i + 1) _ h
      refine Nat.le_trans ?_ this
      rcases step_cases old size t with ⟨e, he, hs⟩ | ⟨add, hs⟩
      · rw [hs] at h0; exact absurd h0 he
      · rw [hs] at h0 ⊢
        split
        · rename_i h9; rw [if_pos h9] at h0; exact absurd h0 (by decide)
        · show x.length ≤ (x ++ add).length; rw [List.length_append]; omega
    · rw [if_neg h0] at h
      exact absurd h h0
theorem joinL_bad {old : List UInt8} {size : Int} : ∀ (L : List Tok) (i j : Nat) (x y : List UInt8), x.length ≤ y.length → (joinL old size i x L).2.1 ≠ 0 → (joinL old size j y L).2.1 ≠ 0
  | [], _, _, _, _, _, h => absurd rfl h
  | t :: L, i, j, x, y, hl, h => by
    rw [joinL] at h ⊢
    rcases step_cases old size t with ⟨e, he, hs⟩ | ⟨add, hs⟩
    · rw [hs, if_neg he]; exact he
    · rw [hs] at h ⊢
      by_cases h1 : 65536 < y.length + add.length
      · rw [if_pos h1, if_neg (by decide)]; show (2 : Int) ≠ 0; decide
      · rw [if_neg (show ¬ 65536 < x.length + add.length by omega), if_pos rfl] at h
        rw [if_neg h1, if_pos rfl]
        exact joinL_bad L (i + 1) (j + 1) (x ++ add) (y ++ add) (by rw [List.length_append, List.length_append]; omega) h
theorem joinL_two {old : List UInt8} {size : Int} : ∀ (L : List Tok) (i j : Nat) (x a : List UInt8), (joinL old size i x L).2.1 = 0 → a.length + x.length ≤ 65536 →
    (65536 < a.length + (joinL old size i x L).1.length ∧ (joinL old size j (a ++ x) L).2.1 = 2) ∨ joinL old size j (a ++ x) L = (a ++ (joinL old size i x L).1, 0, 0)
  | [], _, _, _, _, _, _ => .inr rfl
  | t :: L, i, j, x, a, h, hl => by
    rw [joinL] at h ⊢
    rw [joinL]
    rcases step_cases old size t with ⟨e, he, hs⟩ | ⟨add, hs⟩
    · rw [hs, if_neg he] at h; exact absurd h he
    · rw [hs] at h ⊢
      rw [hs]
      by_cases h1 : 65536 < x.length + add.length
      · rw [if_pos h1, if_neg (by decide)] at h
        exact absurd h (by show (2 : Int) ≠ 0; decide)
      · rw [if_neg h1, if_pos rfl] at h ⊢
        by_cases h2 : 65536 < (a ++ x).length + add.length
        · rw [if_pos h2, if_neg (by decide)]
          refine .inl ⟨?_, rfl⟩
          have h3 := joinL_mono L (i + 1) _ h
          dsimp only at h3 ⊢
          rw [List.length_append] at h2 h3
          omega
        · rw [if_neg h2, if_pos rfl]
          rw [List.append_assoc]
          refine joinL_two L (i + 1) (j + 1) (x ++ add) a h ?_
          rw [List.length_append] at h2 ⊢
          omega
/-- What two lists of tokens make, one behind the other. -/
theorem join_cases (old : List UInt8) (size : Int) (L M : List Tok) :
    ((joinR old size L).2.1 ≠ 0 ∧ joinR old size (L ++ M) = joinR old size L) ∨
    ((joinR old size L).2.1 = 0 ∧ (joinR old size M).2.1 ≠ 0 ∧ (joinR old size (L ++ M)).2.1 ≠ 0) ∨
    ((joinR old size L).2.1 = 0 ∧ (joinR old size M).2.1 = 0 ∧ 65536 < (joinR old size L).1.length + (joinR old size M).1.length ∧ (joinR old size (L ++ M)).2.1 = 2) ∨
    ((joinR old size L).2.1 = 0 ∧ (joinR old size M).2.1 = 0 ∧ joinR old size (L ++ M) = ((joinR old size L).1 ++ (joinR old size M).1, 0, 0)) := by
  unfold joinR
  rw [joinL_app]
  by_cases h1 : (joinL old size 0 [] L).2.1 = 0
  · rw [if_pos h1]
    by_cases h2 : (joinL old size 0 [] M).2.1 = 0
    · have hl := joinL_len (old := old) (size := size) L 0 [] (Nat.zero_le _)
      rcases joinL_two M 0 (0 + L.length) [] (joinL old size 0 [] L).1 h2 (by rw [List.length_nil]; omega) with ⟨h3, h4⟩ | h3
      · rw [List.append_nil] at h4; exact .inr (.inr (.inl ⟨h1, h2, h3, h4⟩))
      · rw [List.append_nil] at h3; exact .inr (.inr (.inr ⟨h1, h2, h3⟩))
    · exact .inr (.inl ⟨h1, h2, joinL_bad M 0 _ [] _ (Nat.zero_le _) h2⟩)
  · rw [if_neg h1]
    exact .inl ⟨h1, rfl⟩

/-- A row of tokens that was begun behind w0, which stays as it was. -/
structure OnT (w0 w : World) (v : Value) (fs : List TV) : Prop where
  own : Ow fT 52 w v fs
  new : ∀ q, v.ownBlock = some q → w0.heap.size ≤ q
  fr : Fr No w0 w
theorem OnT.step {w0 w w' : World} {v v' : Value} {xs ys : List TV} (h : OnT w0 w v xs) (ho : Ow fT 52 w' v' ys) (k : Fr (blk v) w w') (ha : At w v v') : OnT w0 w' v' ys :=
  ⟨ho, fun q hq => by
    rcases ha with h9 | ⟨q', h9, h10⟩
    · exact h.new q (h9 ▸ hq)
    · rw [hq] at h9; injection h9 with h9; have := h.fr.size; omega, h.fr.trans k (fun q hq hb => absurd (h.new q hb) (by omega))⟩
theorem ownT_empty (W : World) : OnT W (W.alloc (.cells #[] 52)) (.slice (some ⟨W.heap.size, 0, none⟩) 0 0) [] :=
  ⟨World.ownsRow_made (base := 0) (e := 52) (size := 3) W #[] 0 (Nat.zero_le _) (by simp) rfl, fun q hq => Nat.le_of_eq (by simpa [Value.ownBlock] using hq), (Fr.refl _ _).alloc _⟩

set_option maxHeartbeats 8000000 in
set_option maxRecDepth 100000 in
theorem walk (vb : Value) (b : List UInt8) (size : Int) (v0 : Value) (f0 : List TV) (v1 : Value) (f1 : List TV) (w : World) (hg : Gl w) (hb : RdB w vb b ∧ b.length ≤ reach) (hs : (Lit.int .i64 size).wf = true) (hl : (Rd fT w v0 f0 ∧ ∀ e ∈ f0, e.ok w) ∧ (Rd fT w v1 f1 ∧ ∀ e ∈ f1, e.ok w)) : Calls Tryd.prog 6 #[vb, .int .i64 size, .agg #[v0, v1]] w fun e w' => e = .returned (.bool true) ∧ Fr No w w' := by
  obtain ⟨⟨hv0, hok0⟩, hv1, hok1⟩ := hl
  obtain ⟨hbr, _⟩ := hb
  have hsz := (bounds_i64 hs).2
  obtain ⟨A, c, rfl, _⟩ := id hbr
  obtain ⟨A0, c0, rfl, _⟩ := id hv0
  obtain ⟨A1, c1, rfl, _⟩ := id hv1
  have HB := Aside0.mk hbr; have HV0 := Aside0.mk hv0; have HOK0 := Aside0.mk hok0; have HV1 := Aside0.mk hv1; have HOK1 := Aside0.mk hok1; have HG := Aside0.mk hg
  clear hbr hv0 hok0 hv1 hok1 hg
  go_enter Tryd.func6, Tryd.ntmps6
  go_upto_region 1 with fail
  refine name_alloc (fun wa h5 f5 => ?_)
  have XS := Aside0.mk h5
  have F0 : Aside0 (Fr No w wa) := ⟨f5⟩
  clear h5 f5
  obtain ⟨g, hgg⟩ : ∃ g, w.heap.size = g := ⟨_, rfl⟩
  rw [hgg] at XS ⊢
  clear hgg
  go_wp2_with fail
  refine (sends_calls wa).mono ?_
  rintro e w1 ⟨rfl, hf⟩
  have F1 : Aside0 (Fr No w w1) := ⟨F0.out.none hf⟩
  have XS1 := Aside0.mk (hf.heap XS.out id)
  have d0 : w1.cell? ⟨g, 0, Option.none⟩ = some (.slice A0 f0.length c0) := by rw [blk_cell XS1.out]; rfl
  clear hf XS
  go_wp2_with fail
  refine (fits_calls (.slice A b.length c) (.slice A0 f0.length c0) b size f0 w1 (HB.out.no F1.out) (HV0.out.no F1.out) (fun e he => ⟨(HOK0.out e he).1.no F1.out, (HOK0.out e he).2⟩)).mono ?_
  rintro e w2 ⟨⟨B0, rfl, hB0⟩, hf⟩
  have F2 : Aside0 (Fr No w w2) := ⟨F1.out.none hf⟩
  have XS2 := Aside0.mk (hf.heap XS1.out id)
  clear hf d0 XS1
  cases B0 with
  | false =>
    clear hB0
    go_wp2
    go_ret
    exact ⟨rfl, F2.out⟩
  | true =>
  obtain ⟨a1, a2, a3⟩ := hB0 rfl
  clear hB0
  have HA3 := Aside0.mk a3
  clear a3
  have d1 : w2.cell? ⟨g, 1, Option.none⟩ = some (.slice A1 f1.length c1) := by rw [blk_cell XS2.out]; rfl
  go_wp2_with fail
  refine (fits_calls (.slice A b.length c) (.slice A1 f1.length c1) b size f1 w2 (HB.out.no F2.out) (HV1.out.no F2.out) (fun e he => ⟨(HOK1.out e he).1.no F2.out, (HOK1.out e he).2⟩)).mono ?_
  rintro e w3 ⟨⟨B1, rfl, hB1⟩, hf⟩
  have F3 : Aside0 (Fr No w w3) := ⟨F2.out.none hf⟩
  have XS3 := Aside0.mk (hf.heap XS2.out id)
  clear hf d1 XS2
  cases B1 with
  | false =>
    clear hB1
    go_wp2
    go_ret
    exact ⟨rfl, F3.out⟩
  | true =>
  obtain ⟨_, b2, b3⟩ := hB1 rfl
  clear hB1
  have HB3 := Aside0.mk b3
  clear b3
  have hj : Aside0 (∀ (vo vl : Value) (fs : List TV) (W : World), Fr No w W → RdB W vo b → Rd fT W vl fs → fs.length ≤ 60 → (∀ e ∈ fs, e ∈ f0 ∨ e ∈ f1) → Calls Tryd.prog 10 #[vo, .int .i64 size, vl] W fun e w' => ∃ v ev, e = .returned (.tuple #[v, ev]) ∧ On W w' v (joinR b size (fs.map TV.tok)).1 ∧ IsErr w' ev (errJ (joinR b size (fs.map TV.tok)))) := ⟨fun vo vl fs W q0 q1 q2 q3 q4 =>
    (join_calls vo vl b size fs W q1 q2 (fun e he => by
      rcases q4 e he with h | h
      · exact (HOK0.out e h).1.no q0
      · exact (HOK1.out e h).1.no q0) (by omega) (by omega) hsz (fun e he => by
      rcases q4 e he with h | h
      · have := (HA3.out e h).1; omega
      · have := (HB3.out e h).1; omega) (fun e he => by
      rcases q4 e he with h | h
      · have := (HA3.out e h).2; omega
      · have := (HB3.out e h).2; omega)).mono fun e w' ⟨v, ev, h1, h2, h3, _⟩ => ⟨v, ev, h1, h2, h3⟩⟩
  have hcs := join_cases b size (f0.map TV.tok) (f1.map TV.tok)
  rw [← List.map_append] at hcs
  have k0 := joinL_len (old := b) (size := size) (f0.map TV.tok) 0 [] (Nat.zero_le _)
  have k1 := joinL_len (old := b) (size := size) (f1.map TV.tok) 0 [] (Nat.zero_le _)
  have kc := joinL_code (old := b) (size := size) ((f0 ++ f1).map TV.tok) 0 []
  change (joinR b size (f0.map TV.tok)).1.length ≤ 65536 at k0
  change (joinR b size (f1.map TV.tok)).1.length ≤ 65536 at k1
  change 0 ≤ (joinR b size ((f0 ++ f1).map TV.tok)).2.1 at kc
  have HJ0 := Aside0.mk (fun vo vl W q0 q1 q2 => hj.out vo vl f0 W q0 q1 q2 (by omega) (fun e he => .inl he))
  have HJ1 := Aside0.mk (fun vo vl W q0 q1 q2 => hj.out vo vl f1 W q0 q1 q2 (by omega) (fun e he => .inr he))
  have HJA := Aside0.mk (fun vo vl W q0 q1 q2 => hj.out vo vl (f0 ++ f1) W q0 q1 q2 (by rw [List.length_append]; omega) (fun e he => List.mem_append.1 he))
  have HJN := Aside0.mk (fun vo vl W q0 q1 q2 => hj.out vo vl [] W q0 q1 q2 (by simp) (fun e he => by cases he))
  clear hj HA3 HB3
  obtain ⟨J0, hJ0⟩ : ∃ J, joinR b size (f0.map TV.tok) = J := ⟨_, rfl⟩
  obtain ⟨J1, hJ1⟩ : ∃ J, joinR b size (f1.map TV.tok) = J := ⟨_, rfl⟩
  obtain ⟨JA, hJA⟩ : ∃ J, joinR b size ((f0 ++ f1).map TV.tok) = J := ⟨_, rfl⟩
  simp only [hJ0, hJ1, hJA] at hcs k0 k1 kc HJ0 HJ1 HJA
  have HCS := Aside0.mk hcs; have KC := Aside0.mk kc
  clear hJ0 hJ1 hJA hcs kc
  have d0 : w3.cell? ⟨g, 0, Option.none⟩ = some (.slice A0 f0.length c0) := by rw [blk_cell XS3.out]; rfl
  go_wp2_with fail
  refine (HJ0.out (.slice A b.length c) (.slice A0 f0.length c0) w3 F3.out (HB.out.no F3.out) (HV0.out.no F3.out)).mono ?_
  rintro e w4 ⟨va, ea, rfl, hN0, hE0⟩
  obtain ⟨Aa, ca, rfl⟩ := hN0.own.form
  have F4 : Aside0 (Fr No w w4) := ⟨F3.out.none hN0.fr⟩
  have XS4 := Aside0.mk (hN0.fr.heap XS3.out id)
  have HN0 := Aside0.mk hN0; have HE0 := Aside0.mk hE0
  have d1 : w4.cell? ⟨g, 1, Option.none⟩ = some (.slice A1 f1.length c1) := by rw [blk_cell XS4.out]; rfl
  clear hN0 hE0 d0 XS3 HJ0
  go_wp2_with fail
  refine (HJ1.out (.slice A b.length c) (.slice A1 f1.length c1) w4 F4.out (HB.out.no F4.out) (HV1.out.no F4.out)).mono ?_
  rintro e w5 ⟨vb, eb, rfl, hN1, hE1⟩
  obtain ⟨Ab, cb, rfl⟩ := hN1.own.form
  have F5 : Aside0 (Fr No w w5) := ⟨F4.out.none hN1.fr⟩
  have XS5 := Aside0.mk (hN1.fr.heap XS4.out id)
  have HN1 := Aside0.mk hN1; have HE1 := Aside0.mk hE1
  have HN05 := Aside0.mk (HN0.out.no hN1.fr); have HE05 := Aside0.mk (HE0.out.no hN1.fr)
  clear hN1 hE1 d1 XS4 HJ1 HN0 HE0
  go_wp2_with fail
  have D0 : Aside0 (w5.drew.cell? ⟨g, 0, Option.none⟩ = some (.slice A0 f0.length c0)) := ⟨(Fr.refl No w5).drew.cell (by rw [blk_cell XS5.out]; rfl) id⟩
  have D1 : Aside0 (w5.drew.cell? ⟨g, 1, Option.none⟩ = some (.slice A1 f1.length c1)) := ⟨(Fr.refl No w5).drew.cell (by rw [blk_cell XS5.out]; rfl) id⟩
  have FD : Aside0 (Fr No w5 w5.drew) := ⟨(Fr.refl No w5).drew⟩
  refine Rg.start (fun _ x => x.cell? ⟨g, 0, Option.none⟩ = some (.slice A0 f0.length c0) ∧ x.cell? ⟨g, 1, Option.none⟩ = some (.slice A1 f1.length c1)) (by kernel_rfl) (by kernel_rfl) [2, 5, 8, 9] [[2], [3, 4, 2, 5], [6, 7, 3, 4, 2, 5, 8], [6, 7, 3, 4, 2, 5, 8, 1, 0, 9]] (by kernel_rfl) (.q 0 3 (.q 1 3 (.q 3 1 (.q 4 1 (.q 6 2 (.q 7 2 (.e 2 1 (.e 5 2 (.e 8 3 (.e 9 4 (.q 10 4 (.q 11 4 (.q 12 4 (.q 13 4 (.q 14 4 (.done)))))))))))))))) (by kernel_rfl) ?_ ?_
  · exact fun _ => ⟨D0.out, D1.out⟩
  generalize w5.drew = wd at D0 D1 FD ⊢
  repeat (first
    | (refine Rg.q (o := ?_) (v := ?_) ?_ ?_ ?_ ?_ ?_
       rotate_left 2
       · (simp only [List.getElem?_toArray, List.getElem?_cons_succ, List.getElem?_cons_zero]; rfl)
       · exact fun _ _ _ h => h
       · first | rfl | (go_simp; done)
       · (intro x_ hx; (try dsimp only at hx); (have q0 := hx.1; have q1 := hx.2); go_simp; (try rw [if_neg (by omega)]); (try rw [if_pos (by omega)]); (try go_simp); try with_reducible rfl)
       try simp only [Act.put, List.setIfInBounds_toArray, List.set_cons_zero, List.set_cons_succ])
    | (refine Rg.skip (o := ?_) ?_ ?_ ?_ ?_
       rotate_left 1
       · (simp only [List.getElem?_toArray, List.getElem?_cons_succ, List.getElem?_cons_zero]; rfl)
       · exact fun _ _ _ h => h
       · first | rfl | (go_simp; done)
       try simp only [Act.put, List.setIfInBounds_toArray, List.set_cons_zero, List.set_cons_succ]))
  refine Rg.e (o := ?_) ?_ ?_
  rotate_left 1
  · (simp only [List.getElem?_toArray, List.getElem?_cons_succ, List.getElem?_cons_zero]; rfl)
  intro K hK
  go_simp
  have N0 := Aside0.mk (ownT_empty wd)
  have D0' : Aside0 ((wd.alloc (.cells #[] 52)).cell? ⟨g, 0, Option.none⟩ = some (.slice A0 f0.length c0)) := ⟨N0.out.fr.cell D0.out id⟩
  have D1' : Aside0 ((wd.alloc (.cells #[] 52)).cell? ⟨g, 1, Option.none⟩ = some (.slice A1 f1.length c1)) := ⟨N0.out.fr.cell D1.out id⟩
  generalize wd.alloc (.cells #[] 52) = x1 at N0 D0' D1' ⊢
  obtain ⟨ge, hge⟩ : ∃ ge, wd.heap.size = ge := ⟨_, rfl⟩
  rw [hge] at N0 ⊢
  clear hge
  refine hK.out _ _ (fun _ x => x.cell? ⟨g, 0, Option.none⟩ = some (.slice A0 f0.length c0) ∧ x.cell? ⟨g, 1, Option.none⟩ = some (.slice A1 f1.length c1)) (fun k x hk h => h) ?_ ?_
  · exact fun _ _ => ⟨D0'.out, D1'.out⟩
  try simp only [Act.put, List.setIfInBounds_toArray, List.set_cons_zero, List.set_cons_succ]
  repeat (first
    | (refine Rg.q (o := ?_) (v := ?_) ?_ ?_ ?_ ?_ ?_
       rotate_left 2
       · (simp only [List.getElem?_toArray, List.getElem?_cons_succ, List.getElem?_cons_zero]; rfl)
       · exact fun _ _ _ h => h
       · first | rfl | (go_simp; done)
       · (intro x_ hx; (try dsimp only at hx); (have q0 := hx.1; have q1 := hx.2); go_simp; (try rw [if_neg (by omega)]); (try rw [if_pos (by omega)]); (try go_simp); try with_reducible rfl)
       try simp only [Act.put, List.setIfInBounds_toArray, List.set_cons_zero, List.set_cons_succ])
    | (refine Rg.skip (o := ?_) ?_ ?_ ?_ ?_
       rotate_left 1
       · (simp only [List.getElem?_toArray, List.getElem?_cons_succ, List.getElem?_cons_zero]; rfl)
       · exact fun _ _ _ h => h
       · first | rfl | (go_simp; done)
       try simp only [Act.put, List.setIfInBounds_toArray, List.set_cons_zero, List.set_cons_succ]))
  refine Rg.e (o := ?_) ?_ ?_
  rotate_left 1
  · (simp only [List.getElem?_toArray, List.getElem?_cons_succ, List.getElem?_cons_zero]; rfl)
  intro K hK
  rw [if_pos (by first | rfl | (go_simp; done))]
  refine opN (f := fT) (.tmp 50) (.tmp 52) 23 52 (.agg #[.int .i64 0, .int .i64 0, .slice none 0 0]) 40 rfl Tryd.underlying23 infoT rfl (by decide) (by decide) (.slice (some ⟨ge, 0, none⟩) 0 0) [] (.slice A0 f0.length c0) f0 rfl rfl N0.out.own (((HV0.out.no F5.out).no FD.out).no N0.out.fr) (by simp; omega) ?_
  intro y1 x2 i1 i2 i3 i4
  have N1 : Aside0 (OnT wd x2 y1 ([] ++ f0)) := ⟨N0.out.step i1 i2 i3⟩
  rw [List.nil_append] at N1
  have D0'' : Aside0 (x2.cell? ⟨g, 0, Option.none⟩ = some (.slice A0 f0.length c0)) := ⟨N1.out.fr.cell D0.out id⟩
  have D1'' : Aside0 (x2.cell? ⟨g, 1, Option.none⟩ = some (.slice A1 f1.length c1)) := ⟨N1.out.fr.cell D1.out id⟩
  clear i1 i2 i3 i4
  refine hK.out _ _ (fun _ x => x.cell? ⟨g, 0, Option.none⟩ = some (.slice A0 f0.length c0) ∧ x.cell? ⟨g, 1, Option.none⟩ = some (.slice A1 f1.length c1)) (fun k x hk h => h) ?_ ?_
  · exact fun _ _ => ⟨D0''.out, D1''.out⟩
  try simp only [Act.put, List.setIfInBounds_toArray, List.set_cons_zero, List.set_cons_succ]
  repeat (first
    | (refine Rg.q (o := ?_) (v := ?_) ?_ ?_ ?_ ?_ ?_
       rotate_left 2
       · (simp only [List.getElem?_toArray, List.getElem?_cons_succ, List.getElem?_cons_zero]; rfl)
       · exact fun _ _ _ h => h
       · first | rfl | (go_simp; done)
       · (intro x_ hx; (try dsimp only at hx); (have q0 := hx.1; have q1 := hx.2); go_simp; (try rw [if_neg (by omega)]); (try rw [if_pos (by omega)]); (try go_simp); try with_reducible rfl)
       try simp only [Act.put, List.setIfInBounds_toArray, List.set_cons_zero, List.set_cons_succ])
    | (refine Rg.skip (o := ?_) ?_ ?_ ?_ ?_
       rotate_left 1
       · (simp only [List.getElem?_toArray, List.getElem?_cons_succ, List.getElem?_cons_zero]; rfl)
       · exact fun _ _ _ h => h
       · first | rfl | (go_simp; done)
       try simp only [Act.put, List.setIfInBounds_toArray, List.set_cons_zero, List.set_cons_succ]))
  refine Rg.e (o := ?_) ?_ ?_
  rotate_left 1
  · (simp only [List.getElem?_toArray, List.getElem?_cons_succ, List.getElem?_cons_zero]; rfl)
  intro K hK
  rw [if_pos (by first | rfl | (go_simp; done))]
  refine opN (f := fT) (.tmp 53) (.tmp 55) 23 52 (.agg #[.int .i64 0, .int .i64 0, .slice none 0 0]) 40 rfl Tryd.underlying23 infoT rfl (by decide) (by decide) y1 f0 (.slice A1 f1.length c1) f1 rfl rfl N1.out.own (((HV1.out.no F5.out).no FD.out).no N1.out.fr) (by omega) ?_
  intro y2 x3 i1 i2 i3 i4
  have N2 : Aside0 (OnT wd x3 y2 (f0 ++ f1)) := ⟨N1.out.step i1 i2 i3⟩
  have E0 : Aside0 (x3.cell? ⟨g, 0, Option.none⟩ = some (.slice A0 f0.length c0)) := ⟨N2.out.fr.cell D0.out id⟩
  have E1 : Aside0 (x3.cell? ⟨g, 1, Option.none⟩ = some (.slice A1 f1.length c1)) := ⟨N2.out.fr.cell D1.out id⟩
  clear i1 i2 i3 i4 D0 D1 D0' D1' D0'' D1''
  refine hK.out _ _ (fun _ x => x.cell? ⟨g, 0, Option.none⟩ = some (.slice A0 f0.length c0) ∧ x.cell? ⟨g, 1, Option.none⟩ = some (.slice A1 f1.length c1)) (fun k x hk h => h) ?_ ?_
  · exact fun _ _ => ⟨E0.out, E1.out⟩
  try simp only [Act.put, List.setIfInBounds_toArray, List.set_cons_zero, List.set_cons_succ]
  repeat (first
    | (refine Rg.q (o := ?_) (v := ?_) ?_ ?_ ?_ ?_ ?_
       rotate_left 2
       · (simp only [List.getElem?_toArray, List.getElem?_cons_succ, List.getElem?_cons_zero]; rfl)
       · exact fun _ _ _ h => h
       · first | rfl | (go_simp; done)
       · (intro x_ hx; (try dsimp only at hx); (have q0 := hx.1; have q1 := hx.2); go_simp; (try rw [if_neg (by omega)]); (try rw [if_pos (by omega)]); (try go_simp); try with_reducible rfl)
       try simp only [Act.put, List.setIfInBounds_toArray, List.set_cons_zero, List.set_cons_succ])
    | (refine Rg.skip (o := ?_) ?_ ?_ ?_ ?_
       rotate_left 1
       · (simp only [List.getElem?_toArray, List.getElem?_cons_succ, List.getElem?_cons_zero]; rfl)
       · exact fun _ _ _ h => h
       · first | rfl | (go_simp; done)
       try simp only [Act.put, List.setIfInBounds_toArray, List.set_cons_zero, List.set_cons_succ]))
  refine Rg.e (o := ?_) ?_ ?_
  rotate_left 1
  · (simp only [List.getElem?_toArray, List.getElem?_cons_succ, List.getElem?_cons_zero]; rfl)
  intro K hK
  go_simp
  have F6 : Aside0 (Fr No w x3) := ⟨(F5.out.none FD.out).none N2.out.fr⟩
  refine (HJA.out (.slice A b.length c) y2 x3 F6.out (HB.out.no F6.out) N2.out.own.rd).mono ?_
  rintro en x4 ⟨vl, el, rfl, hN, hE⟩
  obtain ⟨Al, cl, rfl⟩ := hN.own.form
  have K5 : Aside0 (Fr No w5 x4) := ⟨(FD.out.none N2.out.fr).none hN.fr⟩
  have F7 : Aside0 (Fr No w x4) := ⟨F6.out.none hN.fr⟩
  have HNA := Aside0.mk hN; have HEA := Aside0.mk hE
  have E0' := Aside0.mk (hN.fr.cell E0.out id); have E1' := Aside0.mk (hN.fr.cell E1.out id)
  have HN07 := Aside0.mk (HN05.out.no K5.out); have HE07 := Aside0.mk (HE05.out.no K5.out)
  have HN17 := Aside0.mk (HN1.out.no K5.out); have HE17 := Aside0.mk (HE1.out.no K5.out)
  clear hN hE K5 HN05 HE05 HN1 HE1 HJA XS5
  go_simp
  refine hK.out _ _ (fun _ x => x.cell? ⟨g, 0, Option.none⟩ = some (.slice A0 f0.length c0) ∧ x.cell? ⟨g, 1, Option.none⟩ = some (.slice A1 f1.length c1)) (fun k x hk h => h) ?_ ?_
  · exact fun _ _ => ⟨E0'.out, E1'.out⟩
  try simp only [Act.put, List.setIfInBounds_toArray, List.set_cons_zero, List.set_cons_succ]
  repeat (first
    | (refine Rg.q (o := ?_) (v := ?_) ?_ ?_ ?_ ?_ ?_
       rotate_left 2
       · (simp only [List.getElem?_toArray, List.getElem?_cons_succ, List.getElem?_cons_zero]; rfl)
       · exact fun _ _ _ h => h
       · first | rfl | (go_simp; done)
       · (intro x_ hx; (try dsimp only at hx); (have q0 := hx.1; have q1 := hx.2); go_simp; (try rw [if_neg (by omega)]); (try rw [if_pos (by omega)]); (try go_simp); try with_reducible rfl)
       try simp only [Act.put, List.setIfInBounds_toArray, List.set_cons_zero, List.set_cons_succ])
    | (refine Rg.skip (o := ?_) ?_ ?_ ?_ ?_
       rotate_left 1
       · (simp only [List.getElem?_toArray, List.getElem?_cons_succ, List.getElem?_cons_zero]; rfl)
       · exact fun _ _ _ h => h
       · first | rfl | (go_simp; done)
       try simp only [Act.put, List.setIfInBounds_toArray, List.set_cons_zero, List.set_cons_succ]))
  refine Rg.done ?_
  go_simp
  go_wp2_with fail
  refine (HJN.out (.slice A b.length c) (.slice none 0 0) x4 F7.out (HB.out.no F7.out) (Rd.nil _ _)).mono ?_
  rintro e w8 ⟨vn, en, rfl, hN, hE⟩
  obtain ⟨An, cn, rfl⟩ := hN.own.form
  obtain rfl : en = .nilIface := hE
  have F8 : Aside0 (Fr No w w8) := ⟨F7.out.none hN.fr⟩
  have HNA8 := Aside0.mk (HNA.out.no hN.fr); have HEA8 := Aside0.mk (HEA.out.no hN.fr)
  have HN08 := Aside0.mk (HN07.out.no hN.fr); have HE08 := Aside0.mk (HE07.out.no hN.fr)
  have HN18 := Aside0.mk (HN17.out.no hN.fr); have HE18 := Aside0.mk (HE17.out.no hN.fr)
  have hz : (joinR b size (([] : List TV).map TV.tok)).1.length = 0 := rfl
  rw [hz]
  clear hN hz HJN HNA HEA HN07 HE07 HN17 HE17
  obtain ⟨o0, e0, p0⟩ := J0
  obtain ⟨o1, e1, p1⟩ := J1
  obtain ⟨oa, ea', pa⟩ := JA
  dsimp only at HCS HNA8 HEA8 HN08 HE08 HN18 HE18 KC k0 k1 ⊢
  rcases HCS.out with ⟨h1, h2⟩ | ⟨h1, h2, h3⟩ | ⟨h1, h2, h3, h4⟩ | ⟨h1, h2, h3⟩
  · obtain ⟨rfl, rfl, rfl⟩ : oa = o0 ∧ ea' = e0 ∧ pa = p0 := by simpa using h2
    have he : errJ (oa, ea', pa) = some (pa, ea'.toNat) := by unfold errJ; rw [if_neg h1]
    rw [he] at HE08 HEA8
    obtain ⟨b0, rfl, _⟩ := id HE08.out
    clear h1 h2 he
    go_wp2_with fail
    refine (number_calls (HG.out.no F8.out) HEA8.out).mono ?_
    rintro e w9 ⟨rfl, hf⟩
    have F9 : Aside0 (Fr No w w9) := ⟨F8.out.none hf⟩
    have HA9 := Aside0.mk (HEA8.out.no hf); have H09 := Aside0.mk (HE08.out.no hf)
    clear hf HEA8 HE08
    go_wp2_with fail
    refine (number_calls (HG.out.no F9.out) H09.out).mono ?_
    rintro e w10 ⟨rfl, hf⟩
    have F10 : Aside0 (Fr No w w10) := ⟨F9.out.none hf⟩
    have HA10 := Aside0.mk (HA9.out.no hf); have H010 := Aside0.mk (H09.out.no hf)
    clear hf HA9 H09
    go_wp2_with fail
    refine (place_calls (HG.out.no F10.out) HA10.out).mono ?_
    rintro e w11 ⟨rfl, hf⟩
    have F11 : Aside0 (Fr No w w11) := ⟨F10.out.none hf⟩
    have H011 := Aside0.mk (H010.out.no hf)
    clear hf HA10 H010
    go_wp2_with fail
    refine (place_calls (HG.out.no F11.out) H011.out).mono ?_
    rintro e w12 ⟨rfl, hf⟩
    have F12 : Aside0 (Fr No w w12) := ⟨F11.out.none hf⟩
    clear hf H011
    go_wp2
    go_ret
    exact ⟨rfl, F12.out⟩
  · have he0 : errJ (o0, e0, p0) = none := by unfold errJ; rw [if_pos h1]
    have he1 : errJ (o1, e1, p1) = some (p1, e1.toNat) := by unfold errJ; rw [if_neg h2]
    have hea : errJ (oa, ea', pa) = some (pa, ea'.toNat) := by unfold errJ; rw [if_neg h3]
    rw [he0] at HE08
    rw [he1] at HE18
    rw [hea] at HEA8
    obtain rfl : ea = .nilIface := HE08.out
    obtain ⟨b1, rfl, _⟩ := id HE18.out
    obtain ⟨b2, rfl, _⟩ := id HEA8.out
    clear h1 h2 h3 he0 he1 hea
    go_wp2
    go_ret
    exact ⟨rfl, F8.out⟩
  · have he0 : errJ (o0, e0, p0) = none := by unfold errJ; rw [if_pos h1]
    have he1 : errJ (o1, e1, p1) = none := by unfold errJ; rw [if_pos h2]
    obtain rfl : ea' = 2 := h4
    have hea : errJ (oa, 2, pa) = some (pa, 2) := by unfold errJ; rw [if_neg (show ¬ ((2 : Int) = 0) by decide)]; rfl
    rw [he0] at HE08
    rw [he1] at HE18
    rw [hea] at HEA8
    obtain rfl : ea = .nilIface := HE08.out
    obtain rfl : eb = .nilIface := HE18.out
    obtain ⟨b2, rfl, _⟩ := id HEA8.out
    have hw : IntKind.i64.wrap ((o0.length : Int) + (o1.length : Int)) = (o0.length : Int) + (o1.length : Int) := by rw [i64_left]; exact wrap64_in _ (by omega)
    have hb : (65536 : Int) < (o0.length : Int) + (o1.length : Int) := by omega
    clear h1 h2 h3 he0 he1 hea
    go_wp2_with fail
    refine (number_calls (HG.out.no F8.out) HEA8.out).mono ?_
    rw [show noE (some (pa, 2)) = 2 from rfl]
    rintro e w9 ⟨rfl, hf⟩
    have F9 : Aside0 (Fr No w w9) := ⟨F8.out.none hf⟩
    clear hf
    go_wp2
    go_ret
    exact ⟨rfl, F9.out⟩
  · obtain ⟨rfl, rfl, rfl⟩ : oa = o0 ++ o1 ∧ ea' = 0 ∧ pa = 0 := by simpa using h3
    have he0 : errJ (o0, e0, p0) = none := by unfold errJ; rw [if_pos h1]
    have he1 : errJ (o1, e1, p1) = none := by unfold errJ; rw [if_pos h2]
    rw [he0] at HE08
    rw [he1] at HE18
    obtain rfl : ea = .nilIface := HE08.out
    obtain rfl : eb = .nilIface := HE18.out
    obtain rfl : el = .nilIface := HEA8.out
    have hw : IntKind.i64.wrap ((o0.length : Int) + (o1.length : Int)) = (o0.length : Int) + (o1.length : Int) := by rw [i64_left]; exact wrap64_in _ (by omega)
    have q0 : ∀ W, Fr No w8 W → (convert 22 9 (.slice Aa o0.length ca)).run Tryd.prog W = .ok (.string (bstr o0)) W := fun W k => str_of_rd (HN08.out.own.rd.no k)
    have q1 : ∀ W, Fr No w8 W → (convert 22 9 (.slice Ab o1.length cb)).run Tryd.prog W = .ok (.string (bstr o1)) W := fun W k => str_of_rd (HN18.out.own.rd.no k)
    have q2 : ∀ W, Fr No w8 W → (convert 22 9 (.slice Al (o0 ++ o1).length cl)).run Tryd.prog W = .ok (.string (bstr (o0 ++ o1))) W := fun W k => str_of_rd (HNA8.out.own.rd.no k)
    rw [List.length_append] at q2
    clear h1 h2 h3 he0 he1
    by_cases hb : (65536 : Int) < (o0.length : Int) + (o1.length : Int)
    · have HB8 := Aside0.mk hb
      go_wp2_with fail
      refine (number_calls (HG.out.no F8.out) HEA8.out).mono ?_
      rw [show noE (errJ (o0 ++ o1, (0 : Int), (0 : Nat))) = 0 from rfl]
      rintro e w9 ⟨rfl, hf⟩
      have F9 : Aside0 (Fr No w w9) := ⟨F8.out.none hf⟩
      have r0 := q0 w9 hf; have r1 := q1 w9 hf; have r2 := q2 w9 hf
      clear hf q0 q1 q2
      go_wp2
      go_ret
      exact ⟨rfl, F9.out⟩
    · have r0 := q0 w8 (Fr.refl _ _); have r1 := q1 w8 (Fr.refl _ _); have r2 := q2 w8 (Fr.refl _ _)
      clear q0 q1 q2
      go_wp2
      go_ret
      exact ⟨rfl, F8.out⟩
end Go.Proofs.YtnfneokmiopieaaDoor.LPatchJoined
