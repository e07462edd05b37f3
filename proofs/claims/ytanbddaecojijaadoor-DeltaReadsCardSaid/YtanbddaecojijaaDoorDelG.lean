/- delta.Read of any bytes: walked. -/
import Derived.Test.YtanbddaecojijaaDoorDelE
import Derived.Test.YtanbddaecojijaaDoorSpecRD
set_option linter.unusedVariables false
set_option linter.unusedSimpArgs false
namespace Go.Proofs.YtanbddaecojijaaDoor.Tk
open Go.RowKit Go.IntWalk Go.Proofs.YtanbddaecojijaaDoorW.PrintWords Go.Proofs.YtanbddaecojijaaDoor.B Go.Proofs.YtanbddaecojijaaDoor.PB Go.Proofs.YtanbddaecojijaaDoor.STell Go.Proofs.YtanbddaecojijaaDoor.STB Go.Proofs.YtanbddaecojijaaDoor.SCode Go.Proofs.YtanbddaecojijaaDoor.Blk Go.Proofs.YtanbddaecojijaaDoor.Bk

/-- The program's reader stands, whatever else is written. -/
theorem st_far {w w' : World} {g : Nat} {v : Value} {b : List UInt8} {r : R} {S : Nat → Prop} (h : Rdr.St w g v b r) (k : Fr S w w') (h1 : ¬ S g) (h2 : 0 < b.length → ∀ q, v.ownBlock = some q → ¬ S q) (h3 : ∀ q cs, w.heap[q]? = some (.cells cs 99 (0, 0)) → ¬ S q) : Rdr.St w' g v b r := by
  obtain ⟨⟨ev, e1, e2⟩, e3, e4, e5⟩ := h
  exact ⟨⟨ev, k.heap e1 h1, e2.fr k h3⟩, e3.fr k h2, e4, e5⟩
/-- What the loop keeps, as long as nothing went wrong, or once something did. -/
def Gd (w wr : World) (g : Nat) (vb : Value) (b : List UInt8) (RR : Except (Nat × Nat) (List Tok)) (N : Nat) (vo : Value) (i : Nat) : Prop :=
  ∃ (fs : List TV) (a : Nat), Tks wr (g + 1) vo fs ∧ a ≤ b.length ∧ wr.heap[g]? = some (.cells #[vb, .int .i64 (a : Int), .nilIface] 140 (0, 0)) ∧ loopD b (N - i) ⟨a, none⟩ (fs.map TV.tok) = RR ∧ fs.length = i ∧ N ≤ 8192 ∧ Fr No w wr
def Bad (w wr : World) (g : Nat) (vb : Value) (b : List UInt8) (RR : Except (Nat × Nat) (List Tok)) (vo : Value) : Prop :=
  ∃ (fs : List TV) (r : R) (q : Nat × Nat), Tks wr (g + 1) vo fs ∧ Rdr.St wr g vb b r ∧ r.err = some q ∧ RR = .error q ∧ Fr No w wr

set_option maxHeartbeats 16000000 in
set_option maxRecDepth 100000 in
theorem dread_calls (vb : Value) (b : List UInt8) (w : World) (hb : RdB w vb b) (hbl : b.length ≤ 100000) :
    Calls Tryd.prog 16 #[vb] w fun e w' => ∃ vo ev, e = .returned (.tuple #[vo, ev]) ∧ IsErr w' ev (errD (readD b)) ∧ Tl w' w.heap.size vo (tokD (readD b)) ∧ Fr No w w' := by
  obtain ⟨A, c, rfl, hbc, hbm, _⟩ := id hb
  obtain ⟨RR, hRR⟩ : ∃ RR, readD b = RR := ⟨_, rfl⟩
  rw [hRR]
  obtain ⟨⟨r0, N⟩, hp0⟩ : ∃ p, rNum b ⟨0, none⟩ = p := ⟨_, rfl⟩
  have hN := num_le b ⟨0, none⟩
  rw [hp0] at hN
  have hRD : (match r0.err with | some q => .error q | none => if 8192 < N then .error (0, 2) else loopD b N r0 []) = RR := by
    rw [← hRR]; unfold readD; simp only [hp0]; rcases r0 with ⟨_, _ | _⟩ <;> rfl
  have HB := Aside0.mk hb; have HP0 := Aside0.mk hp0; have HRD := Aside0.mk hRD
  (try dsimp only at hN)
  clear hb hp0 hRD hRR
  go_enter Tryd.func16, Tryd.ntmps16
  go_wp2_with fail
  refine (Rdr.read_calls HB.out).mono ?_
  rintro e w1 ⟨rfl, hS, hf⟩
  have F1 : Aside0 (Fr No w w1) := ⟨hf⟩
  have AP := Aside0.mk hS.apart
  have hs1 := Rdr.num_calls hS
  rw [HP0.out] at hs1
  obtain ⟨g, hg⟩ : ∃ g, w.heap.size = g := ⟨_, rfl⟩
  have HG := Aside0.mk hg
  rw [hg] at hs1 AP ⊢
  have HS1 := Aside0.mk hs1
  clear hS hf hs1 hg
  go_wp2_with fail
  refine HS1.out.mono ?_
  rintro e w2 ⟨rfl, hS, hf⟩
  have F2 : Aside0 (Fr No w w2) := ⟨F1.out.trans hf (fun q hq hb => by have e' : q = g := hb; have := HG.out; omega)⟩
  have HS2 := Aside0.mk hS
  clear hS hf
  (try dsimp only)
  go_wp2_with fail
  refine (Rdr.err_calls HS2.out).mono ?_
  rintro e w3 ⟨ev, he, rfl, hw⟩
  subst hw
  obtain ⟨a0, er0⟩ := r0
  have hstart : (∃ q, er0 = some q) ∨ (er0 = none ∧ (8192 : Int) < (N : Int)) ∨ (er0 = none ∧ ¬ (8192 : Int) < (N : Int)) := by
    cases er0 with
    | some q => exact .inl ⟨q, rfl⟩
    | none => rcases (by omega : (8192 : Int) < (N : Int) ∨ ¬ (8192 : Int) < (N : Int)) with h | h
              · exact .inr (.inl ⟨rfl, h⟩)
              · exact .inr (.inr ⟨rfl, h⟩)
  rcases hstart with ⟨q, rfl⟩ | ⟨rfl, hlong⟩ | ⟨rfl, hlong⟩
  case' inr.inl =>
    obtain rfl : ev = .nilIface := he
    have HRE : Aside0 (RR = .error (0, 2)) := ⟨by rw [← HRD.out]; simp only []; rw [if_pos (by omega)]⟩
    (try clear he)
    go_wp2
    (try simp only [Exit.inBlock, Exit.then]); refine bodyPost_ret (results_list (rs := [.tmp 2, .tmp 3]) rfl (by simp) (.tmp (.tmp .nil))) rfl ?_
    rw [HRE.out]
    have F3 := F2.out.alloc (.cells #[.int .i64 0, .int .i64 2] 99)
    exact ⟨_, _, rfl, ⟨w2.heap.size, rfl, by first | exact heap_alloc_new w2 _ | simpa using heap_alloc_new w2 _⟩, Tl.nil _ _, F3⟩
  case' inl =>
    obtain ⟨fb, rfl, hfb⟩ := id he
    have hN0 : N = 0 := by
      have := num_zero (b := b) (r := ⟨0, none⟩) (by rw [HP0.out]; simp)
      rw [HP0.out] at this
      exact this
    subst hN0
    have HRE : Aside0 (RR = .error q) := ⟨HRD.out.symm⟩
    have HEND : Aside0 (∀ W, Rdr.St W g (.slice A b.length c) b ⟨a0, some q⟩ → Calls Tryd.prog 40 #[.pointer (some ⟨g, 0, none⟩)] W fun en w' => (∃ fb, en = .returned (.iface 97 (.pointer (some ⟨fb, 0, none⟩))) ∧ IsErr w' (.iface 97 (.pointer (some ⟨fb, 0, none⟩))) (some q)) ∧ Fr (one g) W w') := ⟨fun W h => by
      refine (Rdr.end_calls h).mono ?_
      rintro e w4 ⟨⟨ev, he, rfl⟩, _, hf⟩
      have he' : IsErr w4 ev (some q) := he
      obtain ⟨fb, rfl, _⟩ := id he'
      exact ⟨⟨fb, rfl, he'⟩, hf⟩⟩
    clear hfb
    (try clear he)
    go_wp2_with fail
    go_loopw [7] (fun v7 wr => v7 = .int .i64 0 ∧ Aside0 (wr = w2)) (fun _ _ => 0)
    case atStart => exact ⟨rfl, ⟨rfl⟩⟩
    case round =>
      obtain ⟨rfl, HW⟩ := hrel
      have hS := HS2.out
      rw [← HW.out] at hS
      have HSW := Aside0.mk hS
      have FW : Aside0 (Fr No w wr) := ⟨by rw [HW.out]; exact F2.out⟩
      clear hS
      go_wp2_with fail
      refine (HEND.out _ HSW.out).mono ?_
      rintro e w5 ⟨⟨fb2, rfl, he⟩, hf⟩
      have HE := Aside0.mk he
      have F4 : Aside0 (Fr No w w5) := ⟨FW.out.trans hf (fun q hq hb => by have e' : q = g := hb; have := HG.out; omega)⟩
      clear hf
      (try clear he)
      go_wp2
      (try simp only [Exit.inBlock, Exit.then]); refine bodyPost_ret (results_list (rs := [.tmp 2, .tmp 3]) rfl (by simp) (.tmp (.tmp .nil))) rfl ?_
      rw [HRE.out]
      exact ⟨_, _, rfl, HE.out, Tl.nil _ _, F4.out⟩
  case' inr.inr =>
    obtain rfl : ev = .nilIface := he
    have H0 : Aside0 (Gd w w2 g (.slice A b.length c) b RR N (.slice none 0 0) 0 ∨ Bad w w2 g (.slice A b.length c) b RR (.slice none 0 0)) := ⟨.inl ⟨[], a0, ⟨Ow.nil _ _ _, fun q hq => (by cases hq), fun e he => (by cases he), fun i j a b _ h => by simp at h⟩, HS2.out.at_le, st_cell HS2.out, by rw [← HRD.out]; simp only []; rw [if_neg (by omega)]; rfl, rfl, by omega, F2.out⟩⟩
    (try clear he)
    go_wp2_with fail
    clear hlong
  all_goals
    go_loopw [6, 7] (fun v6 v7 wr => ∃ i : Nat, v7 = .int .i64 (i : Int) ∧ i ≤ N ∧ Aside0 (Gd w wr g (.slice A b.length c) b RR N v6 i ∨ Bad w wr g (.slice A b.length c) b RR v6)) (fun _ v7 _ => N - (intOf v7).toNat)
    case atStart => exact ⟨0, rfl, Nat.zero_le _, H0⟩
    case round =>
      clear H0
      obtain ⟨i, rfl, hi, HGB⟩ := hrel
      rcases HGB.out with hgd | hbad
      · obtain ⟨fs, a, hT, ha, hcell, hL, hfl, hN8, hF⟩ := hgd
        have HT := Aside0.mk hT; have HF := Aside0.mk hF; have HL := Aside0.mk hL
        have HST : Aside0 (Rdr.St wr g (.slice A b.length c) b ⟨a, none⟩) := ⟨st_none hcell (HB.out.no hF) AP.out ha⟩
        obtain ⟨Ao, co, hu⟩ := hT.row.form
        subst hu
        have HFL := Aside0.mk hfl
        have hgw : g < wr.heap.size := blk_lt hcell
        clear hT hcell hF HGB hfl hL
        by_cases hil : i < N
        · have hiI : (i : Int) < (N : Int) := by omega
          obtain ⟨⟨r1, n1⟩, hp1⟩ : ∃ p, rNum b ⟨a, none⟩ = p := ⟨_, rfl⟩
          obtain ⟨⟨r2, n2⟩, hp2⟩ : ∃ p, rNum b r1 = p := ⟨_, rfl⟩
          have hb1 := num_le b ⟨a, none⟩
          have hb2 := num_le b r1
          rw [hp1] at hb1
          rw [hp2] at hb2
          dsimp only at hb1 hb2
          have hstep : stepD b ⟨a, none⟩ = (match r2.err with | some q => .error q | none => if n1 = 0 then (if n2 = 0 then .error (a, 80) else if b.length - r2.at_ < n2 then .error (b.length, 30) else .ok (⟨r2.at_ + n2, none⟩, (0, 0, (b.drop r2.at_).take n2))) else .ok (r2, ((n2 : Int), (n1 : Int), []))) := by
            unfold stepD; simp only [hp1, hp2]; rcases r2 with ⟨_, _ | _⟩ <;> rfl
          have hNi : N - i = (N - (i + 1)) + 1 := by omega
          have HSTEP := Aside0.mk hstep; have HP1 := Aside0.mk hp1; have HP2 := Aside0.mk hp2; have HNI := Aside0.mk hNi
          clear hstep hp1 hp2 hNi
          go_wp2_with fail
          refine (Rdr.err_calls HST.out).mono ?_
          rintro e w4 ⟨ev, he, rfl, hw⟩
          obtain rfl : ev = .nilIface := he
          subst hw
          go_wp2_with fail
          refine (Rdr.at_calls HST.out).mono ?_
          rintro e w4 ⟨rfl, hw⟩
          subst hw
          rename World => wo
          go_wp2_with fail
          have hc1 := Rdr.num_calls HST.out
          rw [HP1.out] at hc1
          refine hc1.mono ?_
          rintro e w4 ⟨rfl, hS, hf⟩
          have K4 : Aside0 (Fr (one g) wo w4) := ⟨hf⟩
          have HS4 := Aside0.mk hS
          clear hS hf hc1
          (try dsimp only)
          go_wp2_with fail
          have hc2 := Rdr.num_calls HS4.out
          (try dsimp only at hc2)
          rw [HP2.out] at hc2
          refine hc2.mono ?_
          rintro e w5 ⟨rfl, hS, hf⟩
          have K5 : Aside0 (Fr (one g) wo w5) := ⟨K4.out.trans hf (fun _ _ h => h)⟩
          have HS5 := Aside0.mk hS
          clear hS hf hc2
          (try dsimp only at *)
          go_upto_region 11 with fail
          have XB0 := heap_alloc_new w5 (.cells #[.int .i64 (n2 : Int), .int .i64 (n1 : Int), .slice none 0 0] 117)
          have K6 : Aside0 (Fr (one g) wo (w5.alloc (.cells #[.int .i64 (n2 : Int), .int .i64 (n1 : Int), .slice none 0 0] 117))) := ⟨K5.out.alloc _⟩
          have HS6 : Aside0 (Rdr.St (w5.alloc (.cells #[.int .i64 (n2 : Int), .int .i64 (n1 : Int), .slice none 0 0] 117)) g (.slice A b.length c) b r2) := ⟨HS5.out.no ((Fr.refl _ _).alloc _)⟩
          have hwo5 := K5.out.size
          change Code.wp _ _ _ _ (w5.alloc (.cells #[.int .i64 (n2 : Int), .int .i64 (n1 : Int), .slice none 0 0] 117))
          generalize w5.alloc (.cells #[.int .i64 (n2 : Int), .int .i64 (n1 : Int), .slice none 0 0] 117) = w6 at XB0 K6 HS6 ⊢
          obtain ⟨gt, hgt⟩ : ∃ gt, w5.heap.size = gt := ⟨_, rfl⟩
          rw [hgt] at XB0 hwo5 ⊢
          clear hgt
          have XB := Aside0.mk XB0
          have HWO5 := Aside0.mk hwo5
          clear hwo5
          go_wp2_with fail
          refine (Rdr.err_calls HS6.out).mono ?_
          rintro e w7 ⟨ev, he, rfl, hw⟩
          subst hw
          have d1 : w6.cell? ⟨gt, 1, Option.none⟩ = some (.int .i64 (n1 : Int)) := by rw [blk_cell XB0]; rfl
          have d0 : w6.cell? ⟨gt, 0, Option.none⟩ = some (.int .i64 (n2 : Int)) := by rw [blk_cell XB0]; rfl
          clear XB0
          obtain ⟨a2, er2⟩ := r2
          have hcase : (∃ q, er2 = some q) ∨ (er2 = none ∧ n1 ≠ 0) ∨ (er2 = none ∧ n1 = 0 ∧ n2 = 0) ∨ (er2 = none ∧ n1 = 0 ∧ n2 ≠ 0 ∧ b.length - a2 < n2) ∨ (er2 = none ∧ n1 = 0 ∧ n2 ≠ 0 ∧ ¬ b.length - a2 < n2) := by
            cases er2 with
            | some q => exact .inl ⟨q, rfl⟩
            | none =>
              by_cases h1 : n1 = 0
              · by_cases h2 : n2 = 0
                · exact .inr (.inr (.inl ⟨rfl, h1, h2⟩))
                · by_cases h3 : b.length - a2 < n2
                  · exact .inr (.inr (.inr (.inl ⟨rfl, h1, h2, h3⟩)))
                  · exact .inr (.inr (.inr (.inr ⟨rfl, h1, h2, h3⟩)))
              · exact .inr (.inl ⟨rfl, h1⟩)
          have hfb : fs.length ≤ 8192 := by rw [HFL.out]; omega
          have ha2 := HS6.out.at_le
          (try dsimp only at ha2)
          rcases hcase with ⟨q, rfl⟩ | ⟨rfl, h1⟩ | ⟨rfl, h1, h2⟩ | ⟨rfl, h1, h2, h3⟩ | ⟨rfl, h1, h2, h3⟩
          · obtain ⟨fb, rfl, hfb0⟩ := id he
            have HRE : Aside0 (RR = .error q) := ⟨by
              rw [← HL.out, HNI.out]
              exact loopD_err HSTEP.out⟩
            have LD := ld_all (P := Tryd.prog) (ty := 117) XB.out Tryd.underlying117 rfl (by kernel_rfl)
            have H2 : Aside0 (Tks (w6.alloc (.cells (tkC (n2 : Int) (n1 : Int) (.slice none 0 0)) 117)) (g + 1) (.slice Ao fs.length co) fs) := ⟨(HT.out.fr K6.out (fun q hq hb => by have e' : q = g := hb; omega)).no ((Fr.refl _ _).alloc _)⟩
            clear hfb0 d0
            (try clear he)
            go_wp2_with (first
              | (at_builtin; (try simp only [Act.put, List.setIfInBounds_toArray, List.set_cons_zero, List.set_cons_succ]); go_loud (refine apN (f := fT) rfl (.tmp 93) (.tmp 95) _ _ (.agg #[.int .i64 0, .int .i64 0, .slice none 0 0]) 40 rfl Tryd.underlying44 infoT rfl (by decide) (by decide) (.slice Ao fs.length co) fs (.slice (some ⟨w6.heap.size, 0, none⟩) 1 1) [(⟨(n2 : Int), (n1 : Int), none, 0, []⟩ : TV)] rfl rfl H2.out.row (rd_one w6 (⟨(n2 : Int), (n1 : Int), none, 0, []⟩ : TV) _ rfl _) (by simp; omega) ?_; intro v9 w9 i1 i2 i3 i4; have I1 := Aside0.mk i1; have I2 := Aside0.mk i2; have I3 := Aside0.mk i3; clear i1 i2 i3 i4))
              | (refine ldG (.tmp 9) 117 _ _ rfl rfl (LD _ (Fr.refl _ _)) (by first | rfl | (go_simp; done)) ?_)
              | (refine lsX rfl (ex_buildSlice (oneT (n2 : Int) (n1 : Int) (.slice none 0 0) w6) rfl rfl) ?_))
            clear LD
            go_roundw
            case rel =>
              have hF9 : Fr No w w9 := ((HF.out.trans K6.out (fun q hq hb => by have e' : q = g := hb; have := HG.out; omega)).alloc (.cells (tkC (n2 : Int) (n1 : Int) (.slice none 0 0)) 117)).trans I2.out (fun q hq hb => by have := HT.out.new q hb; have := HG.out; omega)
              refine ⟨i + 1, by go_num, by omega, ⟨.inr ⟨fs ++ [(⟨(n2 : Int), (n1 : Int), none, 0, []⟩ : TV)], ⟨a2, some q⟩, q, H2.out.snoc (by have := K6.out.size; simp; omega) (Ow.nil _ _ _) (fun q hq => by cases hq) (fun x hx q hq hb => by cases hb) I1.out I2.out I3.out, ?_, rfl, HRE.out, hF9⟩⟩⟩
              refine st_far (HS6.out.no ((Fr.refl _ _).alloc (.cells (tkC (n2 : Int) (n1 : Int) (.slice none 0 0)) 117))) I2.out (fun hb => by have := HT.out.new g hb; omega) (fun hn q hq hb => ?_) (fun q cs hcs hb => ?_)
              · have h8 := HT.out.new q hb
                have h9 := HB.out.lt (by decide) hn q hq
                have := HG.out
                omega
              · obtain ⟨cs', h8⟩ := H2.out.row.typed q hb
                rw [hcs] at h8
                injection h8 with h8
                injection h8 with _ h8
                exact absurd h8 (by decide)
            case measure => simp [intOf]; omega
          · obtain rfl : ev = .nilIface := he
            have hm1 : ((n1 : Int) == 0) = false := by rw [beq_eq_false_iff_ne]; omega
            have HLN : Aside0 (loopD b (N - (i + 1)) ⟨a2, none⟩ ((fs ++ [(⟨(n2 : Int), (n1 : Int), none, 0, []⟩ : TV)]).map TV.tok) = RR) := ⟨by
              rw [← HL.out, HNI.out, List.map_append]
              have := HSTEP.out
              simp only [] at this
              rw [if_neg h1] at this
              rw [loopD_ok this]
              rfl⟩
            have LD := ld_all (P := Tryd.prog) (ty := 117) XB.out Tryd.underlying117 rfl (by kernel_rfl)
            have H2 : Aside0 (Tks (w6.alloc (.cells (tkC (n2 : Int) (n1 : Int) (.slice none 0 0)) 117)) (g + 1) (.slice Ao fs.length co) fs) := ⟨(HT.out.fr K6.out (fun q hq hb => by have e' : q = g := hb; omega)).no ((Fr.refl _ _).alloc _)⟩
            clear h1 d0
            (try clear he)
            go_wp2_with (first
              | (at_builtin; (try simp only [Act.put, List.setIfInBounds_toArray, List.set_cons_zero, List.set_cons_succ]); go_loud (refine apN (f := fT) rfl (.tmp 93) (.tmp 95) _ _ (.agg #[.int .i64 0, .int .i64 0, .slice none 0 0]) 40 rfl Tryd.underlying44 infoT rfl (by decide) (by decide) (.slice Ao fs.length co) fs (.slice (some ⟨w6.heap.size, 0, none⟩) 1 1) [(⟨(n2 : Int), (n1 : Int), none, 0, []⟩ : TV)] rfl rfl H2.out.row (rd_one w6 (⟨(n2 : Int), (n1 : Int), none, 0, []⟩ : TV) _ rfl _) (by simp; omega) ?_; intro v9 w9 i1 i2 i3 i4; have I1 := Aside0.mk i1; have I2 := Aside0.mk i2; have I3 := Aside0.mk i3; clear i1 i2 i3 i4))
              | (refine ldG (.tmp 9) 117 _ _ rfl rfl (LD _ (Fr.refl _ _)) (by first | rfl | (go_simp; done)) ?_)
              | (refine lsX rfl (ex_buildSlice (oneT (n2 : Int) (n1 : Int) (.slice none 0 0) w6) rfl rfl) ?_))
            clear LD
            go_roundw
            case rel =>
              have hF9 : Fr No w w9 := ((HF.out.trans K6.out (fun q hq hb => by have e' : q = g := hb; have := HG.out; omega)).alloc (.cells (tkC (n2 : Int) (n1 : Int) (.slice none 0 0)) 117)).trans I2.out (fun q hq hb => by have := HT.out.new q hb; have := HG.out; omega)
              refine ⟨i + 1, by go_num, by omega, ⟨.inl ⟨fs ++ [(⟨(n2 : Int), (n1 : Int), none, 0, []⟩ : TV)], a2, H2.out.snoc (by have := K6.out.size; simp; omega) (Ow.nil _ _ _) (fun q hq => by cases hq) (fun x hx q hq hb => by cases hb) I1.out I2.out I3.out, ha2, ?_, HLN.out, by rw [List.length_append, HFL.out]; rfl, hN8, hF9⟩⟩⟩
              exact I2.out.heap (((Fr.refl No w6).alloc (.cells (tkC (n2 : Int) (n1 : Int) (.slice none 0 0)) 117)).heap (st_cell HS6.out) id) (fun hb => by have := HT.out.new g hb; omega)
            case measure => simp [intOf]; omega
          · obtain rfl : ev = .nilIface := he
            subst h1
            subst h2
            have HRE : Aside0 (RR = .error (a, 80)) := ⟨by
              rw [← HL.out, HNI.out]
              exact loopD_err HSTEP.out⟩
            have f0 : w6.frozen? ⟨gt, 0, Option.none⟩ = false := blk_frozen XB.out _
            have hgg : g ≠ gt := by have := HWO5.out; omega
            have HS7 : Aside0 (Rdr.St (w6.setCell ⟨gt, 0, none⟩ (.int .i64 0)) g (.slice A b.length c) b ⟨a2, none⟩) := ⟨st_none ((fr_one_set w6 gt 0 _).heap (st_cell HS6.out) (fun e => hgg e)) (HB.out.no (HF.out.trans (K6.out.setCell (p := ⟨gt, 0, none⟩) (.inr HWO5.out) _) (fun q hq hb => by have e' : q = g := hb; have := HG.out; omega))) AP.out ha2⟩
            have F7 : Aside0 (Fr No w (w6.setCell ⟨gt, 0, none⟩ (.int .i64 0))) := ⟨HF.out.trans (K6.out.setCell (p := ⟨gt, 0, none⟩) (.inr HWO5.out) _) (fun q hq hb => by have e' : q = g := hb; have := HG.out; omega)⟩
            clear hgg
            (try clear he)
            have hwl : IntKind.i64.wrap ((b.length : Int) - (a2 : Int)) = (b.length : Int) - (a2 : Int) := by rw [i64_left]; exact wrap64_in _ (by omega)
            go_wp2_with fail
            refine (Rdr.at_calls HS7.out).mono ?_
            rintro e w8 ⟨rfl, hw⟩
            subst hw
            clear d0 d1 f0
            go_wp2
            (try simp only [Exit.inBlock, Exit.then]); refine bodyPost_ret (results_list (rs := [.tmp 2, .tmp 3]) rfl (by simp) (.tmp (.tmp .nil))) rfl ?_
            rw [HRE.out]
            exact ⟨_, _, rfl, ⟨w6.heap.size, rfl, by simpa [World.setCell] using heap_alloc_new (w6.setCell ⟨gt, 0, none⟩ (.int .i64 0)) (.cells #[.int .i64 (a : Int), .int .i64 80] 99)⟩, Tl.nil _ _, F7.out.alloc _⟩
          · obtain rfl : ev = .nilIface := he
            subst h1
            have HRE : Aside0 (RR = .error (b.length, 30)) := ⟨by
              rw [← HL.out, HNI.out]
              have := HSTEP.out
              simp only [] at this
              rw [if_pos (by trivial), if_neg h2, if_pos h3] at this
              exact loopD_err this⟩
            have f0 : w6.frozen? ⟨gt, 0, Option.none⟩ = false := blk_frozen XB.out _
            have hgg : g ≠ gt := by have := HWO5.out; omega
            have HS7 : Aside0 (Rdr.St (w6.setCell ⟨gt, 0, none⟩ (.int .i64 0)) g (.slice A b.length c) b ⟨a2, none⟩) := ⟨st_none ((fr_one_set w6 gt 0 _).heap (st_cell HS6.out) (fun e => hgg e)) (HB.out.no (HF.out.trans (K6.out.setCell (p := ⟨gt, 0, none⟩) (.inr HWO5.out) _) (fun q hq hb => by have e' : q = g := hb; have := HG.out; omega))) AP.out ha2⟩
            have F7 : Aside0 (Fr No w (w6.setCell ⟨gt, 0, none⟩ (.int .i64 0))) := ⟨HF.out.trans (K6.out.setCell (p := ⟨gt, 0, none⟩) (.inr HWO5.out) _) (fun q hq hb => by have e' : q = g := hb; have := HG.out; omega)⟩
            have hwl : IntKind.i64.wrap ((b.length : Int) - (a2 : Int)) = (b.length : Int) - (a2 : Int) := by rw [i64_left]; exact wrap64_in _ (by omega)
            have hm2 : ((n2 : Int) == 0) = false := by rw [beq_eq_false_iff_ne]; omega
            have hml : (b.length : Int) - (a2 : Int) < (n2 : Int) := by omega
            clear hgg h2 h3
            (try clear he)
            go_wp2_with fail
            refine (Rdr.at_calls HS7.out).mono ?_
            rintro e w8 ⟨rfl, hw⟩
            subst hw
            clear d0 d1 f0
            go_wp2
            (try simp only [Exit.inBlock, Exit.then]); refine bodyPost_ret (results_list (rs := [.tmp 2, .tmp 3]) rfl (by simp) (.tmp (.tmp .nil))) rfl ?_
            rw [HRE.out]
            exact ⟨_, _, rfl, ⟨w6.heap.size, rfl, by simpa [World.setCell] using heap_alloc_new (w6.setCell ⟨gt, 0, none⟩ (.int .i64 0)) (.cells #[.int .i64 (b.length : Int), .int .i64 30] 99)⟩, Tl.nil _ _, F7.out.alloc _⟩
          · obtain rfl : ev = .nilIface := he
            obtain ⟨ys, hys⟩ : ∃ ys, (b.drop a2).take n2 = ys := ⟨_, rfl⟩
            have hyl : ys.length = n2 := by rw [← hys, List.length_take, List.length_drop]; omega
            have HLN : Aside0 (∀ D : Nat, loopD b (N - (i + 1)) ⟨a2 + n2, none⟩ ((fs ++ [(⟨0, (n1 : Int), some ⟨D, 0, none⟩, n2, ys⟩ : TV)]).map TV.tok) = RR) := ⟨fun D => by
              rw [← HL.out, HNI.out, List.map_append]
              have := HSTEP.out
              simp only [] at this
              rw [if_pos h1, if_neg h2, if_neg h3] at this
              rw [loopD_ok this, hys, h1]
              rfl⟩
            have HD3 : Aside0 (b.drop a2 = ys ++ b.drop (a2 + n2)) := ⟨by rw [← hys, ← List.drop_drop, List.take_append_drop]⟩
            have HYS := Aside0.mk hyl
            have hpb : a2 + n2 ≤ b.length := by omega
            have hm1 : ((n1 : Int) == 0) = true := by rw [h1]; rfl
            have hm2 : ((n2 : Int) == 0) = false := by rw [beq_eq_false_iff_ne]; omega
            have hm25 : n2 ≤ 100000 := by omega
            have hwl : IntKind.i64.wrap ((b.length : Int) - (a2 : Int)) = (b.length : Int) - (a2 : Int) := by rw [i64_left]; exact wrap64_in _ (by omega)
            have hml : ¬ (b.length : Int) - (a2 : Int) < (n2 : Int) := by omega
            have hn20 : n2 ≠ 0 := h2
            clear h1 h3 h2  hys hyl
            (try clear he)
            have f0 : w6.frozen? ⟨gt, 0, Option.none⟩ = false := blk_frozen XB.out _
            go_wp2_with fail
            have X7 : Aside0 ((w6.setCell ⟨gt, 0, none⟩ (.int .i64 0)).heap[gt]? = some (.cells #[.int .i64 0, .int .i64 (n1 : Int), .slice none 0 0] 117 (0, 0))) := ⟨by simpa using blk_set XB.out 0 (.int .i64 0)⟩
            have K7 : Aside0 (Fr (one g) wo (w6.setCell ⟨gt, 0, none⟩ (.int .i64 0))) := ⟨K6.out.setCell (p := ⟨gt, 0, none⟩) (.inr HWO5.out) _⟩
            have HS7 : Aside0 (Rdr.St (w6.setCell ⟨gt, 0, none⟩ (.int .i64 0)) g (.slice A b.length c) b ⟨a2, none⟩) := ⟨by
              have hgg : g ≠ gt := by have := HWO5.out; omega
              exact st_none ((fr_one_set w6 gt 0 _).heap (st_cell HS6.out) (fun e => hgg e)) (HB.out.no (HF.out.trans K7.out (fun q hq hb => by have e' : q = g := hb; have := HG.out; omega))) AP.out (by omega)⟩
            clear d0 d1 f0
            generalize w6.setCell ⟨gt, 0, none⟩ (.int .i64 0) = w7 at X7 K7 HS7 ⊢
            refine (Rdr.at_calls HS7.out).mono ?_
            rintro e w8 ⟨rfl, hw⟩
            subst hw
            obtain ⟨w8, hmk, hOw, hFr⟩ := make_u8 n2 (by omega) w7
            have X8 : Aside0 (w8.heap[gt]? = some (.cells #[.int .i64 0, .int .i64 (n1 : Int), .slice none 0 0] 117 (0, 0))) := ⟨hFr.heap X7.out id⟩
            have K8 : Aside0 (Fr (one g) wo w8) := ⟨K7.out.trans (hFr.mono (fun _ _ h => h.elim)) (fun _ _ h => h)⟩
            have HC8 : Aside0 (w8.heap[g]? = some (.cells #[.slice A b.length c, .int .i64 (a2 : Int), .nilIface] 140 (0, 0))) := ⟨hFr.heap (st_cell HS7.out) id⟩
            have hgd7 := K7.out.size
            have HOD := Aside0.mk hOw
            have y2 : w8.cell? ⟨gt, 2, Option.none⟩ = some (.slice none 0 0) := by rw [blk_cell X8.out]; rfl
            have z2 : w8.frozen? ⟨gt, 2, Option.none⟩ = false := blk_frozen X8.out _
            have hgt7 : gt < w7.heap.size := blk_lt X7.out
            obtain ⟨gd, hgd⟩ : ∃ gd, w7.heap.size = gd := ⟨_, rfl⟩
            rw [hgd] at hmk HOD hgd7 hgt7
            clear hOw hFr hgd
            go_upto_region 20 with (refine lsX rfl (ex_makeSlice hmk rfl rfl rfl) ?_)
            have X9 : Aside0 ((w8.setCell ⟨gt, 2, none⟩ (.slice (some ⟨gd, 0, none⟩) n2 n2)).heap[gt]? = some (.cells #[.int .i64 0, .int .i64 (n1 : Int), .slice (some ⟨gd, 0, none⟩) n2 n2] 117 (0, 0))) := ⟨by simpa using blk_set X8.out 2 (.slice (some ⟨gd, 0, none⟩) n2 n2)⟩
            have K9 : Aside0 (Fr (one g) wo (w8.setCell ⟨gt, 2, none⟩ (.slice (some ⟨gd, 0, none⟩) n2 n2))) := ⟨K8.out.setCell (p := ⟨gt, 2, none⟩) (.inr HWO5.out) _⟩
            have HC9 : Aside0 ((w8.setCell ⟨gt, 2, none⟩ (.slice (some ⟨gd, 0, none⟩) n2 n2)).heap[g]? = some (.cells #[.slice A b.length c, .int .i64 ((a2 + 0 : Nat) : Int), .nilIface] 140 (0, 0))) := ⟨(fr_one_set w8 gt 2 _).heap HC8.out (fun e => by have e' : g = gt := e; have := HWO5.out; omega)⟩
            have HO9 : Aside0 (OwB (w8.setCell ⟨gt, 2, none⟩ (.slice (some ⟨gd, 0, none⟩) n2 n2)) (.slice (some ⟨gd, 0, none⟩) n2 n2) (ys.take 0 ++ List.replicate (n2 - 0) 0)) := ⟨HOD.out.fr (fr_one_set w8 gt 2 _) (fun q hq hb => by
              have e' : q = gt := hb
              have e2 : gd = q := by simpa [Value.ownBlock] using hq
              omega)⟩
            have d2 : (w8.setCell ⟨gt, 2, none⟩ (.slice (some ⟨gd, 0, none⟩) n2 n2)).cell? ⟨gt, 2, Option.none⟩ = some (.slice (some ⟨gd, 0, none⟩) n2 n2) := by rw [blk_cell X9.out]; rfl
            clear y2 z2 hmk
            generalize w8.setCell ⟨gt, 2, none⟩ (.slice (some ⟨gd, 0, none⟩) n2 n2) = w9 at X9 K9 HC9 HO9 d2 ⊢
            go_wp2_with fail
            clear d2 hwl hml hm1 hm2
            go_loopw [83] (fun v83 wx => ∃ k : Nat, v83 = .int .i64 (k : Int) ∧ k ≤ n2 ∧ Aside0 (wx.heap[gt]? = some (.cells #[.int .i64 0, .int .i64 (n1 : Int), .slice (some ⟨gd, 0, none⟩) n2 n2] 117 (0, 0))) ∧ Aside0 (Fr (one g) wo wx) ∧ Aside0 (wx.heap[g]? = some (.cells #[.slice A b.length c, .int .i64 ((a2 + k : Nat) : Int), .nilIface] 140 (0, 0))) ∧ Aside0 (OwB wx (.slice (some ⟨gd, 0, none⟩) n2 n2) (ys.take k ++ List.replicate (n2 - k) 0))) (fun v83 _ => n2 - (intOf v83).toNat)
            case atStart => exact ⟨0, rfl, Nat.zero_le _, X9, K9, HC9, HO9⟩
            case round =>
              clear X9 K9 HC9 HO9
              obtain ⟨k, rfl, hk, X9, K9, HC9, HO9⟩ := hrel
              by_cases hkm : k < n2
              · have hkI : (k : Int) < (n2 : Int) := by omega
                obtain ⟨y, hy⟩ : ∃ y, ys[k]? = some y := ⟨_, List.getElem?_eq_getElem (by have := HYS.out; omega)⟩
                have hby : b[a2 + k]? = some y := by
                  have h9 : (b.drop a2)[k]? = some y := by rw [HD3.out, List.getElem?_append_left (by have := HYS.out; omega)]; exact hy
                  rw [List.getElem?_drop] at h9
                  exact h9
                have hrb := rByte_ok b (a2 + k) y hby
                have HSX : Aside0 (Rdr.St wr g (.slice A b.length c) b ⟨a2 + k, none⟩) := ⟨st_none HC9.out (HB.out.no (HF.out.trans K9.out (fun q hq hb => by have e' : q = g := hb; have := HG.out; omega))) AP.out (by omega)⟩
                have hbc0 := Rdr.byte_calls HSX.out
                rw [hrb] at hbc0
                have HBC := Aside0.mk hbc0
                have HNX : Aside0 (ys.take (k + 1) ++ List.replicate (n2 - (k + 1)) 0 = (ys.take k ++ List.replicate (n2 - k) 0).set k y) := ⟨by
                  have hl9 : (ys.take k).length = k := by rw [List.length_take]; have := HYS.out; omega
                  rw [List.set_append_right _ _ (by omega), hl9, Nat.sub_self, show n2 - k = (n2 - (k + 1)) + 1 by omega, List.replicate_succ, List.set_cons_zero, List.take_add_one, hy]
                  simp⟩
                have HLK : Aside0 ((ys.take k ++ List.replicate (n2 - k) (0 : UInt8))[k]? = some 0) := ⟨by
                  rw [List.getElem?_append_right (by rw [List.length_take]; omega), List.length_take, Nat.min_eq_left (by have := HYS.out; omega), Nat.sub_self, List.getElem?_replicate, if_pos (by omega)]⟩
                have HLN : Aside0 ((ys.take k ++ List.replicate (n2 - k) (0 : UInt8)).length = n2) := ⟨by rw [List.length_append, List.length_take, List.length_replicate]; have := HYS.out; omega⟩
                have HCO := Aside0.mk (row_cell HO9.out HLN.out k 0 HLK.out)
                have HSTO := Aside0.mk (fun W h => row_store (W := W) (gd := gd) (m := n2) h HLN.out k y hkm)
                have HRB2 := Aside0.mk hrb
                clear hy hby hrb hbc0
                have d2 : wr.cell? ⟨gt, 2, Option.none⟩ = some (.slice (some ⟨gd, 0, none⟩) n2 n2) := by rw [blk_cell X9.out]; rfl
                go_wp2_with fail
                have hggt : g ≠ gt := by have := HWO5.out; omega
                have hggd : g ≠ gd := by omega
                have HGG := Aside0.mk (And.intro hggt hggd)
                clear hggt hggd
                refine Rg.start (fun k' x => k' ≤ 1 → x.cell? ⟨gt, 2, Option.none⟩ = some (.slice (some ⟨gd, 0, none⟩) n2 n2)) (by kernel_rfl) (by kernel_rfl) [4, 6] [[3, 4], [4, 3, 2, 0, 1, 5, 6]] (by kernel_rfl) (.q 0 1 (.q 1 1 (.q 2 1 (.q 3 0 (.e 4 1 (.q 5 1 (.e 6 2 (.done)))))))) (by kernel_rfl) ?_ ?_
                · exact fun _ _ => d2
                repeat (first
                  | (refine Rg.q (o := ?_) (v := ?_) ?_ ?_ ?_ ?_ ?_
                     rotate_left 2
                     · (simp only [List.getElem?_toArray, List.getElem?_cons_succ, List.getElem?_cons_zero]; rfl)
                     · exact fun _ _ _ h => h
                     · first | rfl | (go_simp; done)
                     · (intro x_ hx; (try dsimp only at hx); (try (have q0 := hx (by decide))); go_simp; (try rw [if_neg (by omega)]); (try rw [if_pos (by omega)]); (try go_simp); try with_reducible rfl)
                     try simp only [Act.put, List.setIfInBounds_toArray, List.set_cons_zero, List.set_cons_succ])
                  | (refine Rg.skip (o := ?_) ?_ ?_ ?_ ?_
                     rotate_left 1
                     · (simp only [List.getElem?_toArray, List.getElem?_cons_succ, List.getElem?_cons_zero]; rfl)
                     · exact fun _ _ _ h => h
                     · first | rfl | (go_simp; done)
                     try simp only [Act.put, List.setIfInBounds_toArray, List.set_cons_zero, List.set_cons_succ]))
                refine Rg.e (o := ?_) ?_ ?_
                rotate_left 1
                · (simp only [List.getElem?_toArray, List.getElem?_cons_succ, List.getElem?_cons_zero]; rfl)
                intro K hK
                go_simp
                have hbd := Rdr.byte_calls (HSX.out.no (Fr.refl No wr).drew)
                rw [HRB2.out] at hbd
                refine hbd.mono ?_
                rintro en x1 ⟨rfl, hS, hf⟩
                have J1 : Aside0 (Fr (one g) wr x1) := ⟨((Fr.refl (one g) wr).drew).trans hf (fun _ _ h => h)⟩
                have hC1 := st_cell hS
                have hO1 : OwB x1 (.slice (some ⟨gd, 0, none⟩) n2 n2) (ys.take k ++ List.replicate (n2 - k) 0) := HO9.out.fr J1.out (fun q hq hb => by
                  have e' : q = g := hb
                  have e2 : gd = q := by simpa [Value.ownBlock] using hq
                  have := HGG.out.2; omega)
                have X1 : Aside0 (x1.heap[gt]? = some (.cells #[.int .i64 0, .int .i64 (n1 : Int), .slice (some ⟨gd, 0, none⟩) n2 n2] 117 (0, 0))) := ⟨J1.out.heap X9.out (fun e => by have e' : gt = g := e; have := HGG.out.1; omega)⟩
                obtain ⟨cc1, cc2⟩ := row_cell hO1 HLN.out k 0 HLK.out
                have e2' : x1.cell? ⟨gt, 2, Option.none⟩ = some (.slice (some ⟨gd, 0, none⟩) n2 n2) := by rw [blk_cell X1.out]; rfl
                have HO1 := Aside0.mk hO1; have HC1 := Aside0.mk hC1
                clear hS hf hC1 hO1 hbd d2
                go_simp
                refine hK.out _ _ (fun k' x => k' ≤ 1 → x.cell? ⟨gt, 2, Option.none⟩ = some (.slice (some ⟨gd, 0, none⟩) n2 n2)) (fun k x hk h => h) ?_ ?_
                · exact fun _ _ _ => e2'
                try simp only [Act.put, List.setIfInBounds_toArray, List.set_cons_zero, List.set_cons_succ]
                repeat (first
                  | (refine Rg.q (o := ?_) (v := ?_) ?_ ?_ ?_ ?_ ?_
                     rotate_left 2
                     · (simp only [List.getElem?_toArray, List.getElem?_cons_succ, List.getElem?_cons_zero]; rfl)
                     · exact fun _ _ _ h => h
                     · first | rfl | (go_simp; done)
                     · (intro x_ hx; (try dsimp only at hx); (try (have q0 := hx (by decide))); go_simp; (try rw [if_neg (by omega)]); (try rw [if_pos (by omega)]); (try go_simp); try with_reducible rfl)
                     try simp only [Act.put, List.setIfInBounds_toArray, List.set_cons_zero, List.set_cons_succ])
                  | (refine Rg.skip (o := ?_) ?_ ?_ ?_ ?_
                     rotate_left 1
                     · (simp only [List.getElem?_toArray, List.getElem?_cons_succ, List.getElem?_cons_zero]; rfl)
                     · exact fun _ _ _ h => h
                     · first | rfl | (go_simp; done)
                     try simp only [Act.put, List.setIfInBounds_toArray, List.set_cons_zero, List.set_cons_succ]))
                refine Rg.e (o := ?_) ?_ ?_
                rotate_left 1
                · (simp only [List.getElem?_toArray, List.getElem?_cons_succ, List.getElem?_cons_zero]; rfl)
                intro K hK
                go_simp
                clear cc1 cc2 e2'
                refine hK.out _ _ (fun _ _ => True) (fun k x hk h => fun h2 => absurd (Nat.le_trans hk h2) (by decide)) ?_ ?_
                · exact fun _ _ => trivial
                try simp only [Act.put, List.setIfInBounds_toArray, List.set_cons_zero, List.set_cons_succ]
                repeat (first
                  | (refine Rg.q (o := ?_) (v := ?_) ?_ ?_ ?_ ?_ ?_
                     rotate_left 2
                     · (simp only [List.getElem?_toArray, List.getElem?_cons_succ, List.getElem?_cons_zero]; rfl)
                     · exact fun _ _ _ h => h
                     · first | rfl | (go_simp; done)
                     · (intro x_ hx; (try dsimp only at hx); (skip); go_simp; (try rw [if_neg (by omega)]); (try rw [if_pos (by omega)]); (try go_simp); try with_reducible rfl)
                     try simp only [Act.put, List.setIfInBounds_toArray, List.set_cons_zero, List.set_cons_succ])
                  | (refine Rg.skip (o := ?_) ?_ ?_ ?_ ?_
                     rotate_left 1
                     · (simp only [List.getElem?_toArray, List.getElem?_cons_succ, List.getElem?_cons_zero]; rfl)
                     · exact fun _ _ _ h => h
                     · first | rfl | (go_simp; done)
                     try simp only [Act.put, List.setIfInBounds_toArray, List.set_cons_zero, List.set_cons_succ]))
                refine Rg.done ?_
                go_simp
                go_wp2
                go_roundw
                case rel =>
                  refine ⟨k + 1, by go_num, by omega, ⟨(fr_one_set x1 gd k _).heap X1.out (fun e => by have e' : gt = gd := e; omega)⟩, ⟨(K9.out.trans J1.out (fun _ _ h => h)).setCell (p := ⟨gd, k, none⟩) (.inr hgd7) _⟩, ⟨(fr_one_set x1 gd k _).heap HC1.out (fun e => by have e' : g = gd := e; have := HGG.out.2; omega)⟩, ⟨by rw [HNX.out]; exact HSTO.out x1 HO1.out⟩⟩
                case measure => simp [intOf]; omega
              · have hkI : ¬ (k : Int) < (n2 : Int) := by omega
                obtain rfl : k = n2 := by omega
                have HOE : Aside0 (OwB wr (.slice (some ⟨gd, 0, none⟩) k k) ys) := ⟨by
                  have := HO9.out
                  rw [Nat.sub_self, List.replicate_zero, List.append_nil, List.take_of_length_le (by have := HYS.out; omega)] at this
                  exact this⟩
                have LD := ld_all (P := Tryd.prog) (ty := 117) X9.out Tryd.underlying117 rfl (by kernel_rfl)
                have hlen : (0 : Nat) < k := by omega
                have hyk : ys.length = k := HYS.out
                have H2 : Aside0 (Tks (wr.alloc (.cells (tkC 0 (n1 : Int) (.slice (some ⟨gd, 0, none⟩) k k)) 117)) (g + 1) (.slice Ao fs.length co) fs) := ⟨(HT.out.fr K9.out (fun q hq hb => by have e' : q = g := hb; omega)).no ((Fr.refl _ _).alloc _)⟩
                have hfb8 : fs.length ≤ 8192 := hfb
                have HENC : Aside0 (tkC 0 (n1 : Int) (.slice (some ⟨gd, 0, none⟩) k k) = (fT.enc (⟨0, (n1 : Int), some ⟨gd, 0, none⟩, k, ys⟩ : TV)).toArray) := ⟨by
                  show tkC 0 (n1 : Int) (.slice (some ⟨gd, 0, none⟩) k k) = #[.int .i64 0, .int .i64 (n1 : Int), .slice (some ⟨gd, 0, none⟩) ys.length k]
                  rw [hyk]⟩
                clear hyk
                go_wp2_with (first
                  | (at_builtin; (try simp only [Act.put, List.setIfInBounds_toArray, List.set_cons_zero, List.set_cons_succ]); go_loud (refine apN (f := fT) rfl (.tmp 93) (.tmp 95) _ _ (.agg #[.int .i64 0, .int .i64 0, .slice none 0 0]) 40 rfl Tryd.underlying44 infoT rfl (by decide) (by decide) (.slice Ao fs.length co) fs (.slice (some ⟨wr.heap.size, 0, none⟩) 1 1) [(⟨0, (n1 : Int), some ⟨gd, 0, none⟩, k, ys⟩ : TV)] rfl rfl H2.out.row (rd_one wr (⟨0, (n1 : Int), some ⟨gd, 0, none⟩, k, ys⟩ : TV) _ HENC.out _) (by simp; omega) ?_; intro v9 w9 i1 i2 i3 i4; have I1 := Aside0.mk i1; have I2 := Aside0.mk i2; have I3 := Aside0.mk i3; clear i1 i2 i3 i4))
                  | (refine ldG (.tmp 9) 117 _ _ rfl rfl (LD _ (Fr.refl _ _)) (by first | rfl | (go_simp; done)) ?_)
                  | (refine lsX rfl (ex_buildSlice (oneT 0 (n1 : Int) (.slice (some ⟨gd, 0, none⟩) k k) wr) rfl rfl) ?_))
                clear LD
                go_roundw
                case rel =>
                  have hF9 : Fr No w w9 := ((HF.out.trans K9.out (fun q hq hb => by have e' : q = g := hb; have := HG.out; omega)).alloc (.cells (tkC 0 (n1 : Int) (.slice (some ⟨gd, 0, none⟩) k k)) 117)).trans I2.out (fun q hq hb => by have := HT.out.new q hb; have := HG.out; omega)
                  have hdv : (⟨0, (n1 : Int), some ⟨gd, 0, none⟩, k, ys⟩ : TV).dv = .slice (some ⟨gd, 0, none⟩) k k := by
                    show Value.slice (some ⟨gd, 0, none⟩) ys.length k = _
                    rw [HYS.out]
                  refine ⟨i + 1, by go_num, by omega, ⟨.inl ⟨fs ++ [(⟨0, (n1 : Int), some ⟨gd, 0, none⟩, k, ys⟩ : TV)], a2 + k, H2.out.snoc (by have := K9.out.size; simp; omega) (by rw [hdv]; exact HOE.out.no ((Fr.refl _ _).alloc _)) (fun q hq => by
                    rw [hdv] at hq
                    have e2 : gd = q := by simpa [Value.ownBlock] using hq
                    omega) (fun x hx q hq hb => by
                    rw [hdv] at hb
                    have e2 : gd = q := by simpa [Value.ownBlock] using hb
                    have h8 := (HT.out.own x hx).1.lt q hq
                    omega) I1.out I2.out I3.out, hpb, ?_, HLN.out gd, by rw [List.length_append, HFL.out]; rfl, hN8, hF9⟩⟩⟩
                  exact I2.out.heap (((Fr.refl No wr).alloc (.cells (tkC 0 (n1 : Int) (.slice (some ⟨gd, 0, none⟩) k k)) 117)).heap HC9.out id) (fun hb => by have := HT.out.new g hb; omega)
                case measure => simp [intOf]; omega
        · have hiI : ¬ (i : Int) < (N : Int) := by omega
          have HRE : Aside0 (endD b ⟨a, none⟩ (fs.map TV.tok) = RR) := ⟨by rw [← HL.out, show N - i = 0 by omega]; rfl⟩
          go_wp2_with fail
          refine (Rdr.end_calls HST.out).mono ?_
          rintro e w4 ⟨⟨ev, he, rfl⟩, hS, hf⟩
          have F4 : Aside0 (Fr No w w4) := ⟨HF.out.trans hf (fun q hq hb => by have e' : q = g := hb; have := HG.out; omega)⟩
          have HT4 : Aside0 (Tks w4 (g + 1) (.slice Ao fs.length co) fs) := ⟨HT.out.fr hf (fun q hq hb => by have e' : q = g := hb; omega)⟩
          have HE := Aside0.mk he
          clear hS hf
          have hre := HRE.out
          unfold endD at hre
          obtain ⟨er, her⟩ : ∃ er, (rEnd b ⟨a, none⟩).err = er := ⟨_, rfl⟩
          rw [her] at hre HE he
          cases er with
          | none =>
            obtain rfl : ev = .nilIface := he
            have HR2 : Aside0 (RR = .ok (fs.map TV.tok)) := ⟨hre.symm⟩
            clear hre her HE
            (try clear he)
            go_wp2
            (try simp only [Exit.inBlock, Exit.then]); refine bodyPost_ret (results_list (rs := [.tmp 2, .tmp 3]) rfl (by simp) (.tmp (.tmp .nil))) rfl ?_
            rw [HR2.out]
            exact ⟨_, _, rfl, rfl, Tl.down (n := g + 1) ⟨fs, HT4.out, rfl⟩ (by have := HG.out; omega), F4.out⟩
          | some q =>
            have HR2 : Aside0 (RR = .error q) := ⟨hre.symm⟩
            obtain ⟨fb, rfl, _⟩ := he
            clear hre her
            go_wp2
            (try simp only [Exit.inBlock, Exit.then]); refine bodyPost_ret (results_list (rs := [.tmp 2, .tmp 3]) rfl (by simp) (.tmp (.tmp .nil))) rfl ?_
            rw [HR2.out]
            exact ⟨_, _, rfl, HE.out, Tl.nil _ _, F4.out⟩
      · obtain ⟨fs, r, q, hT, hS, hq, hR, hF⟩ := hbad
        obtain ⟨ra, er⟩ := r
        obtain rfl : er = some q := hq
        obtain ⟨Ao, co, hu⟩ := hT.row.form
        subst hu
        have HS := Aside0.mk hS; have HF := Aside0.mk hF; have HR := Aside0.mk hR
        have HEND : Aside0 (∀ W, Rdr.St W g (.slice A b.length c) b ⟨ra, some q⟩ → Calls Tryd.prog 40 #[.pointer (some ⟨g, 0, none⟩)] W fun en w' => (∃ fb, en = .returned (.iface 97 (.pointer (some ⟨fb, 0, none⟩))) ∧ IsErr w' (.iface 97 (.pointer (some ⟨fb, 0, none⟩))) (some q)) ∧ Fr (one g) W w') := ⟨fun W h => by
          refine (Rdr.end_calls h).mono ?_
          rintro e w4 ⟨⟨ev, he, rfl⟩, _, hf⟩
          have he' : IsErr w4 ev (some q) := he
          obtain ⟨fb, rfl, _⟩ := id he'
          exact ⟨⟨fb, rfl, he'⟩, hf⟩⟩
        clear hT hS hF hR HGB
        by_cases hil : i < N
        · have hiI : (i : Int) < (N : Int) := by omega
          go_wp2_with fail
          refine (Rdr.err_calls HS.out).mono ?_
          rintro e w4 ⟨ev, he, rfl, hw⟩
          subst hw
          obtain ⟨fb, rfl, hfb0⟩ := he
          clear hfb0
          go_wp2_with fail
          refine (HEND.out _ HS.out).mono ?_
          rintro e w5 ⟨⟨fb2, rfl, he⟩, hf⟩
          have HE := Aside0.mk he
          have F4 : Aside0 (Fr No w w5) := ⟨HF.out.trans hf (fun q hq hb => by have e' : q = g := hb; have := HG.out; omega)⟩
          clear hf
          (try clear he)
          go_wp2
          (try simp only [Exit.inBlock, Exit.then]); refine bodyPost_ret (results_list (rs := [.tmp 2, .tmp 3]) rfl (by simp) (.tmp (.tmp .nil))) rfl ?_
          rw [HR.out]
          exact ⟨_, _, rfl, HE.out, Tl.nil _ _, F4.out⟩
        · have hiI : ¬ (i : Int) < (N : Int) := by omega
          go_wp2_with fail
          refine (HEND.out _ HS.out).mono ?_
          rintro e w5 ⟨⟨fb2, rfl, he⟩, hf⟩
          have HE := Aside0.mk he
          have F4 : Aside0 (Fr No w w5) := ⟨HF.out.trans hf (fun q hq hb => by have e' : q = g := hb; have := HG.out; omega)⟩
          clear hf
          (try clear he)
          go_wp2
          (try simp only [Exit.inBlock, Exit.then]); refine bodyPost_ret (results_list (rs := [.tmp 2, .tmp 3]) rfl (by simp) (.tmp (.tmp .nil))) rfl ?_
          rw [HR.out]
          exact ⟨_, _, rfl, HE.out, Tl.nil _ _, F4.out⟩
end Go.Proofs.YtanbddaecojijaaDoor.Tk
