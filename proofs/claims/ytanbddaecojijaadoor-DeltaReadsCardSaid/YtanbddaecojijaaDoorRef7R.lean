/- The document's Read of tokens, of any bytes: walked. -/
import Derived.Test.YtanbddaecojijaaDoorRef3
import Derived.Test.YtanbddaecojijaaDoorSpecRD
import Derived.Test.YtanbddaecojijaaDoorTk
set_option linter.unusedVariables false
set_option linter.unusedSimpArgs false
namespace Go.Proofs.YtanbddaecojijaaDoor.Tk
open Go.RowKit Go.IntWalk Go.Proofs.YtanbddaecojijaaDoorW.PrintWords Go.Proofs.YtanbddaecojijaaDoor.B Go.Proofs.YtanbddaecojijaaDoor.PB Go.Proofs.YtanbddaecojijaaDoor.STell Go.Proofs.YtanbddaecojijaaDoor.STB Go.Proofs.YtanbddaecojijaaDoor.SCode Go.Proofs.YtanbddaecojijaaDoor.Ref3

theorem name_alc {P : Program} {C : Code} {Q : Exit → Act → World → Prop} {a : Act} {W : World} {o : Obj} (h : ∀ w2 : World, w2.heap[W.heap.size]? = some o → Fr No W w2 → Code.wp P C Q a w2) : Code.wp P C Q a (W.alloc o) := h _ (heap_alloc_new W o) ((Fr.refl _ _).alloc _)
theorem name_row {P : Program} {C : Code} {Q : Exit → Act → World → Prop} {a : Act} {W : World} {g : Nat} {t : TypeId} {old new : Array Value} (hg : W.heap[g]? = some (.cells old t (0, 0))) (h : ∀ w2 : World, w2.heap[g]? = some (.cells new t (0, 0)) → Fr (one g) W w2 → Code.wp P C Q a w2) : Code.wp P C Q a (W.setRow g new) := h _ (setRow_heap _ _ _ _ _ _ hg) (fr_one_row _ _ _)
/-- The document's number, told in cells. -/
theorem numR (b : List UInt8) (r : R) (h : ok b r) (a c d : Int) (ha : ((r.at_ : Nat) : Int) = a) (hc : ((cd r : Nat) : Int) = c) (hd : ((bd r : Nat) : Int) = d) (r1 : R) (n : Nat) (hn : rNum b r = (r1, n)) (a1 c1 d1 : Int) (ha1 : ((r1.at_ : Nat) : Int) = a1) (hc1 : ((cd r1 : Nat) : Int) = c1) (hd1 : ((bd r1 : Nat) : Int) = d1) (w : World) :
    Calls Tryd.prog 41 #[rr b a c d] w fun en w' => en = .returned (.tuple #[rr b a1 c1 d1, .int .i64 (n : Int)]) ∧ Fr No w w' := by
  have h1 := number_calls b r h w
  rw [hn] at h1
  unfold rv at h1
  rw [ha, hc, hd] at h1
  dsimp only at h1
  rw [ha1, hc1, hd1] at h1
  exact h1
theorem cd_pos {b : List UInt8} {a : Nat} {q : Nat × Nat} (h : ok b ⟨a, some q⟩) : (((cd ⟨a, some q⟩ : Nat) : Int) != 0) = true := by
  have := h.2.2 q rfl
  rw [bne_iff_ne]
  show ((q.2 : Nat) : Int) ≠ 0
  omega

set_option maxHeartbeats 16000000 in
set_option maxRecDepth 100000 in
theorem rdread_calls (b : List UInt8) (w : World) (hbl : b.length ≤ 100000) :
    Calls Tryd.prog 17 #[.string (bstr b)] w fun e w' => ∃ vo, e = .returned (.tuple #[vo, .int .i64 (cdD (errD (readD b)) : Nat), .int .i64 (atD (errD (readD b)) : Nat)]) ∧ Ow fD 119 w' vo (tokD (readD b)) ∧ Fr No w w' := by
  obtain ⟨RR, hRR⟩ : ∃ RR, readD b = RR := ⟨_, rfl⟩
  rw [hRR]
  obtain ⟨⟨r0, N⟩, hp0⟩ : ∃ p, rNum b ⟨0, none⟩ = p := ⟨_, rfl⟩
  have hN := num_le b ⟨0, none⟩
  rw [hp0] at hN
  have hRD : (match r0.err with | some q => .error q | none => if 8192 < N then .error (0, 2) else loopD b N r0 []) = RR := by
    rw [← hRR]; unfold readD; simp only [hp0]; rcases r0 with ⟨_, _ | _⟩ <;> rfl
  have ok0 : ok b ⟨0, none⟩ := ⟨Nat.zero_le _, by omega, fun q h => by cases h⟩
  have ok1 := ok_num ok0
  rw [hp0] at ok1
  dsimp only at hN ok1
  obtain ⟨a0, er0⟩ := r0
  obtain ⟨c0, hc0⟩ : ∃ c : Int, ((cd ⟨a0, er0⟩ : Nat) : Int) = c := ⟨_, rfl⟩
  obtain ⟨d0, hd0⟩ : ∃ d : Int, ((bd ⟨a0, er0⟩ : Nat) : Int) = d := ⟨_, rfl⟩
  have HN0 := fun W => numR b ⟨0, none⟩ ok0 0 0 0 rfl rfl rfl ⟨a0, er0⟩ N hp0 (a0 : Int) c0 d0 rfl hc0 hd0 W
  have HRD := Aside0.mk hRD; have HN0 := Aside0.mk HN0; have OK1 := Aside0.mk ok1; have HC0 := Aside0.mk hc0; have HD0 := Aside0.mk hd0
  clear hp0 hRD hRR ok0 ok1 hc0 hd0
  go_enter Tryd.func17, Tryd.ntmps17
  go_wp2_with fail
  refine (HN0.out _).mono ?_
  rintro e w1 ⟨rfl, hf⟩
  go_upto_region 2 with (refine PB.stRow (.tmp 5) (.tmp 17) 104 w1.heap.size 104 _ (rc b a0 c0 d0) rfl rfl rfl rfl (heap_alloc_new w1 _) (by kernel_rfl) rfl (by simp [Value.oneCell']) ?_; rw [World.setRow_alloc_new])
  refine name_alc (fun w2 h2 f2 => ?_)
  have F2 : Aside0 (Fr No w w2) := ⟨hf.none f2⟩
  have HGW : Aside0 (w.heap.size ≤ w1.heap.size) := ⟨hf.size⟩
  have X2 := Aside0.mk h2
  clear hf h2 f2 HN0
  obtain ⟨g, hg⟩ : ∃ g, w1.heap.size = g := ⟨_, rfl⟩
  rw [hg] at X2 HGW ⊢
  clear hg
  have k2 : w2.cell? ⟨g, 2, Option.none⟩ = some (.int .i64 c0) := by rw [blk_cell X2.out]; rfl
  have k3 : w2.cell? ⟨g, 3, Option.none⟩ = some (.int .i64 d0) := by rw [blk_cell X2.out]; rfl
  cases er0 with
  | some q =>
    have hne : (c0 != 0) = true := by rw [← HC0.out]; exact cd_pos OK1.out
    have HRE : Aside0 (RR = .error q) := ⟨HRD.out.symm⟩
    go_wp2_with fail
    refine Rg.start (fun _ x => Fr No w2 x) (by kernel_rfl) (by kernel_rfl) [] [] (by kernel_rfl) (.q 0 0 (.q 1 0 (.q 2 0 (.q 3 0 (.q 4 0 (.q 5 0 (.q 6 0 (.done)))))))) (by kernel_rfl) ?_ ?_
    · exact fun _ => (Fr.refl _ _).drew
    repeat (first
      | (refine Rg.q (o := ?_) (v := ?_) ?_ ?_ ?_ ?_ ?_
         rotate_left 2
         · (simp only [List.getElem?_toArray, List.getElem?_cons_succ, List.getElem?_cons_zero]; rfl)
         · exact fun _ _ _ h => h
         · first | rfl | (go_simp; done)
         · (intro x_ hx; (try dsimp only at hx); (have q0 := hx.cell k2 id; have q1 := hx.cell k3 id); go_simp; (try rw [if_neg (by omega)]); (try rw [if_pos (by omega)]); (try go_simp); try with_reducible rfl)
         try simp only [Act.put, List.setIfInBounds_toArray, List.set_cons_zero, List.set_cons_succ])
      | (refine Rg.skip (o := ?_) ?_ ?_ ?_ ?_
         rotate_left 1
         · (simp only [List.getElem?_toArray, List.getElem?_cons_succ, List.getElem?_cons_zero]; rfl)
         · exact fun _ _ _ h => h
         · first | rfl | (go_simp; done)
         try simp only [Act.put, List.setIfInBounds_toArray, List.set_cons_zero, List.set_cons_succ]))
    refine Rg.done ?_
    go_simp
    clear k2 k3
    go_wp2
    (try simp only [Exit.inBlock, Exit.then]); refine bodyPost_ret (results_list (rs := [.tmp 2, .tmp 3, .tmp 4]) rfl (by simp) (.tmp (.tmp (.tmp .nil)))) rfl ?_
    rw [HRE.out]
    refine ⟨_, ?_, Ow.nil _ _ _, F2.out.drew⟩
    rw [← HC0.out, ← HD0.out]
    rfl
  | none =>
    obtain rfl : c0 = 0 := HC0.out.symm
    obtain rfl : d0 = 0 := HD0.out.symm
    by_cases hlong : (8192 : Int) < (N : Int)
    · have HRE : Aside0 (RR = .error (0, 2)) := ⟨by rw [← HRD.out]; simp only []; rw [if_pos (by omega)]⟩
      go_wp2
      (try simp only [Exit.inBlock, Exit.then]); refine bodyPost_ret (results_list (rs := [.tmp 2, .tmp 3, .tmp 4]) rfl (by simp) (.tmp (.tmp (.tmp .nil)))) rfl ?_
      rw [HRE.out]
      exact ⟨_, rfl, Ow.nil _ _ _, F2.out⟩
    · have HL0 : Aside0 (loopD b (N - 0) ⟨a0, none⟩ [] = RR) := ⟨by rw [← HRD.out]; simp only []; rw [if_neg (by omega)]; rfl⟩
      have hN8 : N ≤ 8192 := by omega
      have ha0 := OK1.out.1
      dsimp only at ha0
      go_wp2_with fail
      clear hlong k2 k3 hN
      go_loopw [7, 8] (fun v7 v8 wr => ∃ (i a : Nat) (L : List Tok), v8 = .int .i64 (i : Int) ∧ i ≤ N ∧ a ≤ b.length ∧ Aside0 (loopD b (N - i) ⟨a, none⟩ L = RR) ∧ Aside0 (L.length = i) ∧ Aside0 (Ow fD 119 wr v7 L) ∧ Aside0 (∀ q, v7.ownBlock = some q → g < q) ∧ Aside0 (wr.heap[g]? = some (.cells (rc b (a : Int) 0 0) 104 (0, 0))) ∧ Aside0 (Fr No w wr)) (fun _ v8 _ => N - (intOf v8).toNat)
      case atStart => exact ⟨0, a0, [], rfl, Nat.zero_le _, ha0, HL0, ⟨rfl⟩, ⟨Ow.nil _ _ _⟩, ⟨fun q hq => by cases hq⟩, X2, F2⟩
      case round =>
        clear HL0 X2 F2 HRD OK1 HC0 HD0 ha0
        obtain ⟨i, a, L, rfl, hi, ha, HL, HLL, HO, HNW, HX, HF⟩ := hrel
        obtain ⟨Ao, co, hu⟩ := HO.out.form
        subst hu
        have hgl : g < wr.heap.size := blk_lt HX.out
        by_cases hil : i < N
        · have hiI : (i : Int) < (N : Int) := by omega
          obtain ⟨⟨⟨a1, er1⟩, n1⟩, hp1⟩ : ∃ p, rNum b ⟨a, none⟩ = p := ⟨_, rfl⟩
          obtain ⟨⟨⟨a2, er2⟩, n2⟩, hp2⟩ : ∃ p, rNum b ⟨a1, er1⟩ = p := ⟨_, rfl⟩
          have hb1 := num_le b ⟨a, none⟩
          have hb2 := num_le b ⟨a1, er1⟩
          rw [hp1] at hb1
          rw [hp2] at hb2
          dsimp only at hb1 hb2
          have hstep : stepD b ⟨a, none⟩ = orE er2 (if n1 = 0 then (if n2 = 0 then .error (a, 80) else if b.length - a2 < n2 then .error (b.length, 30) else .ok (⟨a2 + n2, none⟩, (0, 0, (b.drop a2).take n2))) else .ok (⟨a2, er2⟩, ((n2 : Int), (n1 : Int), []))) := by
            unfold stepD; simp only [hp1, hp2]; cases er2 <;> rfl
          have oka : ok b ⟨a, none⟩ := ⟨ha, by omega, fun q h => by cases h⟩
          have ok1 := ok_num oka
          rw [hp1] at ok1
          dsimp only at ok1
          have ok2 := ok_num ok1
          rw [hp2] at ok2
          dsimp only at ok2
          obtain ⟨c1, hc1⟩ : ∃ c : Int, ((cd ⟨a1, er1⟩ : Nat) : Int) = c := ⟨_, rfl⟩
          obtain ⟨d1, hd1⟩ : ∃ d : Int, ((bd ⟨a1, er1⟩ : Nat) : Int) = d := ⟨_, rfl⟩
          obtain ⟨c2, hc2⟩ : ∃ c : Int, ((cd ⟨a2, er2⟩ : Nat) : Int) = c := ⟨_, rfl⟩
          obtain ⟨d2, hd2⟩ : ∃ d : Int, ((bd ⟨a2, er2⟩ : Nat) : Int) = d := ⟨_, rfl⟩
          have HN1 := Aside0.mk (fun W => numR b ⟨a, none⟩ oka (a : Int) 0 0 rfl rfl rfl ⟨a1, er1⟩ n1 hp1 (a1 : Int) c1 d1 rfl hc1 hd1 W)
          have HN2 := Aside0.mk (fun W => numR b ⟨a1, er1⟩ ok1 (a1 : Int) c1 d1 rfl hc1 hd1 ⟨a2, er2⟩ n2 hp2 (a2 : Int) c2 d2 rfl hc2 hd2 W)
          have HNI : Aside0 (N - i = (N - (i + 1)) + 1) := ⟨by omega⟩
          have HSTEP := Aside0.mk hstep; have OK2 := Aside0.mk ok2; have HC2 := Aside0.mk hc2; have HD2 := Aside0.mk hd2
          have LD := ld_all (P := Tryd.prog) (ty := 104) HX.out Tryd.underlying104 rfl (by kernel_rfl)
          have k1 : wr.cell? ⟨g, 1, Option.none⟩ = some (.int .i64 (a : Int)) := by rw [blk_cell HX.out]; rfl
          clear hstep hp1 hp2 oka ok1 ok2 hc1 hd1 hc2 hd2
          go_wp2_with (first
            | (refine ldG (.tmp 5) 104 _ _ rfl rfl (LD _ (Fr.refl _ _)) (by first | rfl | (go_simp; done)) ?_)
            | fail)
          refine (HN1.out _).mono ?_
          rintro e w3 ⟨rfl, hf⟩
          clear LD k1
          go_upto_region 12 with (refine PB.stRow (.tmp 10) (.tmp 38) 104 w3.heap.size 104 _ (rc b a1 c1 d1) rfl rfl rfl rfl (heap_alloc_new w3 _) (by kernel_rfl) rfl (by simp [Value.oneCell']) ?_; rw [World.setRow_alloc_new])
          refine name_alc (fun w4 h4 f4 => ?_)
          have F4 : Aside0 (Fr No wr w4) := ⟨hf.none f4⟩
          have X4 := Aside0.mk h4
          have HGH : Aside0 (wr.heap.size ≤ w3.heap.size) := ⟨hf.size⟩
          clear hf h4 f4
          obtain ⟨gn, hgn⟩ : ∃ gn, w3.heap.size = gn := ⟨_, rfl⟩
          rw [hgn] at X4 HGH ⊢
          clear hgn
          have LD4 := ld_all (P := Tryd.prog) (ty := 104) X4.out Tryd.underlying104 rfl (by kernel_rfl)
          go_wp2_with (first
            | (refine ldG (.tmp 10) 104 _ _ rfl rfl (LD4 _ (Fr.refl _ _)) (by first | rfl | (go_simp; done)) ?_)
            | fail)
          refine (HN2.out _).mono ?_
          rintro e w5 ⟨rfl, hf⟩
          have F5 : Aside0 (Fr No wr w5) := ⟨F4.out.none hf⟩
          have X5 := Aside0.mk (hf.heap X4.out id)
          clear hf LD4 X4
          go_upto_region 13 with (refine PB.stRow (.tmp 10) (.tmp 43) 104 gn 104 _ (rc b a2 c2 d2) rfl rfl rfl rfl X5.out (by kernel_rfl) rfl (by simp [Value.oneCell']) ?_)
          refine name_row X5.out (fun w6 h6 f6 => ?_)
          have F6 : Aside0 (Fr No wr w6) := ⟨F5.out.trans f6 (fun q hq e => by have e' : q = gn := e; have := HGH.out; omega)⟩
          have X6 := Aside0.mk h6
          have XG6 := Aside0.mk (F6.out.heap HX.out id)
          have LD6 := ld_all (P := Tryd.prog) (ty := 104) h6 Tryd.underlying104 rfl (by kernel_rfl)
          clear h6 f6 X5
          go_upto_region 14 with (first
            | (refine ldG (.tmp 10) 104 _ _ rfl rfl (LD6 _ (Fr.refl _ _)) (by first | rfl | (go_simp; done)) ?_)
            | (refine PB.stRow (.tmp 5) (.tmp 45) 104 g 104 _ (rc b a2 c2 d2) rfl rfl rfl rfl XG6.out (by kernel_rfl) rfl (by simp [Value.oneCell']) ?_))
          refine name_row XG6.out (fun w7 h7 f7 => ?_)
          have K7 : Aside0 (Fr (one g) wr w7) := ⟨(F6.out.mono (fun _ _ h => h.elim)).trans f7 (fun _ _ h => h)⟩
          have F7 : Aside0 (Fr No w w7) := ⟨HF.out.trans K7.out (fun q hq e => by have e' : q = g := e; have := HGW.out; omega)⟩
          have X7 := Aside0.mk h7
          have k1 : w7.cell? ⟨g, 1, Option.none⟩ = some (.int .i64 (a2 : Int)) := by rw [blk_cell h7]; rfl
          have k2 : w7.cell? ⟨g, 2, Option.none⟩ = some (.int .i64 c2) := by rw [blk_cell h7]; rfl
          have k3 : w7.cell? ⟨g, 3, Option.none⟩ = some (.int .i64 d2) := by rw [blk_cell h7]; rfl
          have HO7 : Aside0 (Ow fD 119 w7 (.slice Ao L.length co) L) := ⟨HO.out.fr K7.out (fun q hq e => by have e' : q = g := e; have := HNW.out q hq; omega)⟩
          clear h7 f7 LD6 X6 XG6
          have hll : L.length ≤ 8192 := by rw [HLL.out]; omega
          cases er2 with
          | some q =>
            have hne : (c2 != 0) = true := by rw [← HC2.out]; exact cd_pos OK2.out
            have HRE : Aside0 (RR = .error q) := ⟨by rw [← HL.out, HNI.out]; exact loopD_err HSTEP.out⟩
            go_wp2_with fail
            refine Rg.start (fun _ x => Fr No w7 x) (by kernel_rfl) (by kernel_rfl) [] [] (by kernel_rfl) (.q 0 0 (.q 1 0 (.q 2 0 (.q 3 0 (.q 4 0 (.q 5 0 (.q 6 0 (.done)))))))) (by kernel_rfl) ?_ ?_
            · exact fun _ => (Fr.refl _ _).drew
            repeat (first
              | (refine Rg.q (o := ?_) (v := ?_) ?_ ?_ ?_ ?_ ?_
                 rotate_left 2
                 · (simp only [List.getElem?_toArray, List.getElem?_cons_succ, List.getElem?_cons_zero]; rfl)
                 · exact fun _ _ _ h => h
                 · first | rfl | (go_simp; done)
                 · (intro x_ hx; (try dsimp only at hx); (have q0 := hx.cell k2 id; have q1 := hx.cell k3 id); go_simp; (try rw [if_neg (by omega)]); (try rw [if_pos (by omega)]); (try go_simp); try with_reducible rfl)
                 try simp only [Act.put, List.setIfInBounds_toArray, List.set_cons_zero, List.set_cons_succ])
              | (refine Rg.skip (o := ?_) ?_ ?_ ?_ ?_
                 rotate_left 1
                 · (simp only [List.getElem?_toArray, List.getElem?_cons_succ, List.getElem?_cons_zero]; rfl)
                 · exact fun _ _ _ h => h
                 · first | rfl | (go_simp; done)
                 try simp only [Act.put, List.setIfInBounds_toArray, List.set_cons_zero, List.set_cons_succ]))
            refine Rg.done ?_
            go_simp
            clear k1 k2 k3
            go_wp2
            (try simp only [Exit.inBlock, Exit.then]); refine bodyPost_ret (results_list (rs := [.tmp 2, .tmp 3, .tmp 4]) rfl (by simp) (.tmp (.tmp (.tmp .nil)))) rfl ?_
            rw [HRE.out]
            refine ⟨_, ?_, Ow.nil _ _ _, F7.out.drew⟩
            rw [← HC2.out, ← HD2.out]
            rfl
          | none =>
            obtain rfl : c2 = 0 := HC2.out.symm
            obtain rfl : d2 = 0 := HD2.out.symm
            have ha2 := OK2.out.1
            dsimp only at ha2
            by_cases hn1 : n1 = 0
            · subst hn1
              by_cases hn2 : n2 = 0
              · subst hn2
                have HRE : Aside0 (RR = .error (a, 80)) := ⟨by rw [← HL.out, HNI.out]; exact loopD_err HSTEP.out⟩
                go_wp2
                (try simp only [Exit.inBlock, Exit.then]); refine bodyPost_ret (results_list (rs := [.tmp 2, .tmp 3, .tmp 4]) rfl (by simp) (.tmp (.tmp (.tmp .nil)))) rfl ?_
                rw [HRE.out]
                exact ⟨_, rfl, Ow.nil _ _ _, F7.out⟩
              · have hm2 : ((n2 : Int) == 0) = false := by rw [beq_eq_false_iff_ne]; omega
                have hwl : IntKind.i64.wrap ((b.length : Int) - (a2 : Int)) = (b.length : Int) - (a2 : Int) := by rw [i64_left]; exact wrap64_in _ (by omega)
                by_cases hs : b.length - a2 < n2
                · have hsI : (b.length : Int) - (a2 : Int) < (n2 : Int) := by omega
                  have HRE : Aside0 (RR = .error (b.length, 30)) := ⟨by
                    rw [← HL.out, HNI.out]
                    have := HSTEP.out
                    simp only [orE] at this
                    rw [if_pos trivial, if_neg hn2, if_pos hs] at this
                    exact loopD_err this⟩
                  clear hn2 hs
                  go_wp2
                  (try simp only [Exit.inBlock, Exit.then]); refine bodyPost_ret (results_list (rs := [.tmp 2, .tmp 3, .tmp 4]) rfl (by simp) (.tmp (.tmp (.tmp .nil)))) rfl ?_
                  rw [HRE.out]
                  exact ⟨_, rfl, Ow.nil _ _ _, F7.out⟩
                · have hsI : ¬ (b.length : Int) - (a2 : Int) < (n2 : Int) := by omega
                  have hle : a2 + n2 ≤ b.length := by omega
                  obtain ⟨ys, hys⟩ : ∃ ys, (b.drop a2).take n2 = ys := ⟨_, rfl⟩
                  have HLN : Aside0 (loopD b (N - (i + 1)) ⟨a2 + n2, none⟩ (L ++ [(0, 0, ys)]) = RR) := ⟨by
                    rw [← HL.out, HNI.out]
                    have := HSTEP.out
                    simp only [orE] at this
                    rw [if_pos trivial, if_neg hn2, if_neg hs] at this
                    rw [loopD_ok this, hys]⟩
                  have hcut : ∀ W : World, (Instr.slice 9 (.string (bstr b)) (some (.int .i64 (a2 : Int))) (some (.int .i64 ((a2 : Int) + (n2 : Int)))) none).run Tryd.prog W = .ok (.string (bstr ys)) W := fun W => by
                    rw [run_slice_string W 9 (bstr b) .i64 .i64 _ _ Tryd.underlying9 (by omega) (by omega) (by rw [bstr_size]; omega), bstr_extract, show ((a2 : Int) + (n2 : Int)).toNat = a2 + n2 by omega, Int.toNat_natCast, List.drop_take, Nat.add_sub_cancel_left, hys]
                  have hwa : IntKind.i64.wrap ((a2 : Int) + (n2 : Int)) = (a2 : Int) + (n2 : Int) := by rw [i64_left]; exact wrap64_in _ (by omega)
                  have hfz : w7.frozen? ⟨g, 1, Option.none⟩ = false := blk_frozen X7.out _
                  clear hn2 hs hys
                  go_upto_region 23 with (at_builtin; go_loud (refine ap1 (f := fD) rfl (.tmp 73) (.tmp 83) 47 119 (.agg #[.int .i64 0, .int .i64 0, .string ⟨#[]⟩]) 32 rfl Tryd.underlying47 infoD rfl (by decide) (by decide) (.slice Ao L.length co) L (0, 0, ys) [.int .i64 0, .int .i64 0, .string (bstr ys)] rfl rfl rfl HO7.out (by omega) ?_; intro v5 w9 h1 h2 h3 h4; have H1 := Aside0.mk h1; have H2 := Aside0.mk h2; have H3 := Aside0.mk h3; clear h1 h2 h3 h4))
                  have hng : ¬ blk (.slice Ao L.length co) g := fun hb => by have := HNW.out g hb; omega
                  have X9 := Aside0.mk (H2.out.heap X7.out hng)
                  have j1 : w9.cell? ⟨g, 1, Option.none⟩ = some (.int .i64 (a2 : Int)) := by rw [blk_cell X9.out]; rfl
                  have jf : w9.frozen? ⟨g, 1, Option.none⟩ = false := blk_frozen X9.out _
                  clear hcut k1 k2 k3 hfz hng
                  go_wp2
                  go_roundw
                  case rel =>
                    have hFw : Fr No w w9 := F7.out.trans H2.out (fun q hq hb => by have := HNW.out q hb; have := HGW.out; omega)
                    have hs7 := K7.out.size
                    have hgn : ∀ q, v5.ownBlock = some q → g < q := fun q hq => by
                      rcases H3.out with h9 | ⟨q', h9, h10⟩
                      · exact HNW.out q (h9 ▸ hq)
                      · rw [hq] at h9; injection h9 with h9; omega
                    refine ⟨i + 1, a2 + n2, L ++ [(0, 0, ys)], by go_num, by omega, hle, HLN, ⟨by rw [List.length_append, HLL.out]; rfl⟩, ⟨H1.out.fr (fr_one_set w9 g 1 _) (fun q hq e => by have e' : q = g := e; have := hgn q hq; omega)⟩, ⟨hgn⟩, ⟨?_⟩, ⟨hFw.setCell (p := ⟨g, 1, none⟩) (.inr HGW.out) _⟩⟩
                    have := blk_set X9.out 1 (.int .i64 ((a2 : Int) + (n2 : Int)))
                    simpa using this
                  case measure => simp [intOf]; omega
            · have hm1 : (0 : Int) < (n1 : Int) := by omega
              have HLN : Aside0 (loopD b (N - (i + 1)) ⟨a2, none⟩ (L ++ [((n2 : Int), (n1 : Int), [])]) = RR) := ⟨by
                rw [← HL.out, HNI.out]
                have := HSTEP.out
                simp only [orE] at this
                rw [if_neg hn1] at this
                rw [loopD_ok this]⟩
              clear hn1
              go_wp2_with (at_builtin; go_loud (refine ap1 (f := fD) rfl (.tmp 55) (.tmp 59) 47 119 (.agg #[.int .i64 0, .int .i64 0, .string ⟨#[]⟩]) 32 rfl Tryd.underlying47 infoD rfl (by decide) (by decide) (.slice Ao L.length co) L ((n2 : Int), (n1 : Int), []) [.int .i64 (n2 : Int), .int .i64 (n1 : Int), .string ⟨#[]⟩] rfl rfl rfl HO7.out (by omega) ?_; intro v5 w9 h1 h2 h3 h4; have H1 := Aside0.mk h1; have H2 := Aside0.mk h2; have H3 := Aside0.mk h3; clear h1 h2 h3 h4))
              go_roundw
              case rel =>
                have hFw : Fr No w w9 := F7.out.trans H2.out (fun q hq hb => by have := HNW.out q hb; have := HGW.out; omega)
                have hs7 := K7.out.size
                refine ⟨i + 1, a2, L ++ [((n2 : Int), (n1 : Int), [])], by go_num, by omega, ha2, HLN, ⟨by rw [List.length_append, HLL.out]; rfl⟩, H1, ⟨fun q hq => ?_⟩, ⟨H2.out.heap X7.out (fun hb => by have := HNW.out g hb; omega)⟩, ⟨hFw⟩⟩
                rcases H3.out with h9 | ⟨q', h9, h10⟩
                · exact HNW.out q (h9 ▸ hq)
                · rw [hq] at h9; injection h9 with h9; omega
              case measure => simp [intOf]; omega
        · have hiI : ¬ (i : Int) < (N : Int) := by omega
          have oka : ok b ⟨a, none⟩ := ⟨ha, by omega, fun q h => by cases h⟩
          have hee : rEnd b ⟨a, none⟩ = ⟨a, (rEnd b ⟨a, none⟩).err⟩ := by
            unfold rEnd R.fail
            simp only []
            split <;> rfl
          obtain ⟨er, her⟩ : ∃ er, (rEnd b ⟨a, none⟩).err = er := ⟨_, rfl⟩
          have hre := HL.out
          rw [show N - i = 0 by omega, loopD] at hre
          unfold endD at hre
          rw [her] at hre hee
          obtain ⟨c1, hc1⟩ : ∃ c : Int, ((cd ⟨a, er⟩ : Nat) : Int) = c := ⟨_, rfl⟩
          obtain ⟨d1, hd1⟩ : ∃ d : Int, ((bd ⟨a, er⟩ : Nat) : Int) = d := ⟨_, rfl⟩
          have oke : ok b ⟨a, er⟩ := by
            refine ⟨ha, by omega, fun q hq => ?_⟩
            have hq' : er = some q := hq
            have := pos_end (pos_none a) b q (by rw [her, hq'])
            exact this
          have HEN : Aside0 (∀ W, Calls Tryd.prog 44 #[rr b (a : Int) 0 0] W fun en w' => en = .returned (rr b (a : Int) c1 d1) ∧ Fr No W w') := ⟨fun W => by
            have h := end_calls b ⟨a, none⟩ oka W
            rw [hee] at h
            unfold rv at h
            dsimp only at h
            rw [hc1, hd1] at h
            exact h⟩
          have LD := ld_all (P := Tryd.prog) (ty := 104) HX.out Tryd.underlying104 rfl (by kernel_rfl)
          have HRE := Aside0.mk hre; have OKE := Aside0.mk oke; have HC1 := Aside0.mk hc1; have HD1 := Aside0.mk hd1
          clear hee her hre oka oke hc1 hd1
          go_wp2_with (first
            | (refine ldG (.tmp 5) 104 _ _ rfl rfl (LD _ (Fr.refl _ _)) (by first | rfl | (go_simp; done)) ?_)
            | fail)
          refine (HEN.out _).mono ?_
          rintro e w3 ⟨rfl, hf⟩
          have X3 := Aside0.mk (hf.heap HX.out id)
          have F3 : Aside0 (Fr No w w3) := ⟨HF.out.none hf⟩
          have HO3 := Aside0.mk (HO.out.no hf)
          clear hf LD
          go_upto_region 25 with (refine PB.stRow (.tmp 5) (.tmp 91) 104 g 104 _ (rc b a c1 d1) rfl rfl rfl rfl X3.out (by kernel_rfl) rfl (by simp [Value.oneCell']) ?_)
          refine name_row X3.out (fun w4 h4 f4 => ?_)
          have F4 : Aside0 (Fr No w w4) := ⟨F3.out.trans f4 (fun q hq e => by have e' : q = g := e; have := HGW.out; omega)⟩
          have HO4 : Aside0 (Ow fD 119 w4 (.slice Ao L.length co) L) := ⟨HO3.out.fr f4 (fun q hq e => by have e' : q = g := e; have := HNW.out q hq; omega)⟩
          have k2 : w4.cell? ⟨g, 2, Option.none⟩ = some (.int .i64 c1) := by rw [blk_cell h4]; rfl
          have k3 : w4.cell? ⟨g, 3, Option.none⟩ = some (.int .i64 d1) := by rw [blk_cell h4]; rfl
          clear h4 f4
          cases er with
          | some q =>
            have hne : (c1 != 0) = true := by rw [← HC1.out]; exact cd_pos OKE.out
            have HR2 : Aside0 (RR = .error q) := ⟨HRE.out.symm⟩
            go_wp2_with fail
            refine Rg.start (fun _ x => Fr No w4 x) (by kernel_rfl) (by kernel_rfl) [] [] (by kernel_rfl) (.q 0 0 (.q 1 0 (.q 2 0 (.q 3 0 (.q 4 0 (.q 5 0 (.q 6 0 (.done)))))))) (by kernel_rfl) ?_ ?_
            · exact fun _ => (Fr.refl _ _).drew
            repeat (first
              | (refine Rg.q (o := ?_) (v := ?_) ?_ ?_ ?_ ?_ ?_
                 rotate_left 2
                 · (simp only [List.getElem?_toArray, List.getElem?_cons_succ, List.getElem?_cons_zero]; rfl)
                 · exact fun _ _ _ h => h
                 · first | rfl | (go_simp; done)
                 · (intro x_ hx; (try dsimp only at hx); (have q0 := hx.cell k2 id; have q1 := hx.cell k3 id); go_simp; (try rw [if_neg (by omega)]); (try rw [if_pos (by omega)]); (try go_simp); try with_reducible rfl)
                 try simp only [Act.put, List.setIfInBounds_toArray, List.set_cons_zero, List.set_cons_succ])
              | (refine Rg.skip (o := ?_) ?_ ?_ ?_ ?_
                 rotate_left 1
                 · (simp only [List.getElem?_toArray, List.getElem?_cons_succ, List.getElem?_cons_zero]; rfl)
                 · exact fun _ _ _ h => h
                 · first | rfl | (go_simp; done)
                 try simp only [Act.put, List.setIfInBounds_toArray, List.set_cons_zero, List.set_cons_succ]))
            refine Rg.done ?_
            go_simp
            clear k2 k3
            go_wp2
            (try simp only [Exit.inBlock, Exit.then]); refine bodyPost_ret (results_list (rs := [.tmp 2, .tmp 3, .tmp 4]) rfl (by simp) (.tmp (.tmp (.tmp .nil)))) rfl ?_
            rw [HR2.out]
            refine ⟨_, ?_, Ow.nil _ _ _, F4.out.drew⟩
            rw [← HC1.out, ← HD1.out]
            rfl
          | none =>
            obtain rfl : c1 = 0 := HC1.out.symm
            have HR2 : Aside0 (RR = .ok L) := ⟨HRE.out.symm⟩
            clear k3
            go_wp2
            (try simp only [Exit.inBlock, Exit.then]); refine bodyPost_ret (results_list (rs := [.tmp 2, .tmp 3, .tmp 4]) rfl (by simp) (.tmp (.tmp (.tmp .nil)))) rfl ?_
            rw [HR2.out]
            exact ⟨_, rfl, HO4.out, F4.out⟩
end Go.Proofs.YtanbddaecojijaaDoor.Tk
