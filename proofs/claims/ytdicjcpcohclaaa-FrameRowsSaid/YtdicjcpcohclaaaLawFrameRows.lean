/- The walk of the law FrameRows. -/
import Derived.Test.YtdicjcpcohclaaaFrameL
import Derived.Test.YtdicjcpcohclaaaSpecRead
import Derived.Test.YtdicjcpcohclaaaLiftF
set_option linter.unusedVariables false
set_option linter.unusedSimpArgs false
namespace Go.Proofs.Ytdicjcpcohclaaa.LFrameRows
open Go.RowKit Go.Proofs.YtdicjcpcohclaaaW.PrintWords Go.Proofs.Ytdicjcpcohclaaa.B Go.Proofs.Ytdicjcpcohclaaa.PB Go.Proofs.Ytdicjcpcohclaaa.SCode Go.Proofs.Ytdicjcpcohclaaa.Rdr Go.Proofs.Ytdicjcpcohclaaa.Frm
attribute [local go_sem] B.max2_int B.min2_int B.max_two B.min_two

theorem walk_out (v : Value) (es : List FV) (w : World) (hv : Rd fF w v es) (h : 20 < es.length) : Calls Try.prog 11 #[v] w fun e w' => e = .returned (.bool true) ∧ Fr No w w' := by
  obtain ⟨A, c, rfl, _⟩ := id hv
  have hI : (20 : Int) < (es.length : Int) := by omega
  clear hv
  go_enter Try.func11, Try.ntmps11
  go_wp2_with fail
  refine (readsF_calls _).mono ?_
  rintro e w1 ⟨rfl, hf⟩
  have F1 := Aside0.mk hf; clear hf
  go_wp2
  go_ret
  exact ⟨rfl, F1.out⟩

/-- The bytes of frames, one behind the other. -/
def fbs (gs : List FV) : List UInt8 := gs.flatMap fun e => frameB e.k e.s e.xs
theorem frameB_length (k s : Int) (xs : List UInt8) (h : checkE k s xs.length = 0) : (frameB k s xs).length ≤ 16400 := by
  have := numI_length (xs.length : Int)
  have := checkE_ok h
  simp [frameB]; omega
theorem fbs_length (gs : List FV) (h : ∀ e ∈ gs, checkE e.k e.s e.xs.length = 0) : (fbs gs).length ≤ gs.length * 16400 := by
  induction gs with
  | nil => simp [fbs]
  | cons e gs ih =>
    have h1 := frameB_length e.k e.s e.xs (h e List.mem_cons_self)
    have h2 := ih (fun x hx => h x (List.mem_cons_of_mem _ hx))
    have : (fbs (e :: gs)).length = (frameB e.k e.s e.xs).length + (fbs gs).length := by simp [fbs]
    rw [this, List.length_cons]
    omega

theorem infoF : (Try.prog.info? 46).map (fun i => (i.zero, i.size, i.bytes)) = some (some (.agg #[.int .i64 0, .int .i64 0, .slice none 0 0]), 3, 40) := by kernel_rfl

set_option maxHeartbeats 4000000 in
set_option maxRecDepth 100000 in
theorem walk_ok (v : Value) (es : List FV) (w : World) (hv : Rd fF w v es) (hes : ∀ e ∈ es, e.ok w) (h20 : es.length ≤ 20) : Calls Try.prog 11 #[v] w fun e w' => e = .returned (.bool true) ∧ Fr No w w' := by
  obtain ⟨A, c, rfl, hlc, hcm, hcell⟩ := id hv
  have HV := Aside0.mk hv; have HES := Aside0.mk hes; have HC := Aside0.mk hcell; clear hv hes hcell
  have hI : ¬ (20 : Int) < (es.length : Int) := by omega
  go_enter Try.func11, Try.ntmps11
  go_wp2_with fail
  refine (readsF_calls _).mono ?_
  rintro e w1 ⟨rfl, hf⟩
  have F1 := Aside0.mk hf; clear hf
  go_wp2
  go_loopw [3, 4, 21] (fun v3 v4 v21 wr => ∃ (j : Nat) (gs : List FV), v21 = .int .i64 j ∧ j ≤ es.length ∧ gs.length ≤ j ∧ Aside0 (∀ e ∈ gs, e.ok w ∧ checkE e.k e.s e.xs.length = 0) ∧ Aside0 (OwB wr v3 (fbs gs)) ∧ Aside0 (Ow fF 46 wr v4 gs) ∧ Aside0 (Fr No w wr) ∧ Aside0 (∀ q, v3.ownBlock = some q → w.heap.size ≤ q) ∧ Aside0 (∀ q, v4.ownBlock = some q → w.heap.size ≤ q)) (fun _ _ i _ => es.length - (intOf i).toNat)
  case atStart => exact ⟨0, [], rfl, by omega, by simp, ⟨fun e he => by cases he⟩, ⟨Ow.nil _ _ _⟩, ⟨Ow.nil _ _ _⟩, F1, ⟨fun q hq => by cases hq⟩, ⟨fun q hq => by cases hq⟩⟩
  case round =>
    obtain ⟨j, gs, rfl, hj, hgj, HG, HO3, HO4, HFr, HN3, HN4⟩ := hrel
    by_cases hjl : j < es.length
    · have hjI : (j : Int) < (es.length : Int) := by omega
      obtain ⟨ad, rfl, hc⟩ := HC.out (by omega)
      obtain ⟨e, he⟩ : ∃ e, es[j]? = some e := ⟨_, List.getElem?_eq_getElem hjl⟩
      have hcj : ∀ i u, (fF.enc e)[i]? = some u → wr.cell? ((ad.add (j * 3)).add i) = some u := fun i u hu => by
        rw [add_add]
        refine HFr.out.cell (hc _ _ ?_) id
        have hi : i < 3 := (List.getElem?_eq_some_iff.1 hu).1
        have := fF.cells_get es j e he i hi
        rw [show j * fF.sz + i = j * 3 + i from rfl] at this
        rw [this, hu]
      have k0 : wr.cell? (ad.add (j * 3)) = some (.int .i64 e.k) := hcj 0 _ rfl
      have k1 : wr.cell? { block := (ad.add (j * 3)).block, off := (ad.add (j * 3)).off + 1 } = some (.int .i64 e.s) := hcj 1 _ rfl
      have k2 : wr.cell? { block := (ad.add (j * 3)).block, off := (ad.add (j * 3)).off + 2 } = some (.slice e.A e.xs.length e.c) := hcj 2 _ rfl
      clear hcj hc
      go_wp2_with fail
      have hee : e ∈ es := List.mem_of_getElem? he
      have hok := HES.out e hee
      have EA : Fr No wr (wr.alloc (.cells #[.int .i64 e.k, .int .i64 e.s, e.dv] 46)) := (Fr.refl _ _).alloc _
      have RD : Aside0 (RdB (wr.alloc (.cells #[.int .i64 e.k, .int .i64 e.s, e.dv] 46)) e.dv e.xs) := ⟨(hok.1.no HFr.out).no EA⟩
      have NVb : Aside0 (∀ q, q < w.heap.size → ¬ blk u3 q) := ⟨fun q hq hb => by have := HN3.out q hb; omega⟩
      by_cases hce : checkE e.k e.s e.xs.length = 0
      · refine (append_calls e.k e.s e.dv u3 e.xs (fbs gs) _ hce (HO3.out.no EA) RD.out ?b1 (fun hn b hb => NVb.out b (Rd.lt (by decide) hok.1 hn b hb))).mono ?_
        case b1 => have := fbs_length gs (fun e he => (HG.out e he).2); omega
        rintro en w2 ⟨v2, rfl, g⟩
        have G2 := Aside0.mk g
        have HB : Aside0 (w2.heap[wr.heap.size]? = some (.cells #[.int .i64 e.k, .int .i64 e.s, e.dv] 46 (0, 0))) := ⟨g.fr.heap (blk_new wr _) (fun hb => by have := HO3.out.lt _ hb; omega)⟩
        have c0 : w2.cell? ⟨wr.heap.size, 0, none⟩ = some (.int .i64 e.k) := by rw [blk_cell HB.out]; rfl
        have c1 : w2.cell? ⟨wr.heap.size, 1, none⟩ = some (.int .i64 e.s) := by rw [blk_cell HB.out]; rfl
        have c2 : w2.cell? ⟨wr.heap.size, 2, none⟩ = some (.slice e.A e.xs.length e.c) := by rw [blk_cell HB.out]; rfl
        have F2 : Aside0 (Fr (blk u3) wr w2) := ⟨(EA.mono (fun _ _ h => h.elim)).trans g.fr (fun _ _ h => h)⟩
        have NE : Aside0 (∀ q, u4.ownBlock = some q → ¬ blk u3 q) := ⟨fun q hq hb => HO4.out.ne HO3.out (by decide) q hq hb⟩
        clear g k0 k1 k2 EA
        go_wp2_with (at_builtin; go_loud (refine ap1 (f := fF) rfl (.tmp 34) (.tmp 36) 57 46 (.agg #[.int .i64 0, .int .i64 0, .slice none 0 0]) 40 rfl Try.underlying57 infoF rfl (by decide) (by decide) u4 gs e [.int .i64 e.k, .int .i64 e.s, e.dv] rfl rfl rfl (HO4.out.fr F2.out NE.out) ?c3 ?_; (case c3 => omega); intro v5 w5 h1 h2 h3 h4; have H1 := Aside0.mk h1; have H2 := Aside0.mk h2; have H3 := Aside0.mk h3; clear h1 h2 h3 h4))
        go_roundw
        case rel =>
          have hsz := HFr.out.size
          refine ⟨j + 1, gs ++ [e], by go_num, by omega, by simp; omega, ⟨fun x hx => ?_⟩, ⟨?_⟩, ⟨H1.out⟩, ⟨?_⟩, ⟨fun q hq => ?_⟩, ⟨fun q hq => ?_⟩⟩
          · rcases List.mem_append.1 hx with hx | hx
            · exact HG.out x hx
            · obtain rfl : x = e := by simpa using hx
              exact ⟨hok, hce⟩
          · have := G2.out.own.fr H2.out (fun q hq hb => G2.out.own.ne (HO4.out.fr F2.out NE.out) (by decide) q hq hb)
            simpa [fbs] using this
          · exact (HFr.out.trans F2.out (fun q hq hb => absurd (HN3.out q hb) (by omega))).trans H2.out (fun q hq hb => absurd (HN4.out q hb) (by omega))
          · by_cases hlt : q < wr.heap.size
            · exact HN3.out q (G2.out.at_.back hq (by simp; omega))
            · omega
          · by_cases hlt : q < w2.heap.size
            · exact HN4.out q (H3.out.back hq hlt)
            · have := F2.out.size; omega
        case measure => simp [intOf]; omega
      · refine (append_bad_calls e.k e.s e.A e.xs.length e.c u3 _ hce).mono ?_
        rintro en w2 ⟨rfl, hf⟩
        have F2 : Aside0 (Fr No wr w2) := ⟨EA.none hf⟩
        have hceI : ¬ checkE e.k e.s e.xs.length = 0 := hce
        clear hf k0 k1 k2 EA
        go_wp2
        go_roundw
        case rel => exact ⟨j + 1, gs, by go_num, by omega, by omega, HG, ⟨HO3.out.no F2.out⟩, ⟨HO4.out.no F2.out⟩, ⟨HFr.out.none F2.out⟩, HN3, HN4⟩
        case measure => simp [intOf]; omega
    · have hjI : ¬ (j : Int) < (es.length : Int) := by omega
      obtain ⟨Ag, cg, rfl⟩ := HO4.out.form
      have hg20 : gs.length ≤ 20 := by omega
      obtain ⟨wa, hwa⟩ : ∃ wa, wa = wr := ⟨_, rfl⟩
      subst hwa
      go_wp2
      go_loopw [3, 41] (fun v3 v41 wq => ∃ i : Nat, v41 = .int .i64 i ∧ i ≤ gs.length ∧ Aside0 (RdB wq v3 (fbs (gs.drop i))) ∧ Aside0 (Fr No wa wq)) (fun _ i _ => gs.length - (intOf i).toNat)
      case atStart => exact ⟨0, rfl, by omega, ⟨HO3.out.rd⟩, ⟨Fr.refl _ _⟩⟩
      case round =>
        obtain ⟨i, rfl, hi, HR, HQ⟩ := hrel
        by_cases hil : i < gs.length
        · have hiI : (i : Int) < (gs.length : Int) := by omega
          obtain ⟨A3, c3, he3, _, _, hc3⟩ := HO4.out.rd
          injection he3 with q1 _ q3
          subst q1 q3
          obtain ⟨ad, rfl, hc⟩ := hc3 (by omega)
          obtain ⟨e, he⟩ : ∃ e, gs[i]? = some e := ⟨_, List.getElem?_eq_getElem hil⟩
          have hcj : ∀ q u, (fF.enc e)[q]? = some u → wr.cell? ((ad.add (i * 3)).add q) = some u := fun q u hu => by
            rw [add_add]
            refine HQ.out.cell (hc _ _ ?_) id
            have hq : q < 3 := (List.getElem?_eq_some_iff.1 hu).1
            have := fF.cells_get gs i e he q hq
            rw [show i * fF.sz + q = i * 3 + q from rfl] at this
            rw [this, hu]
          have k0 : wr.cell? (ad.add (i * 3)) = some (.int .i64 e.k) := hcj 0 _ rfl
          have k1 : wr.cell? { block := (ad.add (i * 3)).block, off := (ad.add (i * 3)).off + 1 } = some (.int .i64 e.s) := hcj 1 _ rfl
          have k2 : wr.cell? { block := (ad.add (i * 3)).block, off := (ad.add (i * 3)).off + 2 } = some (.slice e.A e.xs.length e.c) := hcj 2 _ rfl
          clear hcj hc
          have hge := HG.out e (List.mem_of_getElem? he)
          have hd : fbs (gs.drop i) = frameB e.k e.s e.xs ++ fbs (gs.drop (i + 1)) := by
            rw [List.drop_eq_getElem_cons hil]
            have : gs[i] = e := by rw [List.getElem?_eq_getElem hil] at he; exact Option.some.inj he
            rw [this]
            simp [fbs]
          rw [hd] at HR
          obtain ⟨n1, hn1⟩ : ∃ n1, (frameB e.k e.s e.xs).length = n1 := ⟨_, rfl⟩
          have hn1a : n1 ≤ 16400 := by rw [← hn1]; exact frameB_length _ _ _ hge.2
          have hn1b : 2 ≤ n1 := by
            have := numB_pos (clampN (e.xs.length : Int))
            rw [← hn1]; simp [frameB, numI]; omega
          obtain ⟨n2, hn2⟩ : ∃ n2, (fbs (gs.drop (i + 1))).length = n2 := ⟨_, rfl⟩
          have hn2a : n2 ≤ 328000 := by
            have := fbs_length (gs.drop (i + 1)) (fun x hx => (HG.out x (List.mem_of_mem_drop hx)).2)
            rw [hn2] at this
            simp at this
            omega
          have hlen : (frameB e.k e.s e.xs ++ fbs (gs.drop (i + 1))).length = n1 + n2 := by rw [List.length_append, hn1, hn2]
          obtain ⟨B, cb, he4, hcb, hcm4, _⟩ := id HR.out
          rw [hlen] at he4 hcb
          subst he4
          go_wp2_with fail
          refine (readF_calls _ _ _ (HR.out.no ((Fr.refl _ _).alloc _)) (by rw [hlen]; omega)).mono ?_
          obtain ⟨a, c', ha, hc', hrd⟩ := readS_frameB e.k e.s e.xs (fbs (gs.drop (i + 1))) hge.2
          rw [hrd]
          rintro en w2 ⟨d, ev, rfl, rfl, hf2, hd2, _⟩
          obtain ⟨D, cD, rfl⟩ := hd2.form
          simp only [ha, hc', hn1]
          have HB2 : Aside0 (w2.heap[wr.heap.size]? = some (.cells #[.int .i64 e.k, .int .i64 e.s, .slice e.A e.xs.length e.c] 46 (0, 0))) := ⟨hf2.heap (blk_new wr _) id⟩
          have F2 : Aside0 (Fr No wr w2) := ⟨((Fr.refl No wr).alloc _).none hf2⟩
          have D2 := Aside0.mk hd2
          have HGE := Aside0.mk hge
          clear hf2 hd2 ha hc' hrd hd k0 k1 k2 hge
          generalize hw3 : w2.alloc (.cells #[.int .i64 e.k, .int .i64 e.s, .slice D e.xs.length cD] 46) = w3
          have F3 : Aside0 (Fr No w2 w3) := ⟨by rw [← hw3]; exact (Fr.refl _ _).alloc _⟩
          have HB3 : Aside0 (w3.heap[w2.heap.size]? = some (.cells #[.int .i64 e.k, .int .i64 e.s, .slice D e.xs.length cD] 46 (0, 0))) := ⟨by rw [← hw3]; exact blk_new w2 _⟩
          have HW3 := Aside0.mk hw3
          clear hw3
          go_wp2
          rw [HW3.out]
          have hnI1 : ¬ (n1 : Int) < 2 := by omega
          have hnI2 : decide (((n1 + n2 : Nat) : Int) < (n1 : Int)) = false := decide_eq_false (by omega)
          refine Rg.start (fun k' x => (x.heap[w2.heap.size]? = some (.cells #[.int .i64 e.k, .int .i64 e.s, .slice D e.xs.length cD] 46 (0, 0))) ∧ x.heap[wr.heap.size]? = some (.cells #[.int .i64 e.k, .int .i64 e.s, .slice e.A e.xs.length e.c] 46 (0, 0))) (by kernel_rfl) (by kernel_rfl) [4, 6] [[0, 1, 2, 3, 4], [3, 4, 0, 1, 2, 5, 6]] (by kernel_rfl) (.q 0 0 (.q 1 0 (.q 2 0 (.q 3 0 (.q 5 1 (.e 4 1 (.e 6 2 (.q 7 2 (.q 8 2 (.q 9 2 (.q 10 2 (.q 11 2 (.q 12 2 (.q 13 2 (.q 14 2 (.q 15 2 (.q 16 2 (.q 17 2 (.q 18 2 (.done)))))))))))))))))))) (by kernel_rfl) ?_ ?_
          · exact fun _ => ⟨HB3.out, F3.out.heap HB2.out id⟩
          repeat (first
            | (refine Rg.q (o := ?_) (v := ?_) ?_ ?_ ?_ ?_ ?_
               rotate_left 2
               · (simp only [List.getElem?_toArray, List.getElem?_cons_succ, List.getElem?_cons_zero]; rfl)
               · exact fun _ _ _ h => h
               · first | rfl | (go_simp; done)
               · (intro x_ hx; (try dsimp only at hx); (have q0 := (fun i => blk_cell hx.1 i); have q1 := (fun i => blk_cell hx.2 i)); go_simp; (try rw [if_neg (by omega)]); try with_reducible rfl)
               try simp only [Act.put, List.setIfInBounds_toArray, List.set_cons_zero, List.set_cons_succ])
            | (refine Rg.skip (o := ?_) ?_ ?_ ?_ ?_
               rotate_left 1
               · (simp only [List.getElem?_toArray, List.getElem?_cons_succ, List.getElem?_cons_zero]; rfl)
               · exact fun _ _ _ h => h
               · first | rfl | (go_simp; done)
               try simp only [Act.put, List.setIfInBounds_toArray, List.set_cons_zero, List.set_cons_succ]))
          refine Rg.e (o := ?_) ?_ ?_
          rotate_left 1
          · (simp only [List.getElem?_toArray, List.getElem?_cons_succ, List.getElem?_cons_zero]; rfl)
          intro K hK
          go_simp
          refine (plain_calls e.k e.s _ e.xs w3.drew ((D2.out.rd.no F3.out).no (Fr.refl _ _).drew)).mono ?_
          rintro en w4 ⟨rfl, hf4⟩
          have F4 : Aside0 (Fr No w3 w4) := ⟨(Fr.refl _ _).drew.none hf4⟩
          clear hf4
          go_simp
          refine hK.out _ _ (fun k' x => (x.heap[w2.heap.size]? = some (.cells #[.int .i64 e.k, .int .i64 e.s, .slice D e.xs.length cD] 46 (0, 0))) ∧ x.heap[wr.heap.size]? = some (.cells #[.int .i64 e.k, .int .i64 e.s, .slice e.A e.xs.length e.c] 46 (0, 0))) (fun k x hk h => h) ?_ ?_
          · exact fun _ _ => ⟨F4.out.heap HB3.out id, (F3.out.none F4.out).heap HB2.out id⟩
          try simp only [Act.put, List.setIfInBounds_toArray, List.set_cons_zero, List.set_cons_succ]
          repeat (first
            | (refine Rg.q (o := ?_) (v := ?_) ?_ ?_ ?_ ?_ ?_
               rotate_left 2
               · (simp only [List.getElem?_toArray, List.getElem?_cons_succ, List.getElem?_cons_zero]; rfl)
               · exact fun _ _ _ h => h
               · first | rfl | (go_simp; done)
               · (intro x_ hx; (try dsimp only at hx); (have q0 := (fun i => blk_cell hx.1 i); have q1 := (fun i => blk_cell hx.2 i)); go_simp; (try rw [if_neg (by omega)]); try with_reducible rfl)
               try simp only [Act.put, List.setIfInBounds_toArray, List.set_cons_zero, List.set_cons_succ])
            | (refine Rg.skip (o := ?_) ?_ ?_ ?_ ?_
               rotate_left 1
               · (simp only [List.getElem?_toArray, List.getElem?_cons_succ, List.getElem?_cons_zero]; rfl)
               · exact fun _ _ _ h => h
               · first | rfl | (go_simp; done)
               try simp only [Act.put, List.setIfInBounds_toArray, List.set_cons_zero, List.set_cons_succ]))
          refine Rg.e (o := ?_) ?_ ?_
          rotate_left 1
          · (simp only [List.getElem?_toArray, List.getElem?_cons_succ, List.getElem?_cons_zero]; rfl)
          intro K hK
          go_simp
          refine (plain_calls e.k e.s _ e.xs w4 ((((HGE.out.1.1.no HFr.out).no HQ.out).no F2.out).no (F3.out.none F4.out))).mono ?_
          rintro en w5 ⟨rfl, hf5⟩
          have F5 : Aside0 (Fr No wr w5) := ⟨(F2.out.none (F3.out.none F4.out)).none hf5⟩
          have hf5' := hf5
          clear hf5
          go_simp
          refine hK.out _ _ (fun k' x => (x.heap[w2.heap.size]? = some (.cells #[.int .i64 e.k, .int .i64 e.s, .slice D e.xs.length cD] 46 (0, 0))) ∧ x.heap[wr.heap.size]? = some (.cells #[.int .i64 e.k, .int .i64 e.s, .slice e.A e.xs.length e.c] 46 (0, 0))) (fun k x hk h => h) ?_ ?_
          · exact fun _ _ => ⟨F5.out.none (Fr.refl _ _) |> fun _ => (F4.out.none hf5').heap HB3.out id, ((F3.out.none F4.out).none hf5').heap HB2.out id⟩
          try simp only [Act.put, List.setIfInBounds_toArray, List.set_cons_zero, List.set_cons_succ]
          repeat (first
            | (refine Rg.q (o := ?_) (v := ?_) ?_ ?_ ?_ ?_ ?_
               rotate_left 2
               · (simp only [List.getElem?_toArray, List.getElem?_cons_succ, List.getElem?_cons_zero]; rfl)
               · exact fun _ _ _ h => h
               · first | rfl | (go_simp; done)
               · (intro x_ hx; (try dsimp only at hx); (skip); go_simp; (try rw [if_neg (by omega)]); try with_reducible rfl)
               try simp only [Act.put, List.setIfInBounds_toArray, List.set_cons_zero, List.set_cons_succ])
            | (refine Rg.skip (o := ?_) ?_ ?_ ?_ ?_
               rotate_left 1
               · (simp only [List.getElem?_toArray, List.getElem?_cons_succ, List.getElem?_cons_zero]; rfl)
               · exact fun _ _ _ h => h
               · first | rfl | (go_simp; done)
               try simp only [Act.put, List.setIfInBounds_toArray, List.set_cons_zero, List.set_cons_succ]))
          refine Rg.done ?_
          obtain ⟨B2, hB2⟩ : ∃ B2, (if cb = n1 then B else B.map (fun x => x.add n1)) = B2 := ⟨_, rfl⟩
          have RZ : Aside0 (RdB w5 (.slice B2 n2 (cb - n1)) (fbs (gs.drop (i + 1)))) := ⟨by
            have h9 := HR.out.no F5.out
            rw [show (Value.slice B (n1 + n2) cb) = .slice B (frameB e.k e.s e.xs ++ fbs (gs.drop (i + 1))).length cb by rw [hlen]] at h9
            have h8 := Rd_cut h9 n1 n2 (by rw [hlen]; omega)
            rw [hB2, ← hn1, List.drop_left, ← hn2, List.take_length] at h8
            rw [← hn1, ← hn2]
            simpa using h8⟩
          have hn1c : n1 ≤ cb := by omega
          clear hn1 hn2 hlen
          go_simp
          go_wp2
          go_roundw
          case rel => exact ⟨i + 1, by go_num, by omega, RZ, ⟨HQ.out.none F5.out⟩⟩
          case measure => simp [intOf]; omega
        · have hiI : ¬ (i : Int) < (gs.length : Int) := by omega
          have hdr : gs.drop i = [] := List.drop_eq_nil_of_le (by omega)
          rw [hdr] at HR
          obtain ⟨B, cb, rfl, _⟩ := id HR.out
          have EZ : Aside0 (Fr No w wr) := ⟨HFr.out.none HQ.out⟩
          go_wp2
          go_ret
          exact ⟨rfl, EZ.out⟩

theorem walk (v : Value) (es : List FV) (w : World) (hv : Rd fF w v es ∧ ∀ e ∈ es, e.ok w) : Calls Try.prog 11 #[v] w fun e w' => e = .returned (.bool true) ∧ Fr No w w' := by
  by_cases h1 : es.length ≤ 20
  · exact walk_ok v es w hv.1 hv.2 h1
  · exact walk_out v es w hv.1 (by omega)
end Go.Proofs.Ytdicjcpcohclaaa.LFrameRows
