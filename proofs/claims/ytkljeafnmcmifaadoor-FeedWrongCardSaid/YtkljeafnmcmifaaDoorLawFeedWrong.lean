/- The walk of the law FeedWrong. -/
import Derived.Test.YtkljeafnmcmifaaDoorFeedL
import Derived.Test.YtkljeafnmcmifaaDoorFeedC
import Derived.Test.YtkljeafnmcmifaaDoorSpecFeed2
import Derived.Test.YtkljeafnmcmifaaDoorLiftF
import Derived.Test.YtkljeafnmcmifaaDoorCutR
import Derived.OpenShut
set_option linter.unusedVariables false
set_option linter.unusedSimpArgs false
namespace Go.Proofs.YtkljeafnmcmifaaDoor.LFeedWrong
open Go.RowKit Go.IntWalk Go.Proofs.YtkljeafnmcmifaaDoorW.PrintWords Go.Proofs.YtkljeafnmcmifaaDoor.B Go.Proofs.YtkljeafnmcmifaaDoor.PB Go.Proofs.YtkljeafnmcmifaaDoor.Err Go.Proofs.YtkljeafnmcmifaaDoor.SCode Go.Proofs.YtkljeafnmcmifaaDoor.Frm Go.Proofs.YtkljeafnmcmifaaDoor.Fee
attribute [local go_sem] B.max2_int B.min2_int B.max_two B.min_two

theorem walk_out (v : Value) (es : List FV) (z : Int) (vm : Value) (m : List UInt8) (w : World) (hg : Gl w) (hv : Rd fF w v es) (hm : RdB w vm m) (h : 8 < es.length ∨ 500 < m.length) : Calls Tryd.prog 4 #[v, .int .u8 z, vm] w fun e w' => e = .returned (.bool true) ∧ Fr No w w' := by
  obtain ⟨A, c, rfl, _⟩ := id hv
  obtain ⟨A', c', rfl, _⟩ := id hm
  have hc : (8 : Int) < (es.length : Int) ∨ (¬ (8 : Int) < (es.length : Int) ∧ (500 : Int) < (m.length : Int)) := by omega
  have HG := Aside0.mk hg
  clear hv hg h hm
  rcases hc with h1 | ⟨h1, h2⟩
  all_goals
    go_enter Tryd.func4, Tryd.ntmps4
    go_wp2_with fail
    refine (feeds_calls _ HG.out).mono ?_
    rintro e w1 ⟨rfl, hf⟩
    have F1 := Aside0.mk hf; clear hf
    go_wp2
    go_ret
    exact ⟨rfl, F1.out⟩

set_option maxHeartbeats 8000000 in
set_option maxRecDepth 100000 in
theorem walk_ok (v : Value) (es : List FV) (y : UInt8) (vm : Value) (m : List UInt8) (w : World) (hg : Gl w) (hv : Rd fF w v es) (hes : ∀ e ∈ es, e.ok w) (hm : RdB w vm m) (h8 : es.length ≤ 8) (hm5 : m.length ≤ 500) : Calls Tryd.prog 4 #[v, vu8 y, vm] w fun e w' => e = .returned (.bool true) ∧ Fr No w w' := by
  obtain ⟨A, c, rfl, hlc, hcm, hcell⟩ := id hv
  obtain ⟨A', c', rfl, hmc, _⟩ := id hm
  obtain ⟨y8, hy8⟩ : ∃ y8 : UInt8, UInt8.ofNat (y.toNat % 8) = y8 := ⟨_, rfl⟩
  have hyl : y8.toNat < 8 := by rw [← hy8, UInt8.toNat_ofNat']; omega
  have hyI : (y.toNat : Int) % 8 = (y8.toNat : Int) := by rw [← hy8, UInt8.toNat_ofNat']; omega
  have HY := Aside0.mk hyI
  have HV := Aside0.mk hv; have HES := Aside0.mk hes; have HC := Aside0.mk hcell; have HG := Aside0.mk hg; have HM := Aside0.mk hm
  have hgl := hg.lt
  clear hv hes hcell hg hm hyI hy8
  have hI : ¬ (8 : Int) < (es.length : Int) := by omega
  have hmI : ¬ (500 : Int) < (m.length : Int) := by omega
  go_enter Tryd.func4, Tryd.ntmps4
  go_wp2_with fail
  refine (feeds_calls _ HG.out).mono ?_
  rintro e w1 ⟨rfl, hf⟩
  have F1 := Aside0.mk hf; clear hf
  go_wp2
  go_loopw [7, 8, 27] (fun vb vn vj wr => ∃ (j : Nat) (gs : List Gd), vj = .int .i64 (j : Int) ∧ vn = .int .i64 (gs.length : Int) ∧ j ≤ es.length ∧ gs.length ≤ j ∧ Aside0 (OwB wr vb (gs.flatMap Gd.b)) ∧ Aside0 (Fr No w wr) ∧ Aside0 (∀ q, vb.ownBlock = some q → w.heap.size ≤ q)) (fun _ _ i _ => es.length - (intOf i).toNat)
  case atStart => exact ⟨0, [], rfl, rfl, by omega, by simp, ⟨Ow.nil _ _ _⟩, F1, ⟨fun q hq => by cases hq⟩⟩
  case round =>
    obtain ⟨j, gs, rfl, rfl, hj, hgj, HO3, HFr, HN3⟩ := hrel
    by_cases hjl : j < es.length
    · have hjI : (j : Int) < (es.length : Int) := by omega
      obtain ⟨ad, rfl, hc⟩ := HC.out (by omega)
      obtain ⟨e, he⟩ : ∃ e, es[j]? = some e := ⟨_, List.getElem?_eq_getElem hjl⟩
      have hcj : ∀ i u, (fF.enc e)[i]? = some u → wr.cell? ((ad.add (j * 3)).add i) = some u := fun i u hu => by
        rw [add_add]
        refine HFr.out.cell (hc _ _ ?_) id
        have hi : i < 3 := (List.getElem?_eq_some_iff.1 hu).1
        have := fF.cells_get es j e he i hi
        rw [show j * fF.sz + i = j * 3 + i from rfl] at this
        rw [this, hu]
      have k0 : wr.cell? (ad.add (j * 3)) = some (.int .i64 e.k) := hcj 0 _ rfl
      have k1 : wr.cell? { block := (ad.add (j * 3)).block, off := (ad.add (j * 3)).off + 1 } = some (.int .i64 e.s) := hcj 1 _ rfl
      have k2 : wr.cell? { block := (ad.add (j * 3)).block, off := (ad.add (j * 3)).off + 2 } = some (.slice e.A e.xs.length e.c) := hcj 2 _ rfl
      clear hcj hc
      go_wp2_with fail
      have hee : e ∈ es := List.mem_of_getElem? he
      have hok := HES.out e hee
      have hol := hok.2
      have EA : Fr No wr (wr.alloc (.cells #[.int .i64 e.k, .int .i64 e.s, e.dv] 39)) := (Fr.refl _ _).alloc _
      have RD : Aside0 (RdB (wr.alloc (.cells #[.int .i64 e.k, .int .i64 e.s, e.dv] 39)) e.dv e.xs) := ⟨(hok.1.no HFr.out).no EA⟩
      have NVb : Aside0 (∀ q, q < w.heap.size → ¬ blk u7 q) := ⟨fun q hq hb => by have := HN3.out q hb; omega⟩
      by_cases hce : checkE e.k e.s e.xs.length = 0
      · refine (append_calls e.k e.s e.dv u7 e.xs (gs.flatMap Gd.b) _ hce (HO3.out.no EA) RD.out ?b1 (fun hn b hb => NVb.out b (Rd.lt (by decide) hok.1 hn b hb))).mono ?_
        case b1 => have := gds_length gs; omega
        rintro en w2 ⟨v2, rfl, g⟩
        have HB2 : Aside0 (w2.heap[wr.heap.size]? = some (.cells #[.int .i64 e.k, .int .i64 e.s, e.dv] 39 (0, 0))) := ⟨g.fr.heap (blk_new wr _) (fun hb => by have := HO3.out.lt _ hb; omega)⟩
        have c2 : w2.cell? ⟨wr.heap.size, 2, none⟩ = some (.slice e.A e.xs.length e.c) := by rw [blk_cell HB2.out]; rfl
        have F2 : Aside0 (Fr (blk u7) wr w2) := ⟨(EA.mono (fun _ _ h => h.elim)).trans g.fr (fun _ _ h => h)⟩
        have G2 : Aside0 (OwB w2 v2 ((gs ++ [(⟨e.k, e.s, e.xs, hce⟩ : Gd)]).flatMap Gd.b)) := ⟨by rw [gds_snoc]; exact g.own⟩
        have GO : Aside0 (OwB w2 u7 (gs.flatMap Gd.b)) := ⟨g.old⟩
        have FN : Aside0 (Fr No w w2) := ⟨HFr.out.trans F2.out (fun q hq hb => absurd (HN3.out q hb) (by omega))⟩
        have NN : Aside0 (∀ q, v2.ownBlock = some q → w.heap.size ≤ q) := ⟨fun q hq => by
          have hsz := HFr.out.size
          by_cases hlt : q < wr.heap.size
          · exact HN3.out q (g.at_.back hq (by simp; omega))
          · omega⟩
        clear g k0 k1 k2 EA
        by_cases hxl : e.xs.length ≤ 1000
        · have hxI : (e.xs.length : Int) ≤ 1000 := by omega
          go_wp2
          go_roundw
          case rel => exact ⟨j + 1, gs ++ [⟨e.k, e.s, e.xs, hce⟩], by go_num, by simp, by omega, by simp; omega, G2, FN, NN⟩
          case measure => simp [intOf]; omega
        · have hxI : ¬ (e.xs.length : Int) ≤ 1000 := by omega
          go_wp2
          go_roundw
          case rel => exact ⟨j + 1, gs, by go_num, rfl, by omega, by omega, GO, FN, HN3⟩
          case measure => simp [intOf]; omega
      · refine (append_bad_calls e.k e.s e.A e.xs.length e.c u7 _ hce).mono ?_
        rintro en w2 ⟨rfl, hf⟩
        have F2 : Aside0 (Fr No wr w2) := ⟨EA.none hf⟩
        have hceI : ¬ checkE e.k e.s e.xs.length = 0 := hce
        have hceB : (checkE e.k e.s e.xs.length == 0) = false := by rw [beq_eq_false_iff_ne]; exact hce
        clear hf k0 k1 k2 EA
        go_wp2
        go_roundw
        case rel => exact ⟨j + 1, gs, by go_num, rfl, by omega, by omega, ⟨HO3.out.no F2.out⟩, ⟨HFr.out.none F2.out⟩, HN3⟩
        case measure => simp [intOf]; omega
    · have hjI : ¬ (j : Int) < (es.length : Int) := by omega
      obtain ⟨Ag, cg, rfl⟩ := HO3.out.form
      have hBl := gds_length gs
      have hg8 : gs.length ≤ 8 := by omega
      have hfl := addS_wrong gs y8 hyl
      obtain ⟨B, hB⟩ : ∃ B, gs.flatMap Gd.b = B := ⟨_, rfl⟩
      rw [hB] at HO3 hBl hfl ⊢
      have hBm : B.length ≤ 131200 := by omega
      have HB : Aside0 (RdB wr (.slice Ag B.length cg) B) := ⟨HO3.out.rd⟩
      have HFL := Aside0.mk hfl
      have hgl1 : 0 < wr.heap.size := Nat.lt_of_lt_of_le hgl HFr.out.size
      clear hB hfl HO3 HN3 hBl
      go_upto_region 16 with fail
      have D1 : Aside0 (Fee.Fd (wr.alloc (.cells #[.slice none 0 0, .int .i64 0, .nilIface] 31)) wr.heap.size 31 [] [] (.slice none 0 0) [] 0 none) := ⟨Fd.new wr hgl1 31 (by decide)⟩
      have FA : Aside0 (Fr No wr (wr.alloc (.cells #[.slice none 0 0, .int .i64 0, .nilIface] 31))) := ⟨(Fr.refl _ _).alloc _⟩
      obtain ⟨g, hgg⟩ : ∃ g, wr.heap.size = g := ⟨_, rfl⟩
      rw [hgg] at D1 ⊢
      have HS : Aside0 (wr.heap.size ≤ g) := ⟨by omega⟩
      change Code.wp _ _ _ _ (wr.alloc (.cells #[.slice none 0 0, .int .i64 0, .nilIface] 31))
      generalize wr.alloc (.cells #[.slice none 0 0, .int .i64 0, .nilIface] 31) = w2 at D1 FA ⊢
      clear hgg hgl1
      have N0 : Aside0 (Fee.On w2 (w2.alloc (.cells #[] 5)) (.slice (some ⟨w2.heap.size, 0, none⟩) 0 0) []) := ⟨own_empty w2, fun q hq => Nat.le_of_eq (by simpa [Value.ownBlock] using hq), (Fr.refl _ _).alloc _⟩
      have hyI := HY.out
      go_wp2_with (at_builtin; first
        | (refine apBs (.slice (some ⟨w2.heap.size, 0, none⟩) 0 0) [] (.slice Ag B.length cg) B rfl (.tmp 49) (.tmp 50) rfl rfl rfl N0.out.own ((HB.out.no FA.out).no N0.out.fr) (by simp; omega) ?_; intro v1 w4 i1 i2 i3 i4; have N1 : Aside0 (Fee.On w2 w4 v1 ([] ++ B)) := ⟨N0.out.step i1 i2 i3⟩; clear i1 i2 i3 i4; rw [List.nil_append] at N1)
        | (refine apBs v1 B (.slice (some ⟨w4.heap.size, 0, none⟩) 1 1) [y8] rfl (.tmp 51) (.tmp 54) rfl rfl rfl (N1.out.own.no ((Fr.refl _ _).alloc _)) (rd_lit w4 [y8] _ _ (Nat.le_trans (Nat.le_refl 1) (by decide))) (by simp; omega) ?_; intro v2 w5 i1 i2 i3 i4; have N2 : Aside0 (Fee.On w2 w5 v2 (B ++ [y8])) := ⟨(N1.out.no ((Fr.refl _ _).alloc _)).step i1 i2 i3⟩; clear i1 i2 i3 i4))
      have h9 := add_calls (HG.out.no ((HFr.out.none FA.out).none N2.out.fr)) (D1.out.no N2.out.fr) 0 rfl v2 (B ++ [y8]) N2.out.own.rd (by omega) (by simp; omega)
      rw [HFL.out] at h9
      refine h9.mono ?_
      clear h9
      rintro e w6 ⟨vo, v', rfl, hd, ho, hf, ha⟩
      have HD := Aside0.mk hd
      have F6 : Aside0 (Fr No wr w6) := ⟨fs_new (FA.out.none N2.out.fr) hf HS.out (fun q hq => by cases hq)⟩
      obtain ⟨fs, hfo, hfm, _⟩ := ho.fs
      obtain ⟨A2, c2, rfl⟩ := hfo.form
      have hfl : fs.length = gs.length := by
        have h1 := congrArg List.length hfm
        simpa using h1
      rw [hfl]
      have G6 : Aside0 (Gl w6) := ⟨HG.out.no (HFr.out.none F6.out)⟩
      clear hd ho hf ha hfo hfm
      go_wp2_with fail
      refine (err_calls HD.out 0 rfl).mono ?_
      rintro e x1 ⟨ev, rfl, hev, rfl⟩
      have HEV := Aside0.mk hev
      clear hev
      go_wp2_with fail
      refine (number_calls G6.out HEV.out).mono ?_
      rw [show noE (some (B.length, 40)) = 40 from rfl]
      rintro e w7 ⟨rfl, hf⟩
      have F7 : Aside0 (Fr No w6 w7) := ⟨hf⟩
      clear hf
      go_wp2_with fail
      refine (err_calls (HD.out.no F7.out) 0 rfl).mono ?_
      rintro e x1 ⟨ev2, rfl, hev, rfl⟩
      have HEV2 := Aside0.mk hev
      clear hev
      go_wp2_with fail
      refine (place_calls (G6.out.no F7.out) HEV2.out).mono ?_
      rw [show plE (some (B.length, 40)) = (B.length : Int) from rfl]
      rintro e w8 ⟨rfl, hf⟩
      have F8 : Aside0 (Fr No w6 w8) := ⟨F7.out.none hf⟩
      clear hf
      go_wp2_with fail
      refine (held_calls (HD.out.no F8.out) 0 rfl).mono ?_
      rintro e x1 ⟨rfl, rfl⟩
      go_wp2_with fail
      refine (add_over (HD.out.no F8.out) 0 rfl _).mono ?_
      rintro e x1 ⟨rfl, rfl⟩
      go_wp2_with fail
      refine (add_over (HD.out.no F8.out) 0 rfl _).mono ?_
      rintro e x1 ⟨rfl, rfl⟩
      go_wp2_with fail
      refine (err_calls (HD.out.no F8.out) 0 rfl).mono ?_
      rintro e x1 ⟨ev3, rfl, hev, rfl⟩
      have HEV3 := Aside0.mk hev
      clear hev
      go_wp2_with fail
      refine (place_calls (G6.out.no F8.out) HEV3.out).mono ?_
      rw [show plE (some (B.length, 40)) = (B.length : Int) from rfl]
      rintro e w9 ⟨rfl, hf⟩
      have F9 : Aside0 (Fr No w6 w9) := ⟨F8.out.none hf⟩
      clear hf
      go_wp2_with fail
      refine (read_calls (HD.out.no F9.out) 0 rfl).mono ?_
      rintro e x1 ⟨rfl, rfl⟩
      go_wp2
      go_ret
      exact ⟨rfl, (HFr.out.none F6.out).none F9.out⟩
theorem walk (v : Value) (es : List FV) (z : Int) (vm : Value) (m : List UInt8) (w : World) (hg : Gl w) (hv : Rd fF w v es ∧ ∀ e ∈ es, e.ok w) (hz : (Lit.int .u8 z).wf = true) (hm : RdB w vm m ∧ m.length ≤ reach) : Calls Tryd.prog 4 #[v, .int .u8 z, vm] w fun e w' => e = .returned (.bool true) ∧ Fr No w w' := by
  by_cases h : 8 < es.length ∨ 500 < m.length
  · exact walk_out v es z vm m w hg hv.1 hm.1 h
  · rw [← Lift.byte_wf hz]
    exact walk_ok v es _ vm m w hg hv.1 hv.2 hm.1 (by omega) (by omega)
end Go.Proofs.YtkljeafnmcmifaaDoor.LFeedWrong
