/- The walk of the law FeedHolds. -/
import Derived.Test.YtkljeafnmcmifaaDoorFeedL
import Derived.Test.YtkljeafnmcmifaaDoorFeedC
import Derived.Test.YtkljeafnmcmifaaDoorSpecFeed2
import Derived.Test.YtkljeafnmcmifaaDoorLiftF
import Derived.Test.YtkljeafnmcmifaaDoorCutR
import Derived.OpenShut
set_option linter.unusedVariables false
set_option linter.unusedSimpArgs false
namespace Go.Proofs.YtkljeafnmcmifaaDoor.LFeedHolds
open Go.RowKit Go.IntWalk Go.Proofs.YtkljeafnmcmifaaDoorW.PrintWords Go.Proofs.YtkljeafnmcmifaaDoor.B Go.Proofs.YtkljeafnmcmifaaDoor.PB Go.Proofs.YtkljeafnmcmifaaDoor.Err Go.Proofs.YtkljeafnmcmifaaDoor.SCode Go.Proofs.YtkljeafnmcmifaaDoor.Frm Go.Proofs.YtkljeafnmcmifaaDoor.Fee
attribute [local go_sem] B.max2_int B.min2_int B.max_two B.min_two

theorem walk_out (v : Value) (es : List FV) (piece : Int) (w : World) (hg : Gl w) (hv : Rd fF w v es) (h : 8 < es.length ∨ piece < 1 ∨ 5000 < piece) : Calls Tryd.prog 5 #[v, .int .i64 piece] w fun e w' => e = .returned (.bool true) ∧ Fr No w w' := by
  obtain ⟨A, c, rfl, _⟩ := id hv
  have hc : (8 : Int) < (es.length : Int) ∨ (¬ (8 : Int) < (es.length : Int) ∧ piece < 1) ∨ (¬ (8 : Int) < (es.length : Int) ∧ ¬ piece < 1 ∧ 5000 < piece) := by omega
  have HG := Aside0.mk hg
  clear hv hg h
  rcases hc with h1 | ⟨h1, h2⟩ | ⟨h1, h2, h3⟩
  all_goals
    go_enter Tryd.func5, Tryd.ntmps5
    go_wp2_with fail
    refine (feeds_calls _ HG.out).mono ?_
    rintro e w1 ⟨rfl, hf⟩
    have F1 := Aside0.mk hf; clear hf
    go_wp2
    go_ret
    exact ⟨rfl, F1.out⟩

set_option maxHeartbeats 8000000 in
set_option maxRecDepth 100000 in
theorem walk_ok (v : Value) (es : List FV) (p : Nat) (w : World) (hg : Gl w) (hv : Rd fF w v es) (hes : ∀ e ∈ es, e.ok w) (h8 : es.length ≤ 8) (hp : 1 ≤ p) (hp2 : p ≤ 5000) : Calls Tryd.prog 5 #[v, .int .i64 (p : Int)] w fun e w' => e = .returned (.bool true) ∧ Fr No w w' := by
  obtain ⟨A, c, rfl, hlc, hcm, hcell⟩ := id hv
  have HV := Aside0.mk hv; have HES := Aside0.mk hes; have HC := Aside0.mk hcell; have HG := Aside0.mk hg
  have hgl := hg.lt
  clear hv hes hcell hg
  have hI : ¬ (8 : Int) < (es.length : Int) := by omega
  have hpI : ¬ (p : Int) < 1 := by omega
  have hpJ : ¬ (5000 : Int) < (p : Int) := by omega
  go_enter Tryd.func5, Tryd.ntmps5
  go_wp2_with fail
  refine (feeds_calls _ HG.out).mono ?_
  rintro e w1 ⟨rfl, hf⟩
  have F1 := Aside0.mk hf; clear hf
  go_wp2
  go_loopw [5, 6, 29] (fun vb vn vj wr => ∃ (j : Nat) (gs : List Gd), vj = .int .i64 (j : Int) ∧ vn = .int .i64 (gs.length : Int) ∧ j ≤ es.length ∧ gs.length ≤ j ∧ Aside0 (OwB wr vb (gs.flatMap Gd.b)) ∧ Aside0 (Fr No w wr) ∧ Aside0 (∀ q, vb.ownBlock = some q → w.heap.size ≤ q)) (fun _ _ i _ => es.length - (intOf i).toNat)
  case atStart => exact ⟨0, [], rfl, rfl, by omega, by simp, ⟨Ow.nil _ _ _⟩, F1, ⟨fun q hq => by cases hq⟩⟩
  case round =>
    obtain ⟨j, gs, rfl, rfl, hj, hgj, HO3, HFr, HN3⟩ := hrel
    by_cases hjl : j < es.length
    · have hjI : (j : Int) < (es.length : Int) := by omega
      obtain ⟨ad, rfl, hc⟩ := HC.out (by omega)
      obtain ⟨e, he⟩ : ∃ e, es[j]? = some e := ⟨_, List.getElem?_eq_getElem hjl⟩
      have hcj : ∀ i u, (fF.enc e)[i]? = some u → wr.cell? ((ad.add (j * 3)).add i) = some u := fun i u hu => by
        rw [add_add]
        refine HFr.out.cell (hc _ _ ?_) id
        have hi : i < 3 := (List.getElem?_eq_some_iff.1 hu).1
        have := fF.cells_get es j e he i hi
        rw [show j * fF.sz + i = j * 3 + i from rfl] at this
        rw [this, hu]
      have k0 : wr.cell? (ad.add (j * 3)) = some (.int .i64 e.k) := hcj 0 _ rfl
      have k1 : wr.cell? { block := (ad.add (j * 3)).block, off := (ad.add (j * 3)).off + 1 } = some (.int .i64 e.s) := hcj 1 _ rfl
      have k2 : wr.cell? { block := (ad.add (j * 3)).block, off := (ad.add (j * 3)).off + 2 } = some (.slice e.A e.xs.length e.c) := hcj 2 _ rfl
      clear hcj hc
      go_wp2_with fail
      have hee : e ∈ es := List.mem_of_getElem? he
      have hok := HES.out e hee
      have hol := hok.2
      have EA : Fr No wr (wr.alloc (.cells #[.int .i64 e.k, .int .i64 e.s, e.dv] 39)) := (Fr.refl _ _).alloc _
      have RD : Aside0 (RdB (wr.alloc (.cells #[.int .i64 e.k, .int .i64 e.s, e.dv] 39)) e.dv e.xs) := ⟨(hok.1.no HFr.out).no EA⟩
      have NVb : Aside0 (∀ q, q < w.heap.size → ¬ blk u5 q) := ⟨fun q hq hb => by have := HN3.out q hb; omega⟩
      by_cases hce : checkE e.k e.s e.xs.length = 0
      · refine (append_calls e.k e.s e.dv u5 e.xs (gs.flatMap Gd.b) _ hce (HO3.out.no EA) RD.out ?b1 (fun hn b hb => NVb.out b (Rd.lt (by decide) hok.1 hn b hb))).mono ?_
        case b1 => have := gds_length gs; omega
        rintro en w2 ⟨v2, rfl, g⟩
        have HB2 : Aside0 (w2.heap[wr.heap.size]? = some (.cells #[.int .i64 e.k, .int .i64 e.s, e.dv] 39 (0, 0))) := ⟨g.fr.heap (blk_new wr _) (fun hb => by have := HO3.out.lt _ hb; omega)⟩
        have c2 : w2.cell? ⟨wr.heap.size, 2, none⟩ = some (.slice e.A e.xs.length e.c) := by rw [blk_cell HB2.out]; rfl
        have F2 : Aside0 (Fr (blk u5) wr w2) := ⟨(EA.mono (fun _ _ h => h.elim)).trans g.fr (fun _ _ h => h)⟩
        have G2 : Aside0 (OwB w2 v2 ((gs ++ [(⟨e.k, e.s, e.xs, hce⟩ : Gd)]).flatMap Gd.b)) := ⟨by rw [gds_snoc]; exact g.own⟩
        have GO : Aside0 (OwB w2 u5 (gs.flatMap Gd.b)) := ⟨g.old⟩
        have FN : Aside0 (Fr No w w2) := ⟨HFr.out.trans F2.out (fun q hq hb => absurd (HN3.out q hb) (by omega))⟩
        have NN : Aside0 (∀ q, v2.ownBlock = some q → w.heap.size ≤ q) := ⟨fun q hq => by
          have hsz := HFr.out.size
          by_cases hlt : q < wr.heap.size
          · exact HN3.out q (g.at_.back hq (by simp; omega))
          · omega⟩
        clear g k0 k1 k2 EA
        go_wp2
        go_roundw
        case rel => exact ⟨j + 1, gs ++ [⟨e.k, e.s, e.xs, hce⟩], by go_num, by simp, by omega, by simp; omega, G2, FN, NN⟩
        case measure => simp [intOf]; omega
      · refine (append_bad_calls e.k e.s e.A e.xs.length e.c u5 _ hce).mono ?_
        rintro en w2 ⟨rfl, hf⟩
        have F2 : Aside0 (Fr No wr w2) := ⟨EA.none hf⟩
        have hceI : ¬ checkE e.k e.s e.xs.length = 0 := hce
        have hceB : (checkE e.k e.s e.xs.length == 0) = false := by rw [beq_eq_false_iff_ne]; exact hce
        clear hf k0 k1 k2 EA
        go_wp2
        go_roundw
        case rel => exact ⟨j + 1, gs, by go_num, rfl, by omega, by omega, ⟨HO3.out.no F2.out⟩, ⟨HFr.out.none F2.out⟩, HN3⟩
        case measure => simp [intOf]; omega
    · have hjI : ¬ (j : Int) < (es.length : Int) := by omega
      obtain ⟨Ag, cg, rfl⟩ := HO3.out.form
      have hBl := gds_length gs
      have hg8 : gs.length ≤ 8 := by omega
      have hfl := addS_flat gs
      obtain ⟨B, hB⟩ : ∃ B, gs.flatMap Gd.b = B := ⟨_, rfl⟩
      rw [hB] at HO3 hBl hfl ⊢
      have hBm : B.length ≤ 131200 := by omega
      have HB : Aside0 (RdB wr (.slice Ag B.length cg) B) := ⟨HO3.out.rd⟩
      have hBc : B.length ≤ cg := by obtain ⟨A', c', he, h1, _⟩ := HB.out; injection he with _ _ e3; omega
      have HFL := Aside0.mk hfl
      have hgl1 : 0 < wr.heap.size := Nat.lt_of_lt_of_le hgl HFr.out.size
      clear hB hfl HO3 HN3 hBl
      go_wp2
      have D1 : Aside0 (Fee.Fd (wr.alloc (.cells #[.slice none 0 0, .int .i64 0, .nilIface] 31)) wr.heap.size 31 [] [] (.slice none 0 0) [] 0 none) := ⟨Fd.new wr hgl1 31 (by decide)⟩
      have FA : Aside0 (Fr No wr (wr.alloc (.cells #[.slice none 0 0, .int .i64 0, .nilIface] 31))) := ⟨(Fr.refl _ _).alloc _⟩
      obtain ⟨g, hgg⟩ : ∃ g, wr.heap.size = g := ⟨_, rfl⟩
      rw [hgg] at D1 ⊢
      have HS : Aside0 (wr.heap.size ≤ g) := ⟨by omega⟩
      change Code.wp _ _ _ _ (wr.alloc (.cells #[.slice none 0 0, .int .i64 0, .nilIface] 31))
      generalize wr.alloc (.cells #[.slice none 0 0, .int .i64 0, .nilIface] 31) = w2 at D1 FA ⊢
      clear hgg hgl1
      obtain ⟨wF, hwF⟩ : ∃ wF, wF = wr := ⟨_, rfl⟩
      subst hwF
      go_loopw [5, 12] (fun v5 v12 wr => ∃ (k : Nat) (A5 : Option Addr) (c5 : Nat) (S : AddR) (vh : Value), v5 = .slice A5 (B.length - k) c5 ∧ v12 = .int .i64 (S.out.length : Int) ∧ k ≤ B.length ∧ B.length - k ≤ c5 ∧ Aside0 (addS [] 0 none (B.take k) = S) ∧ Aside0 (RdB wF (.slice A5 (B.length - k) c5) (B.drop k)) ∧ Aside0 (Fee.Fd wr g 31 [] [] vh S.held S.rd S.er) ∧ Aside0 (∀ q, vh.ownBlock = some q → wF.heap.size ≤ q) ∧ Aside0 (Fr No wF wr)) (fun v5 _ _ => lenC (some v5))
      case atStart => exact ⟨0, Ag, cg, ⟨[], [], 0, none⟩, .slice none 0 0, by simp, rfl, Nat.zero_le _, by simpa using hBc, ⟨by rw [List.take_zero, addS_nil, parse_nil]; rfl⟩, ⟨by simpa using HB.out⟩, D1, ⟨fun q hq => by cases hq⟩, FA⟩
      case round =>
        obtain ⟨k, A5, c5, S, vh, rfl, rfl, hk, hkc, HSS, HR, HD, HN, HF⟩ := hrel
        have hrd : S.rd ≤ B.length := by rw [← HSS.out]; exact Nat.le_trans (addS_rd _) (by rw [List.length_take]; omega)
        have hhl : S.held.length ≤ 16391 := by rw [← HSS.out]; exact held_le _
        have hol : S.out.length ≤ B.length := by rw [← HSS.out]; exact Nat.le_trans (addS_out _) (by rw [List.length_take]; omega)
        obtain ⟨m, hm⟩ : ∃ m, B.length - k = m := ⟨_, rfl⟩
        rw [hm] at HR hkc ⊢
        by_cases hkl : k < B.length
        · have hmI : (0 : Int) < (m : Int) := by omega
          obtain ⟨l, hl⟩ : ∃ l, min p m = l := ⟨_, rfl⟩
          have hor : ((m : Int) < (p : Int) ∧ l = m) ∨ (¬ (m : Int) < (p : Int) ∧ l = p) := by omega
          have hlm : l ≤ m := by omega
          have hl1 : 1 ≤ l := by omega
          have HRt : Aside0 (RdB wF (.slice A5 l c5) ((B.drop k).take l)) := ⟨rd_take HR.out l (by rw [List.length_drop]; omega)⟩
          obtain ⟨A6, hcut, hrd6⟩ := cut_tail A5 m c5 l hlm hkc
          have HR6 : Aside0 (RdB wF (.slice A6 (m - l) (c5 - l)) ((B.drop k).drop l)) := ⟨hrd6 _ _ HR.out⟩
          have HR7 : Aside0 (RdB wF (.slice A6 (B.length - (k + l)) (c5 - l)) (B.drop (k + l))) := ⟨by rw [show B.length - (k + l) = m - l by omega, ← List.drop_drop]; exact HR6.out⟩
          have hdl : ((B.drop k).take l).length = l := by rw [List.length_take, List.length_drop]; omega
          have hmore := addS_more (B.take k) ((B.drop k).take l)
          have htk : B.take k ++ (B.drop k).take l = B.take (k + l) := by rw [List.take_add]
          rw [htk, HSS.out] at hmore
          obtain ⟨T, hT⟩ : ∃ T, addS [] 0 none (B.take (k + l)) = T := ⟨_, rfl⟩
          rw [hT] at hmore
          obtain ⟨m1, m2, m3, m4⟩ := hmore
          have hTh : T.held.length ≤ 16391 := by rw [← hT]; exact held_le _
          have HT := Aside0.mk hT; have M1 := Aside0.mk m1; have M2 := Aside0.mk m2; have M3 := Aside0.mk m3; have M4 := Aside0.mk m4
          clear hl hrd6 htk m1 m2 m3 m4 hT
          rcases hor with ⟨hpm, rfl⟩ | ⟨hpm, rfl⟩
          all_goals
            go_wp2_with fail
            refine (add_calls (HG.out.no (HFr.out.none HF.out)) HD.out 0 rfl _ ((B.drop k).take l) (HRt.out.no HF.out) (by omega) (by rw [hdl]; omega)).mono ?_
            rintro e w3 ⟨vo, v', rfl, hd, ho, hf, ha⟩
            rw [← M2.out, ← M3.out, ← M4.out] at hd
            have HD3 := Aside0.mk hd
            have F3 : Aside0 (Fr No wF w3) := ⟨fs_new HF.out hf HS.out HN.out⟩
            have N3 : Aside0 (∀ q, v'.ownBlock = some q → wF.heap.size ≤ q) := ⟨aw_new HF.out.size HN.out ha⟩
            obtain ⟨fs, hfo, hfm, _⟩ := ho.fs
            obtain ⟨A2, c2, rfl⟩ := hfo.form
            have hfl : S.out.length + fs.length = T.out.length := by
              have h1 := congrArg List.length hfm
              simp only [List.length_map] at h1
              rw [M1.out, List.length_append, h1]
            have hTo : T.out.length ≤ B.length := by rw [← HT.out]; exact Nat.le_trans (addS_out _) (by rw [List.length_take]; omega)
            have hflI : (S.out.length : Int) + (fs.length : Int) = (T.out.length : Int) := by omega
            clear hd ho hf ha hfo hfm
            go_wp2_with fail
            refine (held_calls HD3.out 0 rfl).mono ?_
            rintro e x1 ⟨rfl, rfl⟩
            have hTI : ¬ (16391 : Int) < (T.held.length : Int) := by omega
            clear hcut
            go_wp2
            go_roundw
            case rel => exact ⟨k + l, A6, c5 - l, T, v', congrArg (fun n => Value.slice A6 n (c5 - l)) (by omega), by first | rfl | (rw [hflI]), by omega, by omega, HT, HR7, HD3, N3, F3⟩
            case measure => simp [lenC]; omega
        · have hmI : ¬ (0 : Int) < (m : Int) := by omega
          have hSe : S = ⟨gs.map Gd.q, [], B.length, none⟩ := by
            rw [← HSS.out, List.take_of_length_le (by omega)]; exact HFL.out
          subst hSe
          clear hrd hhl hol
          have hgl2 : (((gs.map Gd.q).length : Int) == (gs.length : Int)) = true := by simp
          go_wp2_with fail
          refine (held_calls HD.out 0 rfl).mono ?_
          rintro e x1 ⟨rfl, rfl⟩
          go_wp2_with fail
          refine (end_calls HD.out 0 rfl (by show B.length ≤ 1000000000; omega) (by show 0 ≤ 1000000000; omega)).mono ?_
          rintro e w4 ⟨ev, rfl, hev, hf⟩
          have he0 : endE [] B.length none = none := rfl
          rw [he0] at hev
          obtain rfl : ev = .nilIface := hev
          have F4 : Aside0 (Fr No wF w4) := ⟨HF.out.none hf⟩
          clear hf
          go_wp2
          go_ret
          exact ⟨rfl, HFr.out.none F4.out⟩
theorem walk (v : Value) (es : List FV) (piece : Int) (w : World) (hg : Gl w) (hv : Rd fF w v es ∧ ∀ e ∈ es, e.ok w) (hp : (Lit.int .i64 piece).wf = true) : Calls Tryd.prog 5 #[v, .int .i64 piece] w fun e w' => e = .returned (.bool true) ∧ Fr No w w' := by
  by_cases h : 8 < es.length ∨ piece < 1 ∨ 5000 < piece
  · exact walk_out v es piece w hg hv.1 h
  · obtain ⟨p, rfl⟩ := Int.eq_ofNat_of_zero_le (show 0 ≤ piece by omega)
    exact walk_ok v es p w hg hv.1 hv.2 (by omega) (by omega) (by omega)
end Go.Proofs.YtkljeafnmcmifaaDoor.LFeedHolds
