/- The walk of the law DeltaBytes. -/
import Derived.Test.YtebgkmfecmlanaaDelH
import Derived.Test.YtebgkmfecmlanaaDelZ
import Derived.Test.YtebgkmfecmlanaaDelE
import Derived.Test.YtebgkmfecmlanaaLiftT
import Derived.OpenShut
set_option linter.unusedVariables false
set_option linter.unusedSimpArgs false
namespace Go.Proofs.Ytebgkmfecmlanaa.LDeltaBytes
open Go.ChangeShapes Go.RowKit Go.IntWalk Go.Proofs.YtebgkmfecmlanaaW.PrintWords Go.Proofs.Ytebgkmfecmlanaa.B Go.Proofs.Ytebgkmfecmlanaa.PB Go.Proofs.Ytebgkmfecmlanaa.STell Go.Proofs.Ytebgkmfecmlanaa.STB Go.Proofs.Ytebgkmfecmlanaa.Tk Go.Proofs.Ytebgkmfecmlanaa.L7 Go.Proofs.Ytebgkmfecmlanaa.Blk

set_option maxHeartbeats 4000000 in
set_option maxRecDepth 100000 in
theorem plain9_calls (v : Value) (fs : List TV) (w : World) (hv : Rd fT w v fs) (hes : ∀ e ∈ fs, RdB w e.dv e.xs) (hn : fs.length ≤ 4000000000000) : Calls Try.prog 16 #[v] w fun e w' =>
    ∃ v', e = .returned v' ∧ Ow fD 82 w' v' (fs.map TV.tok) ∧ Fr No w w' := by
  obtain ⟨A, c, rfl, hlc, hcm, hcell⟩ := id hv
  have HES := Aside0.mk hes; have HC := Aside0.mk hcell
  clear hv hes hcell
  go_enter Try.func16, Try.ntmps16
  go_wp2
  go_loopw [3, 8] (fun v3 v8 wr => ∃ j : Nat, v8 = .int .i64 (j : Int) ∧ j ≤ fs.length ∧ Aside0 (Ow fD 82 wr v3 ((fs.take j).map TV.tok)) ∧ Aside0 (Fr No w wr) ∧ Aside0 (∀ q, v3.ownBlock = some q → w.heap.size ≤ q)) (fun _ v8 _ => fs.length - (intOf v8).toNat)
  case atStart => exact ⟨0, rfl, Nat.zero_le _, ⟨Ow.nil _ _ _⟩, ⟨Fr.refl _ _⟩, ⟨fun q hq => by cases hq⟩⟩
  case round =>
    obtain ⟨j, rfl, hj, HO, HF, HN⟩ := hrel
    by_cases hjl : j < fs.length
    · have hjI : (j : Int) < (fs.length : Int) := by omega
      obtain ⟨ad, rfl, hc⟩ := HC.out (by omega)
      obtain ⟨e, he⟩ : ∃ e, fs[j]? = some e := ⟨_, List.getElem?_eq_getElem hjl⟩
      have hcj : ∀ i u, (fT.enc e)[i]? = some u → wr.cell? ((ad.add (j * 3)).add i) = some u := fun i u hu => by
        rw [add_add]
        refine HF.out.cell (hc _ _ ?_) id
        have hi : i < 3 := (List.getElem?_eq_some_iff.1 hu).1
        have := fT.cells_get fs j e he i hi
        rw [show j * fT.sz + i = j * 3 + i from rfl] at this
        rw [this, hu]
      have k0 : wr.cell? (ad.add (j * 3)) = some (.int .i64 e.f) := hcj 0 _ rfl
      have k1 : wr.cell? { block := (ad.add (j * 3)).block, off := (ad.add (j * 3)).off + 1 } = some (.int .i64 e.c) := hcj 1 _ rfl
      have k2 : wr.cell? { block := (ad.add (j * 3)).block, off := (ad.add (j * 3)).off + 2 } = some (.slice e.A e.xs.length e.cp) := hcj 2 _ rfl
      have RB := (HES.out e (List.mem_of_getElem? he)).no HF.out
      have HTK : Aside0 ((fs.take (j + 1)).map TV.tok = (fs.take j).map TV.tok ++ [e.tok]) := ⟨by rw [List.take_add_one, he]; simp⟩
      have hll : ((fs.take j).map TV.tok).length = j := by rw [List.length_map, List.length_take]; omega
      have HLL := Aside0.mk hll
      have HRB := Aside0.mk RB
      clear hcj hc hll RB
      go_upto_region 5 with fail
      have XB := heap_alloc_new wr (.cells #[.int .i64 e.f, .int .i64 e.c, .slice e.A e.xs.length e.cp] 46)
      have FX : Aside0 (Fr No wr (wr.alloc (.cells #[.int .i64 e.f, .int .i64 e.c, .slice e.A e.xs.length e.cp] 46))) := ⟨(Fr.refl _ _).alloc _⟩
      change Code.wp _ _ _ _ (wr.alloc (.cells #[.int .i64 e.f, .int .i64 e.c, .slice e.A e.xs.length e.cp] 46))
      generalize wr.alloc (.cells #[.int .i64 e.f, .int .i64 e.c, .slice e.A e.xs.length e.cp] 46) = wx at XB FX ⊢
      have c0 : wx.cell? ⟨wr.heap.size, 0, Option.none⟩ = some (.int .i64 e.f) := by rw [blk_cell XB]; rfl
      have c1 : wx.cell? ⟨wr.heap.size, 1, Option.none⟩ = some (.int .i64 e.c) := by rw [blk_cell XB]; rfl
      have c2 : wx.cell? ⟨wr.heap.size, 2, Option.none⟩ = some (.slice e.A e.xs.length e.cp) := by rw [blk_cell XB]; rfl
      have q1 : (convert 22 9 (.slice e.A e.xs.length e.cp)).run Try.prog wx = .ok (.string (bstr e.xs)) wx := str_of_rd (HRB.out.no FX.out)
      clear XB k0 k1 k2
      go_wp2_with (at_builtin; go_loud (refine ap1 (f := fD) rfl (.tmp 12) (.tmp 21) 34 82 (.agg #[.int .i64 0, .int .i64 0, .string ⟨#[]⟩]) 32 rfl Try.underlying34 infoD rfl (by decide) (by decide) u3 ((fs.take j).map TV.tok) e.tok [.int .i64 e.f, .int .i64 e.c, .string (bstr e.xs)] rfl rfl rfl (HO.out.no FX.out) ?c3 ?_; (case c3 => (rw [HLL.out]; omega)); intro v5 w5 h1 h2 h3 h4; have H1 := Aside0.mk h1; have H2 := Aside0.mk h2; have H3 := Aside0.mk h3; clear h1 h2 h3 h4))
      go_roundw
      case rel =>
        have hsz := HF.out.size
        have F4 : Fr (blk u3) wr w5 := (FX.out.mono (fun _ _ h => h.elim)).trans H2.out (fun _ _ h => h)
        refine ⟨j + 1, by go_num, by omega, ⟨by rw [HTK.out]; exact H1.out⟩, ⟨HF.out.trans F4 (fun q hq hb => absurd (HN.out q hb) (by omega))⟩, ⟨fun q hq => ?_⟩⟩
        rcases H3.out with h9 | ⟨q', h9, h10⟩
        · exact HN.out q (h9 ▸ hq)
        · rw [hq] at h9; injection h9 with h9; have := FX.out.size; omega
      case measure => simp [intOf]; omega
    · have hjI : ¬ (j : Int) < (fs.length : Int) := by omega
      have HT : Aside0 (Ow fD 82 wr u3 (fs.map TV.tok)) := ⟨by have := HO.out; rw [List.take_of_length_le (by omega)] at this; exact this⟩
      go_wp2
      go_ret
      exact ⟨_, rfl, HT.out, HF.out⟩


theorem bytes_ok {L : List Tok} (h : bytesE L = 0) : L.length ≤ 8192 ∧ (∀ t ∈ L, okB t = true) ∧ bytesB L = encL L := by
  have h2 : bytesB L = encL L := by unfold bytesB; rw [if_pos h]
  unfold bytesE at h
  split at h
  · cases h
  · rename_i h1
    split at h
    · rename_i h3
      exact ⟨by omega, List.all_eq_true.1 h3, h2⟩
    · cases h
set_option maxHeartbeats 8000000 in
set_option maxRecDepth 100000 in
theorem walk (v : Value) (fs : List TV) (w : World) (h : Rd fT w v fs ∧ (∀ e ∈ fs, e.ok w) ∧ fs.length * 40 ≤ reach) : Calls Try.prog 8 #[v] w fun e w' => e = .returned (.bool true) ∧ Fr No w w' := by
  obtain ⟨hv, hok, hlen⟩ := h
  obtain ⟨A, c, rfl, hlc, hcm, _⟩ := id hv
  have hfl : fs.length ≤ 4000000000000 := by unfold reach at hlen; omega
  have HV := Aside0.mk hv; have HOK := Aside0.mk hok
  clear hv hok hlen
  go_enter Try.func8, Try.ntmps8
  go_wp2_with fail
  refine (tells_calls _).mono ?_
  rintro e w1 ⟨rfl, hf⟩
  have F1 : Aside0 (Fr No w w1) := ⟨hf⟩
  clear hf
  go_wp2_with fail
  go_loopw [3, 16] (fun v3 v16 wr => ∃ i n : Nat, v16 = .int .i64 (i : Int) ∧ v3 = .int .i64 (n : Int) ∧ i ≤ fs.length ∧ n ≤ 20000 ∧ Aside0 (∀ (j : Nat) (e : TV), j < i → fs[j]? = some e → e.xs.length ≤ 5000) ∧ Aside0 (Fr No w wr)) (fun _ v16 _ => fs.length - (intOf v16).toNat)
  case atStart => exact ⟨0, 0, rfl, rfl, Nat.zero_le _, Nat.zero_le _, ⟨fun j e hj => absurd hj (by omega)⟩, F1⟩
  case round =>
    obtain ⟨i, n, rfl, rfl, hi, hn, HX, HF⟩ := hrel
    by_cases hil : i < fs.length
    · have hiI : (i : Int) < (fs.length : Int) := by omega
      obtain ⟨e, he⟩ : ∃ e, fs[i]? = some e := ⟨_, List.getElem?_eq_getElem hil⟩
      have hxl := (HOK.out e (List.mem_of_getElem? he)).2
      obtain ⟨ad, hA, hcv⟩ := rd_elem (HV.out.no HF.out) i e he
      have HNX : Aside0 (e.xs.length ≤ 5000 → ∀ (j : Nat) (e' : TV), j < i + 1 → fs[j]? = some e' → e'.xs.length ≤ 5000) := ⟨fun h5 j e' hj hj' => by
        rcases Nat.lt_or_ge j i with h9 | h9
        · exact HX.out j e' h9 hj'
        · obtain rfl : j = i := by omega
          rw [he] at hj'
          injection hj' with hj'
          rw [← hj']
          exact h5⟩
      obtain ⟨F, C, Ax, px, xs⟩ := e
      dsimp only at hxl HNX
      unfold reach at hxl
      obtain rfl := hA
      have k0 : wr.cell? (ad.add (i * 3)) = some (.int .i64 F) := by have := hcv 0 _ rfl; rw [add_add, Nat.add_zero] at this; exact this
      have k1 : wr.cell? { block := (ad.add (i * 3)).block, off := (ad.add (i * 3)).off + 1 } = some (.int .i64 C) := hcv 1 _ rfl
      have k2 : wr.cell? { block := (ad.add (i * 3)).block, off := (ad.add (i * 3)).off + 2 } = some (.slice Ax xs.length px) := hcv 2 _ rfl
      clear hcv he
      go_upto_region 7 with fail
      have XB0 := heap_alloc_new wr (.cells #[.int .i64 F, .int .i64 C, .slice Ax xs.length px] 46)
      have HFX : Aside0 (Fr No w (wr.alloc (.cells #[.int .i64 F, .int .i64 C, .slice Ax xs.length px] 46))) := ⟨HF.out.alloc _⟩
      change Code.wp _ _ _ _ (wr.alloc (.cells #[.int .i64 F, .int .i64 C, .slice Ax xs.length px] 46))
      generalize wr.alloc (.cells #[.int .i64 F, .int .i64 C, .slice Ax xs.length px] 46) = wx at XB0 HFX ⊢
      have d2 : wx.cell? ⟨wr.heap.size, 2, Option.none⟩ = some (.slice Ax xs.length px) := by rw [blk_cell XB0]; rfl
      have hwn : IntKind.i64.wrap ((n : Int) + (xs.length : Int)) = (n : Int) + (xs.length : Int) := by rw [i64_left]; exact wrap64_in _ (by omega)
      clear XB0 k0 k1 k2 hxl
      rcases (by omega : (5000 : Int) < (xs.length : Int) ∨ (¬ (5000 : Int) < (xs.length : Int) ∧ (20000 : Int) < (n : Int) + (xs.length : Int)) ∨ (¬ (5000 : Int) < (xs.length : Int) ∧ ¬ (20000 : Int) < (n : Int) + (xs.length : Int))) with h1 | ⟨h1, h2⟩ | ⟨h1, h2⟩
      · go_wp2
        go_ret
        exact ⟨rfl, HFX.out⟩
      · go_wp2
        go_ret
        exact ⟨rfl, HFX.out⟩
      · go_wp2
        go_roundw
        case rel => exact ⟨i + 1, n + xs.length, by go_num, by go_num, by omega, by omega, ⟨HNX.out (by omega)⟩, HFX⟩
        case measure => simp [intOf]; omega
    · have hiI : ¬ (i : Int) < (fs.length : Int) := by omega
      have hxs : ∀ e ∈ fs, e.xs.length ≤ 5000 := fun e he => by
        obtain ⟨j, hj⟩ := List.getElem?_of_mem he
        have := (List.getElem?_eq_some_iff.1 hj).1
        exact HX.out j e (by omega) hj
      have hxL : ∀ t ∈ fs.map TV.tok, t.2.2.length ≤ 5000 := fun t ht => by
        obtain ⟨e, he, rfl⟩ := List.mem_map.1 ht
        exact hxs e he
      have hby := fun W h1 h2 => bytes_calls (.slice A fs.length c) fs W h1 h2 hxs hfl
      have hrb := fun v W h1 => rbytes_calls v (fs.map TV.tok) W h1 hxL (by rw [List.length_map]; exact hfl)
      have hback := fun h => bytes_ok (L := fs.map TV.tok) h
      obtain ⟨E, hE⟩ : ∃ E, bytesE (fs.map TV.tok) = E := ⟨_, rfl⟩
      obtain ⟨X, hX⟩ : ∃ X, bytesB (fs.map TV.tok) = X := ⟨_, rfl⟩
      rw [hE, hX] at hback
      simp only [hE, hX] at hby hrb
      have HBY := Aside0.mk hby; have HRBY := Aside0.mk hrb; have HBACK := Aside0.mk hback; have HXL := Aside0.mk hxL
      clear hby hrb hback hE hX hxs hxL HX
      go_wp2_with fail
      refine (HBY.out wr (HV.out.no HF.out) (fun e he => (HOK.out e he).1.no HF.out)).mono ?_
      rintro e w2 ⟨vb, rfl, hN⟩
      have F2 : Aside0 (Fr No w w2) := ⟨HF.out.none hN.fr⟩
      obtain ⟨Ab, cb, hvb⟩ := hN.own.form
      subst hvb
      have HN := Aside0.mk hN.own
      clear hN
      go_wp2_with fail
      refine (plain9_calls (.slice A fs.length c) fs w2 (HV.out.no F2.out) (fun e he => (HOK.out e he).1.no F2.out) hfl).mono ?_
      rintro e w3 ⟨vp, rfl, hP, hf⟩
      have F3 : Aside0 (Fr No w2 w3) := ⟨hf⟩
      have HP := Aside0.mk hP
      clear hf hP
      go_wp2_with fail
      refine (HRBY.out vp w3 HP.out.rd).mono ?_
      rintro e w4 ⟨rfl, hf⟩
      have F4 : Aside0 (Fr No w2 w4) := ⟨F3.out.none hf⟩
      have qb : (convert 22 9 (.slice Ab X.length cb)).run Try.prog w4 = .ok (.string (bstr X)) w4 := str_of_rd (HN.out.no F4.out).rd
      clear hf
      by_cases hE0 : E = 0
      · subst hE0
        obtain ⟨b1, b2, b3⟩ := HBACK.out rfl
        have hrd := fun W (h : RdB W (.slice Ab X.length cb) X) => read_back (.slice Ab X.length cb) X (fs.map TV.tok) W h b3 b1 b2 HXL.out
        have HRD := Aside0.mk hrd
        clear b1 b2 b3 hrd
        go_wp2_with fail
        refine (HRD.out w4 (HN.out.no F4.out).rd).mono ?_
        rintro e w5 ⟨vo, rfl, ⟨fs2, hT, hfs2⟩, hf⟩
        have F5 : Aside0 (Fr No w w5) := ⟨(F2.out.none F4.out).none hf⟩
        have HT := Aside0.mk hT
        have hfl2 : fs2.length ≤ 4000000000000 := by
          have := congrArg List.length hfs2
          rw [List.length_map, List.length_map] at this
          omega
        have HF2 := Aside0.mk hfs2
        clear hf hT hfs2 qb
        go_wp2_with fail
        refine (plain9_calls vo fs2 w5 HT.out.row.rd (fun e he => (HT.out.own e he).1.rd) hfl2).mono ?_
        rintro e w6 ⟨vp2, rfl, hP, hf⟩
        have F6 : Aside0 (Fr No w w6) := ⟨F5.out.none hf⟩
        have HP2 := Aside0.mk hP
        clear hf hP
        go_wp2_with fail
        refine (plain9_calls (.slice A fs.length c) fs w6 (HV.out.no F6.out) (fun e he => (HOK.out e he).1.no F6.out) hfl).mono ?_
        rintro e w7 ⟨vp3, rfl, hP, hf⟩
        have F7 : Aside0 (Fr No w w7) := ⟨F6.out.none hf⟩
        have HP3 := Aside0.mk hP; have HP27 := Aside0.mk (HP2.out.no hf)
        clear hf hP
        go_wp2_with fail
        refine (same7_calls vp2 vp3 (fs.map TV.tok) w7 (by rw [← HF2.out]; exact HP27.out.rd) HP3.out.rd).mono ?_
        rintro e w8 ⟨rfl, hf⟩
        have F8 : Aside0 (Fr No w w8) := ⟨F7.out.none hf⟩
        clear hf
        go_wp2
        go_ret
        exact ⟨rfl, F8.out⟩
      · have hE1 : (E == 0) = false := by rw [beq_eq_false_iff_ne]; exact hE0
        clear hE0
        go_wp2
        go_ret
        exact ⟨rfl, F2.out.none F4.out⟩
end Go.Proofs.Ytebgkmfecmlanaa.LDeltaBytes
