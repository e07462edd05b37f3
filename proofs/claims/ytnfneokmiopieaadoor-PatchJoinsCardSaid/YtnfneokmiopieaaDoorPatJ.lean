/- patch.Join: walked. The document's Join: walked. The statements' plain of tokens (chapter 08): walked. -/
import Derived.Test.YtnfneokmiopieaaDoorTk
import Derived.Test.YtnfneokmiopieaaDoorSpecJoin
import Derived.Test.YtnfneokmiopieaaDoorBlkB
import Derived.Test.YtnfneokmiopieaaDoorCutR
import Derived.Test.YtnfneokmiopieaaDoorRegion
import Derived.Test.YtnfneokmiopieaaDoorBlkC
set_option linter.unusedVariables false
set_option linter.unusedSimpArgs false
namespace Go.Proofs.YtnfneokmiopieaaDoor.Pat
open Go.RowKit Go.IntWalk Go.Proofs.YtnfneokmiopieaaDoorW.PrintWords Go.Proofs.YtnfneokmiopieaaDoor.B Go.Proofs.YtnfneokmiopieaaDoor.PB Go.Proofs.YtnfneokmiopieaaDoor.STell Go.Proofs.YtnfneokmiopieaaDoor.SJoin Go.Proofs.YtnfneokmiopieaaDoor.Tk Go.Proofs.YtnfneokmiopieaaDoor.Blk Go.Proofs.YtnfneokmiopieaaDoor.SBlk
attribute [local go_sem] B.max2_int B.min2_int B.max_two B.min_two

set_option maxHeartbeats 8000000 in
set_option maxRecDepth 100000 in
theorem join_calls (vo vl : Value) (old : List UInt8) (size : Int) (fs : List TV) (w : World) (ho : RdB w vo old) (hv : Rd fT w vl fs) (hes : ∀ e ∈ fs, RdB w e.dv e.xs) (hol : old.length ≤ 100000) (hn : fs.length ≤ 1000000) (hsz : size ≤ 9223372036854775807) (hxs : ∀ e ∈ fs, e.xs.length ≤ 100000000) (hF : ∀ e ∈ fs, e.c ≤ 9223372036854775807) :
    Calls Tryd.prog 10 #[vo, .int .i64 size, vl] w fun e w' => ∃ v ev, e = .returned (.tuple #[v, ev]) ∧ On w w' v (joinR old size (fs.map TV.tok)).1 ∧ IsErr w' ev (errJ (joinR old size (fs.map TV.tok))) ∧ (ev = .nilIface → (joinR old size (fs.map TV.tok)).2.1 = 0) := by
  obtain ⟨A0, c0, rfl, hoc, _⟩ := id ho
  obtain ⟨A, c, rfl, hlc, hcm, _⟩ := id hv
  obtain ⟨R, hR⟩ : ∃ R, joinR old size (fs.map TV.tok) = R := ⟨_, rfl⟩
  rw [hR]
  obtain ⟨bn, hbn⟩ : ∃ bn, countI old.length size = bn := ⟨_, rfl⟩
  have HO := Aside0.mk ho; have HV := Aside0.mk hv; have HES := Aside0.mk hes; have HXS := Aside0.mk hxs; have HR := Aside0.mk hR; have HBN := Aside0.mk hbn; have HFF := Aside0.mk hF
  clear ho hv hes hxs hR hbn hcm hF
  go_enter Tryd.func10, Tryd.ntmps10
  go_wp2_with fail
  refine (count_calls old.length size w (by omega) hsz).mono ?_
  rintro e w0 ⟨rfl, hw⟩
  subst hw
  rw [HBN.out]
  go_wp2_with fail
  go_loopw [8, 19] (fun v8 v19 wr => ∃ (i : Nat) (out : List UInt8), v19 = .int .i64 (i : Int) ∧ i ≤ fs.length ∧ out.length ≤ 65536 ∧ Aside0 (On w wr v8 out) ∧ Aside0 (joinL old size i out ((fs.map TV.tok).drop i) = R)) (fun _ v19 _ => fs.length - (intOf v19).toNat)
  case atStart => exact ⟨0, [], rfl, Nat.zero_le _, Nat.zero_le _, ⟨On.nil (Fr.refl _ _)⟩, ⟨HR.out⟩⟩
  case round =>
    obtain ⟨i, out, rfl, hi, hout, HN, HJ⟩ := hrel
    obtain ⟨Au, cu, hu⟩ := HN.out.own.form
    subst hu
    by_cases hil : i < fs.length
    · have hiI : (i : Int) < (fs.length : Int) := by omega
      obtain ⟨e, he⟩ : ∃ e, fs[i]? = some e := ⟨_, List.getElem?_eq_getElem hil⟩
      have hem := List.mem_of_getElem? he
      have HRB := Aside0.mk (HES.out e hem)
      have hxl := HXS.out e hem
      have hcc := HFF.out e hem
      have hLt : (fs.map TV.tok)[i]? = some e.tok := by rw [List.getElem?_map, he]; rfl
      obtain ⟨ad, hA, hcv⟩ := rd_elem (HV.out.no HN.out.fr) i e he
      obtain ⟨F, C, Ax, px, xs⟩ := e
      dsimp only [TV.dv, TV.tok] at HRB hxl hLt hcc
      have HLT := Aside0.mk hLt
      obtain rfl := hA
      have k0 : wr.cell? (ad.add (i * 3)) = some (.int .i64 F) := by have := hcv 0 _ rfl; rw [add_add, Nat.add_zero] at this; exact this
      have k1 : wr.cell? { block := (ad.add (i * 3)).block, off := (ad.add (i * 3)).off + 1 } = some (.int .i64 C) := hcv 1 _ rfl
      have k2 : wr.cell? { block := (ad.add (i * 3)).block, off := (ad.add (i * 3)).off + 2 } = some (.slice Ax xs.length px) := hcv 2 _ rfl
      clear hcv he hem hLt
      go_upto_region 6 with fail
      have XB := heap_alloc_new wr (.cells #[.int .i64 F, .int .i64 C, .slice Ax xs.length px] 52)
      have HNX : Aside0 (On w (wr.alloc (.cells #[.int .i64 F, .int .i64 C, .slice Ax xs.length px] 52)) (.slice Au out.length cu) out) := ⟨HN.out.no ((Fr.refl _ _).alloc _)⟩
      change Code.wp _ _ _ _ (wr.alloc (.cells #[.int .i64 F, .int .i64 C, .slice Ax xs.length px] 52))
      generalize wr.alloc (.cells #[.int .i64 F, .int .i64 C, .slice Ax xs.length px] 52) = wx at XB HNX ⊢
      have d0 : wx.cell? ⟨wr.heap.size, 0, Option.none⟩ = some (.int .i64 F) := by rw [blk_cell XB]; rfl
      have d1 : wx.cell? ⟨wr.heap.size, 1, Option.none⟩ = some (.int .i64 C) := by rw [blk_cell XB]; rfl
      have d2 : wx.cell? ⟨wr.heap.size, 2, Option.none⟩ = some (.slice Ax xs.length px) := by rw [blk_cell XB]; rfl
      clear XB k0 k1 k2
      have hcase : C < 0 ∨ (¬ C < 0 ∧ F < 0) ∨ (¬ C < 0 ∧ ¬ F < 0 ∧ 0 < C ∧ (0 : Int) < (xs.length : Int)) ∨ (¬ C < 0 ∧ ¬ F < 0 ∧ 0 < C ∧ ¬ (0 : Int) < (xs.length : Int) ∧ bn ≤ F) ∨ (¬ C < 0 ∧ ¬ F < 0 ∧ 0 < C ∧ ¬ (0 : Int) < (xs.length : Int) ∧ ¬ bn ≤ F ∧ bn - F < C) ∨ (¬ C < 0 ∧ ¬ F < 0 ∧ 0 < C ∧ ¬ (0 : Int) < (xs.length : Int) ∧ ¬ bn ≤ F ∧ ¬ bn - F < C) ∨ (¬ C < 0 ∧ ¬ F < 0 ∧ ¬ 0 < C) := by omega
      rcases hcase with h1 | ⟨h1, h2⟩ | ⟨h1, h2, h3, h4⟩ | ⟨h1, h2, h3, h4, h5⟩ | ⟨h1, h2, h3, h4, h5, h6⟩ | ⟨h1, h2, h3, h4, h5, h6⟩ | ⟨h1, h2, h3⟩
      · have hst : stepJ old size out (F, C, xs) = (80, []) := by
          unfold stepJ; rw [if_pos (.inl h1)]
        have HRE : Aside0 (R = ([], 80, i)) := ⟨by rw [← HJ.out]; exact joinL_err HLT.out hst (by decide)⟩
        clear hst
        go_wp2
        (try simp only [Exit.inBlock, Exit.then]); refine bodyPost_ret (results_list (rs := [.tmp 6, .tmp 7]) rfl (by simp) (.tmp (.tmp .nil))) rfl ?_
        rw [HRE.out]
        refine ⟨_, _, rfl, On.nil (HNX.out.fr.alloc _), ⟨wx.heap.size, rfl, ?_⟩, fun h => by cases h⟩
        first | exact heap_alloc_new wx _ | simpa using heap_alloc_new wx _
      · have hst : stepJ old size out (F, C, xs) = (80, []) := by
          unfold stepJ; rw [if_pos (.inr (.inl h2))]
        have HRE : Aside0 (R = ([], 80, i)) := ⟨by rw [← HJ.out]; exact joinL_err HLT.out hst (by decide)⟩
        clear hst
        go_wp2
        (try simp only [Exit.inBlock, Exit.then]); refine bodyPost_ret (results_list (rs := [.tmp 6, .tmp 7]) rfl (by simp) (.tmp (.tmp .nil))) rfl ?_
        rw [HRE.out]
        refine ⟨_, _, rfl, On.nil (HNX.out.fr.alloc _), ⟨wx.heap.size, rfl, ?_⟩, fun h => by cases h⟩
        first | exact heap_alloc_new wx _ | simpa using heap_alloc_new wx _
      · have hst : stepJ old size out (F, C, xs) = (80, []) := by
          unfold stepJ; rw [if_pos (.inr (.inr ⟨h3, fun e => by rw [show xs = [] from e] at h4; simp at h4⟩))]
        have HRE : Aside0 (R = ([], 80, i)) := ⟨by rw [← HJ.out]; exact joinL_err HLT.out hst (by decide)⟩
        clear hst
        go_wp2
        (try simp only [Exit.inBlock, Exit.then]); refine bodyPost_ret (results_list (rs := [.tmp 6, .tmp 7]) rfl (by simp) (.tmp (.tmp .nil))) rfl ?_
        rw [HRE.out]
        refine ⟨_, _, rfl, On.nil (HNX.out.fr.alloc _), ⟨wx.heap.size, rfl, ?_⟩, fun h => by cases h⟩
        first | exact heap_alloc_new wx _ | simpa using heap_alloc_new wx _
      · have hst : stepJ old size out (F, C, xs) = (1, []) := by
          have hx0 : xs = [] := List.length_eq_zero_iff.1 (by omega)
          unfold stepJ; rw [if_neg (by simp only [hx0]; simp <;> omega)]; rw [if_pos h3, HBN.out, if_pos (.inl h5)]
        have HRE : Aside0 (R = ([], 1, i)) := ⟨by rw [← HJ.out]; exact joinL_err HLT.out hst (by decide)⟩
        clear hst
        go_wp2
        (try simp only [Exit.inBlock, Exit.then]); refine bodyPost_ret (results_list (rs := [.tmp 6, .tmp 7]) rfl (by simp) (.tmp (.tmp .nil))) rfl ?_
        rw [HRE.out]
        refine ⟨_, _, rfl, On.nil (HNX.out.fr.alloc _), ⟨wx.heap.size, rfl, ?_⟩, fun h => by cases h⟩
        first | exact heap_alloc_new wx _ | simpa using heap_alloc_new wx _
      · have hst : stepJ old size out (F, C, xs) = (1, []) := by
          have hx0 : xs = [] := List.length_eq_zero_iff.1 (by omega)
          unfold stepJ; rw [if_neg (by simp only [hx0]; simp <;> omega)]; rw [if_pos h3, HBN.out, if_pos (.inr h6)]
        have HRE : Aside0 (R = ([], 1, i)) := ⟨by rw [← HJ.out]; exact joinL_err HLT.out hst (by decide)⟩
        clear hst
        go_wp2
        (try simp only [Exit.inBlock, Exit.then]); refine bodyPost_ret (results_list (rs := [.tmp 6, .tmp 7]) rfl (by simp) (.tmp (.tmp .nil))) rfl ?_
        rw [HRE.out]
        refine ⟨_, _, rfl, On.nil (HNX.out.fr.alloc _), ⟨wx.heap.size, rfl, ?_⟩, fun h => by cases h⟩
        first | exact heap_alloc_new wx _ | simpa using heap_alloc_new wx _
      · have hx0 : xs = [] := List.length_eq_zero_iff.1 (by omega)
        obtain ⟨s, f, cn, m1, m3, k, rfl, rfl, rfl, g1, g2, g3, g4, g5, g6, g7, g8, g9, g10, g11, g12⟩ := blk_facts (n := old.length) (size := size) (F := F) (C := C) (by omega) h3 (by rw [HBN.out]; omega) (by rw [HBN.out]; omega) hol hsz
        have hst0 : stepJ old s out ((f : Int), (cn : Int), xs) = if 65536 < out.length + k then (2, []) else (0, out ++ (old.drop m1).take k) := by
          unfold stepJ
          simp only
          rw [if_neg (by rw [hx0]; simp <;> omega), if_pos h3, HBN.out, if_neg (by omega), g12 old rfl, List.length_take, List.length_drop, Nat.min_eq_left (by omega)]
        have w1' : IntKind.i64.wrap ((f : Int) * (s : Int)) = (m1 : Int) := by rw [g5, i64_left]; exact wrap64_in _ (by omega)
        have w2' : IntKind.i64.wrap ((f : Int) + (cn : Int)) = (f : Int) + (cn : Int) := by rw [i64_left]; exact wrap64_in _ (by omega)
        have w3' : IntKind.i64.wrap (((f : Int) + (cn : Int)) * (s : Int)) = (m3 : Int) := by rw [g6, i64_left]; exact wrap64_in _ (by omega)
        have w4' : IntKind.i64.wrap (bn - (f : Int)) = bn - (f : Int) := by rw [i64_left]; exact wrap64_in _ (by have h8 := HBN.out; rw [countI_nat _ _ (by omega)] at h8; have := cnt_le old.length s (by omega); omega)
        obtain ⟨A2, hcut, hrd⟩ := cut_bytes A0 old.length c0 m1 k (by omega) hoc
        have HRD := Aside0.mk (hrd old wx (HO.out.no HNX.out.fr))
        have hpl : ((old.drop m1).take k).length = k := by rw [List.length_take, List.length_drop]; omega
        obtain ⟨pc, hpc⟩ : ∃ pc, (old.drop m1).take k = pc := ⟨_, rfl⟩
        rw [hpc] at hst0 HRD hpl
        have HPL := Aside0.mk hpl
        have hx0I : ((xs.length : Nat) : Int) = 0 := by rw [hx0]; rfl
        have hkN : (if old.length < m3 then (old.length : Int) else (m3 : Int)) = (m1 : Int) + (k : Int) := by rw [← g10]; simp only [Int.ofNat_lt]
        clear g10
        by_cases hlong : 65536 < out.length + k
        · have HRE : Aside0 (R = ([], 2, i)) := ⟨by rw [← HJ.out]; exact joinL_err HLT.out (by rw [hst0, if_pos hlong]) (by decide)⟩
          have hlI : (65536 : Int) - (out.length : Int) < (k : Int) := by omega
          clear hst0 hrd hpc hpl g5 g6 g12 g4 g2 g3 hx0 hlong
          go_wp2
          (try simp only [Exit.inBlock, Exit.then]); refine bodyPost_ret (results_list (rs := [.tmp 6, .tmp 7]) rfl (by simp) (.tmp (.tmp .nil))) rfl ?_
          rw [HRE.out]
          refine ⟨_, _, rfl, On.nil (HNX.out.fr.alloc _), ⟨wx.heap.size, rfl, ?_⟩, fun h => by cases h⟩
          first | exact heap_alloc_new wx _ | simpa using heap_alloc_new wx _
        · have HRE : Aside0 (joinL old s (i + 1) (out ++ pc) ((fs.map TV.tok).drop (i + 1)) = R) := ⟨by rw [← HJ.out]; exact (joinL_ok HLT.out (by rw [hst0, if_neg hlong])).symm⟩
          have hlI : ¬ (65536 : Int) - (out.length : Int) < (k : Int) := by omega
          have hps : pc.length = k := HPL.out
          clear hst0 hrd hpc hpl g5 g6 g12 g4 g2 g3 hx0 hlong
          go_wp2_with (at_builtin; refine apBs (.slice Au out.length cu) out (.slice A2 k (c0 - m1)) pc rfl (.tmp 93) (.tmp 94) rfl rfl rfl HNX.out.own HRD.out (by omega) ?_; intro v5 w5 i1 i2 i3 i4; have N5 : Aside0 (On w w5 v5 (out ++ pc)) := ⟨HNX.out.step i1 i2 i3⟩; clear i1 i2 i3 i4)
          go_roundw
          case rel => exact ⟨i + 1, out ++ pc, by go_num, by omega, by rw [List.length_append, HPL.out]; omega, N5, HRE⟩
          case measure => simp [intOf]; omega
      · have hC0 : C = 0 := by omega
        subst hC0
        have hst0 : stepJ old size out (F, 0, xs) = if 65536 < out.length + xs.length then (2, []) else (0, out ++ xs) := by
          unfold stepJ
          simp only
          rw [if_neg (by omega), if_neg (by omega)]
        have HXB := Aside0.mk (HRB.out.no HNX.out.fr)
        by_cases hlong : 65536 < out.length + xs.length
        · have HRE : Aside0 (R = ([], 2, i)) := ⟨by rw [← HJ.out]; exact joinL_err HLT.out (by rw [hst0, if_pos hlong]) (by decide)⟩
          have hlI : (65536 : Int) - (out.length : Int) < (xs.length : Int) := by omega
          clear hst0 hlong
          go_wp2
          (try simp only [Exit.inBlock, Exit.then]); refine bodyPost_ret (results_list (rs := [.tmp 6, .tmp 7]) rfl (by simp) (.tmp (.tmp .nil))) rfl ?_
          rw [HRE.out]
          refine ⟨_, _, rfl, On.nil (HNX.out.fr.alloc _), ⟨wx.heap.size, rfl, ?_⟩, fun h => by cases h⟩
          first | exact heap_alloc_new wx _ | simpa using heap_alloc_new wx _
        · have HRE : Aside0 (joinL old size (i + 1) (out ++ xs) ((fs.map TV.tok).drop (i + 1)) = R) := ⟨by rw [← HJ.out]; exact (joinL_ok HLT.out (by rw [hst0, if_neg hlong])).symm⟩
          have hlI : ¬ (65536 : Int) - (out.length : Int) < (xs.length : Int) := by omega
          clear hst0
          go_wp2_with (at_builtin; refine apBs (.slice Au out.length cu) out (.slice Ax xs.length px) xs rfl (.tmp 93) (.tmp 94) rfl rfl rfl HNX.out.own HXB.out (by omega) ?_; intro v5 w5 i1 i2 i3 i4; have N5 : Aside0 (On w w5 v5 (out ++ xs)) := ⟨HNX.out.step i1 i2 i3⟩; clear i1 i2 i3 i4)
          go_roundw
          case rel => exact ⟨i + 1, out ++ xs, by go_num, by omega, by rw [List.length_append]; omega, N5, HRE⟩
          case measure => simp [intOf]; omega
    · have hiI : ¬ (i : Int) < (fs.length : Int) := by omega
      have hil2 : i = fs.length := by omega
      have HRE : Aside0 (R = (out, 0, 0)) := ⟨by
        have h9 := joinL_end (old := old) (size := size) (L := fs.map TV.tok) (out := out)
        rw [List.length_map] at h9
        rw [← HJ.out, hil2]
        exact h9⟩
      go_wp2
      (try simp only [Exit.inBlock, Exit.then]); refine bodyPost_ret (results_list (rs := [.tmp 6, .tmp 7]) rfl (by simp) (.tmp (.tmp .nil))) rfl ?_
      rw [HRE.out]
      exact ⟨_, _, rfl, HN.out, rfl, fun _ => rfl⟩
end Go.Proofs.YtnfneokmiopieaaDoor.Pat
namespace Go.Proofs.YtnfneokmiopieaaDoor.Pat
open Go.RowKit Go.IntWalk Go.Proofs.YtnfneokmiopieaaDoorW.PrintWords Go.Proofs.YtnfneokmiopieaaDoor.B Go.Proofs.YtnfneokmiopieaaDoor.PB Go.Proofs.YtnfneokmiopieaaDoor.STell Go.Proofs.YtnfneokmiopieaaDoor.SJoin Go.Proofs.YtnfneokmiopieaaDoor.Tk Go.Proofs.YtnfneokmiopieaaDoor.Blk Go.Proofs.YtnfneokmiopieaaDoor.SBlk

theorem piece_more (d : List UInt8) (s f k : Nat) : (d.drop (f * s)).take (k * s) ++ piece s d (f + k) = (d.drop (f * s)).take ((k + 1) * s) := by
  unfold piece
  rw [Nat.add_mul k 1 s, Nat.one_mul, List.take_add, List.drop_drop, Nat.add_mul]

set_option maxHeartbeats 8000000 in
set_option maxRecDepth 100000 in
theorem rjoin_calls (vl : Value) (old : List UInt8) (size : Int) (L : List Tok) (w : World) (hv : Rd fD w vl L) (hol : old.length ≤ 100000) (hn : L.length ≤ 1000000) (hsz : size ≤ 9223372036854775807) (hxs : ∀ e ∈ L, e.2.2.length ≤ 100000000) (hF : ∀ e ∈ L, e.2.1 ≤ 9223372036854775807) :
    Calls Tryd.prog 11 #[.string (bstr old), .int .i64 size, vl] w fun e w' => e = .returned (.tuple #[.string (bstr (joinR old size L).1), .int .i64 (joinR old size L).2.1, .int .i64 ((joinR old size L).2.2 : Int)]) ∧ Fr No w w' := by
  obtain ⟨A, c, rfl, hlc, hcm, _⟩ := id hv
  have hosz : (bstr old).size = old.length := bstr_size old
  obtain ⟨R, hR⟩ : ∃ R, joinR old size L = R := ⟨_, rfl⟩
  rw [hR]
  obtain ⟨bn, hbn⟩ : ∃ bn, countI old.length size = bn := ⟨_, rfl⟩
  have HV := Aside0.mk hv; have HXS := Aside0.mk hxs; have HR := Aside0.mk hR; have HBN := Aside0.mk hbn; have HFF := Aside0.mk hF
  clear hv hxs hR hbn hcm hF
  go_enter Tryd.func11, Tryd.ntmps11
  go_wp2_with fail
  refine (refCount_calls old.length size w (by omega) hsz).mono ?_
  rintro e w0 ⟨rfl, hw⟩
  subst hw
  rw [HBN.out]
  go_wp2_with fail
  go_loopw [9, 11] (fun v9 v11 wr => ∃ (i : Nat) (out : List UInt8), v11 = .int .i64 (i : Int) ∧ v9 = .string (bstr out) ∧ i ≤ L.length ∧ out.length ≤ 65536 ∧ Aside0 (Fr No w wr) ∧ Aside0 (joinL old size i out (L.drop i) = R)) (fun _ v11 _ => L.length - (intOf v11).toNat)
  case atStart => exact ⟨0, [], rfl, rfl, Nat.zero_le _, Nat.zero_le _, ⟨Fr.refl _ _⟩, ⟨HR.out⟩⟩
  case round =>
    obtain ⟨i, out, rfl, rfl, hi, hout, HF, HJ⟩ := hrel
    have hosz2 : (bstr out).size = out.length := bstr_size out
    by_cases hil : i < L.length
    · have hiI : (i : Int) < (L.length : Int) := by omega
      obtain ⟨e, he⟩ : ∃ e, L[i]? = some e := ⟨_, List.getElem?_eq_getElem hil⟩
      have hem := List.mem_of_getElem? he
      have hxl := HXS.out e hem
      have hcc := HFF.out e hem
      obtain ⟨ad, hA, hcv⟩ := rd_elem (HV.out.no HF.out) i e he
      obtain ⟨F, C, xs⟩ := e
      dsimp only at hxl hcc
      have HLT := Aside0.mk he
      obtain rfl := hA
      have hxsz : (bstr xs).size = xs.length := bstr_size xs
      have k0 : wr.cell? (ad.add (i * 3)) = some (.int .i64 F) := by have := hcv 0 _ rfl; rw [add_add, Nat.add_zero] at this; exact this
      have k1 : wr.cell? { block := (ad.add (i * 3)).block, off := (ad.add (i * 3)).off + 1 } = some (.int .i64 C) := hcv 1 _ rfl
      have k2 : wr.cell? { block := (ad.add (i * 3)).block, off := (ad.add (i * 3)).off + 2 } = some (.string (bstr xs)) := hcv 2 _ rfl
      clear hcv he hem
      go_upto_region 7 with fail
      have XB := heap_alloc_new wr (.cells #[.int .i64 F, .int .i64 C, .string (bstr xs)] 66)
      have HFX : Aside0 (Fr No w (wr.alloc (.cells #[.int .i64 F, .int .i64 C, .string (bstr xs)] 66))) := ⟨HF.out.alloc _⟩
      change Code.wp _ _ _ _ (wr.alloc (.cells #[.int .i64 F, .int .i64 C, .string (bstr xs)] 66))
      generalize wr.alloc (.cells #[.int .i64 F, .int .i64 C, .string (bstr xs)] 66) = wx at XB HFX ⊢
      have d0 : wx.cell? ⟨wr.heap.size, 0, Option.none⟩ = some (.int .i64 F) := by rw [blk_cell XB]; rfl
      have d1 : wx.cell? ⟨wr.heap.size, 1, Option.none⟩ = some (.int .i64 C) := by rw [blk_cell XB]; rfl
      have d2 : wx.cell? ⟨wr.heap.size, 2, Option.none⟩ = some (.string (bstr xs)) := by rw [blk_cell XB]; rfl
      clear XB k0 k1 k2
      have hcase : C < 0 ∨ (¬ C < 0 ∧ F < 0) ∨ (¬ C < 0 ∧ ¬ F < 0 ∧ 0 < C ∧ 0 < xs.length) ∨ (¬ C < 0 ∧ ¬ F < 0 ∧ 0 < C ∧ xs.length = 0 ∧ bn ≤ F) ∨ (¬ C < 0 ∧ ¬ F < 0 ∧ 0 < C ∧ xs.length = 0 ∧ ¬ bn ≤ F ∧ bn - F < C) ∨ (¬ C < 0 ∧ ¬ F < 0 ∧ 0 < C ∧ xs.length = 0 ∧ ¬ bn ≤ F ∧ ¬ bn - F < C) ∨ (¬ C < 0 ∧ ¬ F < 0 ∧ ¬ 0 < C) := by omega
      rcases hcase with h1 | ⟨h1, h2⟩ | ⟨h1, h2, h3, h4⟩ | ⟨h1, h2, h3, h4, h5⟩ | ⟨h1, h2, h3, h4, h5, h6⟩ | ⟨h1, h2, h3, h4, h5, h6⟩ | ⟨h1, h2, h3⟩
      · have hst : stepJ old size out (F, C, xs) = (80, []) := by
          unfold stepJ; rw [if_pos (.inl h1)]
        have HRE : Aside0 (R = ([], 80, i)) := ⟨by rw [← HJ.out]; exact joinL_err HLT.out hst (by decide)⟩
        clear hst
        go_wp2
        (try simp only [Exit.inBlock, Exit.then]); refine bodyPost_ret (results_list (rs := [.tmp 6, .tmp 7, .tmp 8]) rfl (by simp) (.tmp (.tmp (.tmp .nil)))) rfl ?_
        rw [HRE.out]
        exact ⟨rfl, HFX.out⟩
      · have hst : stepJ old size out (F, C, xs) = (80, []) := by
          unfold stepJ; rw [if_pos (.inr (.inl h2))]
        have HRE : Aside0 (R = ([], 80, i)) := ⟨by rw [← HJ.out]; exact joinL_err HLT.out hst (by decide)⟩
        clear hst
        go_wp2
        (try simp only [Exit.inBlock, Exit.then]); refine bodyPost_ret (results_list (rs := [.tmp 6, .tmp 7, .tmp 8]) rfl (by simp) (.tmp (.tmp (.tmp .nil)))) rfl ?_
        rw [HRE.out]
        exact ⟨rfl, HFX.out⟩
      · have hst : stepJ old size out (F, C, xs) = (80, []) := by
          unfold stepJ; rw [if_pos (.inr (.inr ⟨h3, fun e => by rw [show xs = [] from e] at h4; simp at h4⟩))]
        have HRE : Aside0 (R = ([], 80, i)) := ⟨by rw [← HJ.out]; exact joinL_err HLT.out hst (by decide)⟩
        clear hst
        have hemp : xs.isEmpty = false := by cases xs with
          | nil => simp at h4
          | cons => rfl
        go_wp2
        (try simp only [Exit.inBlock, Exit.then]); refine bodyPost_ret (results_list (rs := [.tmp 6, .tmp 7, .tmp 8]) rfl (by simp) (.tmp (.tmp (.tmp .nil)))) rfl ?_
        rw [HRE.out]
        exact ⟨rfl, HFX.out⟩
      · have hst : stepJ old size out (F, C, xs) = (1, []) := by
          have hx0 : xs = [] := List.length_eq_zero_iff.1 (by omega)
          unfold stepJ; rw [if_neg (by simp only [hx0]; simp <;> omega)]; rw [if_pos h3, HBN.out, if_pos (.inl h5)]
        have HRE : Aside0 (R = ([], 1, i)) := ⟨by rw [← HJ.out]; exact joinL_err HLT.out hst (by decide)⟩
        clear hst
        have hemp : xs.isEmpty = true := by rw [List.length_eq_zero_iff.1 h4]; rfl
        go_wp2
        (try simp only [Exit.inBlock, Exit.then]); refine bodyPost_ret (results_list (rs := [.tmp 6, .tmp 7, .tmp 8]) rfl (by simp) (.tmp (.tmp (.tmp .nil)))) rfl ?_
        rw [HRE.out]
        exact ⟨rfl, HFX.out⟩
      · have hst : stepJ old size out (F, C, xs) = (1, []) := by
          have hx0 : xs = [] := List.length_eq_zero_iff.1 (by omega)
          unfold stepJ; rw [if_neg (by simp only [hx0]; simp <;> omega)]; rw [if_pos h3, HBN.out, if_pos (.inr h6)]
        have HRE : Aside0 (R = ([], 1, i)) := ⟨by rw [← HJ.out]; exact joinL_err HLT.out hst (by decide)⟩
        clear hst
        have hemp : xs.isEmpty = true := by rw [List.length_eq_zero_iff.1 h4]; rfl
        go_wp2
        (try simp only [Exit.inBlock, Exit.then]); refine bodyPost_ret (results_list (rs := [.tmp 6, .tmp 7, .tmp 8]) rfl (by simp) (.tmp (.tmp (.tmp .nil)))) rfl ?_
        rw [HRE.out]
        exact ⟨rfl, HFX.out⟩
      · have hx0 : xs = [] := List.length_eq_zero_iff.1 (by omega)
        subst hx0
        obtain ⟨s, f, cn, m1, m3, k, rfl, rfl, rfl, g1, g2, g3, g4, g5, g6, g7, g8, g9, g10, g11, g12⟩ := blk_facts (n := old.length) (size := size) (F := F) (C := C) (by omega) h3 (by rw [HBN.out]; omega) (by rw [HBN.out]; omega) hol hsz
        have hst0 : stepJ old s out ((f : Int), (cn : Int), []) = if 65536 < out.length + k then (2, []) else (0, out ++ (old.drop m1).take k) := by
          unfold stepJ
          simp only
          rw [if_neg (by simp <;> omega), if_pos h3, HBN.out, if_neg (by omega), g12 old rfl, List.length_take, List.length_drop, Nat.min_eq_left (by omega)]
        have hblk := g12 old rfl
        have hbl2 : blkB old s f cn = (old.drop (f * s)).take (cn * s) := by
          unfold blkB
          rw [show (f : Int) * (s : Int) = ((f * s : Nat) : Int) from (Int.natCast_mul f s).symm, show (cn : Int) * (s : Int) = ((cn * s : Nat) : Int) from (Int.natCast_mul cn s).symm, Int.toNat_natCast, Int.toNat_natCast]
        have hbl3 : (old.drop m1).take k = (old.drop (f * s)).take (cn * s) := by rw [← hblk, hbl2]
        have hpl : ((old.drop (f * s)).take (cn * s)).length = k := by rw [← hbl3, List.length_take, List.length_drop]; omega
        have hle : ∀ j, ((old.drop (f * s)).take (j * s)).length ≤ 100000 := fun j => by rw [List.length_take, List.length_drop]; omega
        have hsp := fun j => (cnt_spec old.length s (by omega) j).1
        have hin : ∀ j, j < cn → (f + j) * s < old.length := fun j hj => hsp (f + j) (by omega)
        rw [hbl3] at hst0
        have w4' : IntKind.i64.wrap (bn - (f : Int)) = bn - (f : Int) := by rw [i64_left]; exact wrap64_in _ (by have h8 := HBN.out; rw [countI_nat _ _ (by omega)] at h8; have := cnt_le old.length s (by omega); omega)
        have hc5 : cn ≤ 100000 := by have := cnt_le old.length s (by omega); omega
        have hf5 : f ≤ 100000 := by have := cnt_le old.length s (by omega); omega
        have HST := Aside0.mk hst0; have HPL := Aside0.mk hpl; have HLE := Aside0.mk hle; have HIN := Aside0.mk hin
        have hs0 : s ≤ 9223372036854775807 := by omega
        clear hst0 hpl hle hin hsp hbl2 hbl3 hblk g12 g5 g6 g4 g2 g3 g10 g8 g9 g7
        go_wp2_with fail
        rename World => wo
        go_loop [13, 14] (fun v13 v14 => ∃ j : Nat, v14 = .int .i64 (j : Int) ∧ j ≤ cn ∧ v13 = .string (bstr ((old.drop (f * s)).take (j * s)))) (fun _ v14 => cn - (intOf v14).toNat)
        case atStart => exact ⟨0, rfl, Nat.zero_le _, by rw [Nat.zero_mul, List.take_zero]⟩
        case round =>
          obtain ⟨j, rfl, hj, rfl⟩ := hrel
          have hal := HLE.out j
          have HM := Aside0.mk (piece_more old s f j)
          have HEND : Aside0 (j = cn → (old.drop (f * s)).take (j * s) = (old.drop (f * s)).take (cn * s)) := ⟨fun e => by rw [e]⟩
          obtain ⟨aj, haj⟩ : ∃ aj, (old.drop (f * s)).take (j * s) = aj := ⟨_, rfl⟩
          rw [haj] at hal HM HEND ⊢
          clear haj
          have hasz : (bstr aj).size = aj.length := bstr_size aj
          by_cases hjc : j < cn
          · have hjI : (j : Int) < (cn : Int) := by omega
            have hpc := piece_calls old s (f + j) wo (by omega) hs0 (HIN.out j hjc)
            have hpl := piece_length s old (f + j)
            have hpl2 : (piece s old (f + j)).length ≤ 100000 := by omega
            obtain ⟨pj, hpj⟩ : ∃ pj, piece s old (f + j) = pj := ⟨_, rfl⟩
            rw [hpj] at hpc HM hpl2
            rw [show ((f + j : Nat) : Int) = (f : Int) + (j : Int) from rfl] at hpc
            clear hpl hpj
            go_wp2_with fail
            refine hpc.mono ?_
            rintro e w5 ⟨rfl, hw5⟩
            subst hw5
            have hpsz : (bstr pj).size = pj.length := bstr_size pj
            clear hpc
            go_wp2
            go_round
            case rel => exact ⟨j + 1, by go_num, by omega, by rw [← HM.out]⟩
            case measure => simp [intOf]; omega
          · have hjI : ¬ (j : Int) < (cn : Int) := by omega
            have hjc2 : j = cn := by omega
            have HAJ := Aside0.mk (HEND.out hjc2)
            have halk : aj.length = k := by rw [HAJ.out]; exact HPL.out
            clear hjc2
            by_cases hlong : 65536 < out.length + k
            · have HRE : Aside0 (R = ([], 2, i)) := ⟨by rw [← HJ.out]; exact joinL_err HLT.out (by rw [HST.out, if_pos hlong]) (by decide)⟩
              have hlI : (65536 : Int) < (out.length : Int) + (k : Int) := by omega
              clear hlong
              go_wp2
              (try simp only [Exit.inBlock, Exit.then]); refine bodyPost_ret (results_list (rs := [.tmp 6, .tmp 7, .tmp 8]) rfl (by simp) (.tmp (.tmp (.tmp .nil)))) rfl ?_
              rw [HRE.out]
              exact ⟨rfl, HFX.out⟩
            · have HRE : Aside0 (joinL old s (i + 1) (out ++ aj) (L.drop (i + 1)) = R) := ⟨by rw [← HJ.out, HAJ.out]; exact (joinL_ok HLT.out (by rw [HST.out, if_neg hlong])).symm⟩
              have hlI : ¬ (65536 : Int) < (out.length : Int) + (k : Int) := by omega
              go_wp2
              go_roundw
              case rel => exact ⟨i + 1, out ++ aj, by go_num, rfl, by omega, by rw [List.length_append]; omega, HFX, HRE⟩
              case measure => simp [intOf]; omega
      · have hC0 : C = 0 := by omega
        subst hC0
        have hst0 : stepJ old size out (F, 0, xs) = if 65536 < out.length + xs.length then (2, []) else (0, out ++ xs) := by
          unfold stepJ
          simp only
          rw [if_neg (by omega), if_neg (by omega)]
        by_cases hlong : 65536 < out.length + xs.length
        · have HRE : Aside0 (R = ([], 2, i)) := ⟨by rw [← HJ.out]; exact joinL_err HLT.out (by rw [hst0, if_pos hlong]) (by decide)⟩
          have hlI : (65536 : Int) < (out.length : Int) + (xs.length : Int) := by omega
          clear hst0 hlong
          go_wp2
          (try simp only [Exit.inBlock, Exit.then]); refine bodyPost_ret (results_list (rs := [.tmp 6, .tmp 7, .tmp 8]) rfl (by simp) (.tmp (.tmp (.tmp .nil)))) rfl ?_
          rw [HRE.out]
          exact ⟨rfl, HFX.out⟩
        · have HRE : Aside0 (joinL old size (i + 1) (out ++ xs) (L.drop (i + 1)) = R) := ⟨by rw [← HJ.out]; exact (joinL_ok HLT.out (by rw [hst0, if_neg hlong])).symm⟩
          have hlI : ¬ (65536 : Int) < (out.length : Int) + (xs.length : Int) := by omega
          clear hst0
          go_wp2
          go_roundw
          case rel => exact ⟨i + 1, out ++ xs, by go_num, rfl, by omega, by rw [List.length_append]; omega, HFX, HRE⟩
          case measure => simp [intOf]; omega
    · have hiI : ¬ (i : Int) < (L.length : Int) := by omega
      have hil2 : i = L.length := by omega
      have HRE : Aside0 (R = (out, 0, 0)) := ⟨by rw [← HJ.out, hil2]; exact joinL_end⟩
      go_wp2
      (try simp only [Exit.inBlock, Exit.then]); refine bodyPost_ret (results_list (rs := [.tmp 6, .tmp 7, .tmp 8]) rfl (by simp) (.tmp (.tmp (.tmp .nil)))) rfl ?_
      rw [HRE.out]
      exact ⟨rfl, HF.out⟩
end Go.Proofs.YtnfneokmiopieaaDoor.Pat
namespace Go.Proofs.YtnfneokmiopieaaDoor.Tk
open Go.RowKit Go.IntWalk Go.Proofs.YtnfneokmiopieaaDoorW.PrintWords Go.Proofs.YtnfneokmiopieaaDoor.B Go.Proofs.YtnfneokmiopieaaDoor.PB Go.Proofs.YtnfneokmiopieaaDoor.STell

set_option maxHeartbeats 4000000 in
set_option maxRecDepth 100000 in
theorem plain8_calls (v : Value) (fs : List TV) (w : World) (hv : Rd fT w v fs) (hes : ∀ e ∈ fs, RdB w e.dv e.xs) (hn : fs.length ≤ 1000000) : Calls Tryd.prog 12 #[v] w fun e w' =>
    ∃ v', e = .returned v' ∧ Ow fD 66 w' v' (fs.map TV.tok) ∧ Fr No w w' := by
  obtain ⟨A, c, rfl, hlc, hcm, hcell⟩ := id hv
  have HES := Aside0.mk hes; have HC := Aside0.mk hcell
  clear hv hes hcell
  go_enter Tryd.func12, Tryd.ntmps12
  go_wp2
  go_loopw [3, 8] (fun v3 v8 wr => ∃ j : Nat, v8 = .int .i64 (j : Int) ∧ j ≤ fs.length ∧ Aside0 (Ow fD 66 wr v3 ((fs.take j).map TV.tok)) ∧ Aside0 (Fr No w wr) ∧ Aside0 (∀ q, v3.ownBlock = some q → w.heap.size ≤ q)) (fun _ v8 _ => fs.length - (intOf v8).toNat)
  case atStart => exact ⟨0, rfl, Nat.zero_le _, ⟨Ow.nil _ _ _⟩, ⟨Fr.refl _ _⟩, ⟨fun q hq => by cases hq⟩⟩
  case round =>
    obtain ⟨j, rfl, hj, HO, HF, HN⟩ := hrel
    by_cases hjl : j < fs.length
    · have hjI : (j : Int) < (fs.length : Int) := by omega
      obtain ⟨ad, rfl, hc⟩ := HC.out (by omega)
      obtain ⟨e, he⟩ : ∃ e, fs[j]? = some e := ⟨_, List.getElem?_eq_getElem hjl⟩
      have hcj : ∀ i u, (fT.enc e)[i]? = some u → wr.cell? ((ad.add (j * 3)).add i) = some u := fun i u hu => by
        rw [add_add]
        refine HF.out.cell (hc _ _ ?_) id
        have hi : i < 3 := (List.getElem?_eq_some_iff.1 hu).1
        have := fT.cells_get fs j e he i hi
        rw [show j * fT.sz + i = j * 3 + i from rfl] at this
        rw [this, hu]
      have k0 : wr.cell? (ad.add (j * 3)) = some (.int .i64 e.f) := hcj 0 _ rfl
      have k1 : wr.cell? { block := (ad.add (j * 3)).block, off := (ad.add (j * 3)).off + 1 } = some (.int .i64 e.c) := hcj 1 _ rfl
      have k2 : wr.cell? { block := (ad.add (j * 3)).block, off := (ad.add (j * 3)).off + 2 } = some (.slice e.A e.xs.length e.cp) := hcj 2 _ rfl
      have RB := (HES.out e (List.mem_of_getElem? he)).no HF.out
      have HTK : Aside0 ((fs.take (j + 1)).map TV.tok = (fs.take j).map TV.tok ++ [e.tok]) := ⟨by rw [List.take_add_one, he]; simp⟩
      have hll : ((fs.take j).map TV.tok).length = j := by rw [List.length_map, List.length_take]; omega
      have HLL := Aside0.mk hll
      have HRB := Aside0.mk RB
      clear hcj hc hll RB
      go_upto_region 5 with fail
      have XB := heap_alloc_new wr (.cells #[.int .i64 e.f, .int .i64 e.c, .slice e.A e.xs.length e.cp] 52)
      have FX : Aside0 (Fr No wr (wr.alloc (.cells #[.int .i64 e.f, .int .i64 e.c, .slice e.A e.xs.length e.cp] 52))) := ⟨(Fr.refl _ _).alloc _⟩
      change Code.wp _ _ _ _ (wr.alloc (.cells #[.int .i64 e.f, .int .i64 e.c, .slice e.A e.xs.length e.cp] 52))
      generalize wr.alloc (.cells #[.int .i64 e.f, .int .i64 e.c, .slice e.A e.xs.length e.cp] 52) = wx at XB FX ⊢
      have c0 : wx.cell? ⟨wr.heap.size, 0, Option.none⟩ = some (.int .i64 e.f) := by rw [blk_cell XB]; rfl
      have c1 : wx.cell? ⟨wr.heap.size, 1, Option.none⟩ = some (.int .i64 e.c) := by rw [blk_cell XB]; rfl
      have c2 : wx.cell? ⟨wr.heap.size, 2, Option.none⟩ = some (.slice e.A e.xs.length e.cp) := by rw [blk_cell XB]; rfl
      have q1 : (convert 22 9 (.slice e.A e.xs.length e.cp)).run Tryd.prog wx = .ok (.string (bstr e.xs)) wx := str_of_rd (HRB.out.no FX.out)
      clear XB k0 k1 k2
      go_wp2_with (at_builtin; go_loud (refine ap1 (f := fD) rfl (.tmp 12) (.tmp 21) 32 66 (.agg #[.int .i64 0, .int .i64 0, .string ⟨#[]⟩]) 32 rfl Tryd.underlying32 infoD rfl (by decide) (by decide) u3 ((fs.take j).map TV.tok) e.tok [.int .i64 e.f, .int .i64 e.c, .string (bstr e.xs)] rfl rfl rfl (HO.out.no FX.out) ?c3 ?_; (case c3 => (rw [HLL.out]; omega)); intro v5 w5 h1 h2 h3 h4; have H1 := Aside0.mk h1; have H2 := Aside0.mk h2; have H3 := Aside0.mk h3; clear h1 h2 h3 h4))
      go_roundw
      case rel =>
        have hsz := HF.out.size
        have F4 : Fr (blk u3) wr w5 := (FX.out.mono (fun _ _ h => h.elim)).trans H2.out (fun _ _ h => h)
        refine ⟨j + 1, by go_num, by omega, ⟨by rw [HTK.out]; exact H1.out⟩, ⟨HF.out.trans F4 (fun q hq hb => absurd (HN.out q hb) (by omega))⟩, ⟨fun q hq => ?_⟩⟩
        rcases H3.out with h9 | ⟨q', h9, h10⟩
        · exact HN.out q (h9 ▸ hq)
        · rw [hq] at h9; injection h9 with h9; have := FX.out.size; omega
      case measure => simp [intOf]; omega
    · have hjI : ¬ (j : Int) < (fs.length : Int) := by omega
      have HT : Aside0 (Ow fD 66 wr u3 (fs.map TV.tok)) := ⟨by have := HO.out; rw [List.take_of_length_le (by omega)] at this; exact this⟩
      go_wp2
      go_ret
      exact ⟨_, rfl, HT.out, HF.out⟩

end Go.Proofs.YtnfneokmiopieaaDoor.Tk
