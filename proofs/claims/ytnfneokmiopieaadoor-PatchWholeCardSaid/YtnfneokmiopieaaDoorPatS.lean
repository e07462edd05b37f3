/- patch.Join: walked. The document's Join: walked. The statements' plain of tokens (chapter 08): walked. patch.Told: as cells; Apply, Tell: walked. patch.Tell: walked. patch.Send, the statements' head of chapter 08: walked. The statements' head of chapter 08: walked. -/
import Derived.Test.YtnfneokmiopieaaDoorTk
import Derived.Test.YtnfneokmiopieaaDoorSpecJoin
import Derived.Test.YtnfneokmiopieaaDoorBlkB
import Derived.Test.YtnfneokmiopieaaDoorCutR
import Derived.Test.YtnfneokmiopieaaDoorRegion
import Derived.Test.YtnfneokmiopieaaDoorBlkC
import Derived.Test.YtnfneokmiopieaaDoorShaC
import Derived.Test.YtnfneokmiopieaaDoorDelM
import Derived.Test.YtnfneokmiopieaaDoorSums6
import Derived.Test.YtnfneokmiopieaaDoorDelH
import Derived.Test.YtnfneokmiopieaaDoorSpecJ2
import Derived.Lib.SlBytesConst
set_option linter.unusedVariables false
set_option linter.unusedSimpArgs false
namespace Go.Proofs.YtnfneokmiopieaaDoor.Pat
open Go.RowKit Go.IntWalk Go.Proofs.YtnfneokmiopieaaDoorW.PrintWords Go.Proofs.YtnfneokmiopieaaDoor.B Go.Proofs.YtnfneokmiopieaaDoor.PB Go.Proofs.YtnfneokmiopieaaDoor.STell Go.Proofs.YtnfneokmiopieaaDoor.SJoin Go.Proofs.YtnfneokmiopieaaDoor.Tk Go.Proofs.YtnfneokmiopieaaDoor.Blk Go.Proofs.YtnfneokmiopieaaDoor.SBlk
attribute [local go_sem] B.max2_int B.min2_int B.max_two B.min_two

set_option maxHeartbeats 8000000 in
set_option maxRecDepth 100000 in
theorem join_calls (vo vl : Value) (old : List UInt8) (size : Int) (fs : List TV) (w : World) (ho : RdB w vo old) (hv : Rd fT w vl fs) (hes : ∀ e ∈ fs, RdB w e.dv e.xs) (hol : old.length ≤ 100000) (hn : fs.length ≤ 1000000) (hsz : size ≤ 9223372036854775807) (hxs : ∀ e ∈ fs, e.xs.length ≤ 100000000) (hF : ∀ e ∈ fs, e.c ≤ 9223372036854775807) :
    Calls Tryd.prog 10 #[vo, .int .i64 size, vl] w fun e w' => ∃ v ev, e = .returned (.tuple #[v, ev]) ∧ On w w' v (joinR old size (fs.map TV.tok)).1 ∧ IsErr w' ev (errJ (joinR old size (fs.map TV.tok))) ∧ (ev = .nilIface → (joinR old size (fs.map TV.tok)).2.1 = 0) := by
  obtain ⟨A0, c0, rfl, hoc, _⟩ := id ho
  obtain ⟨A, c, rfl, hlc, hcm, _⟩ := id hv
  obtain ⟨R, hR⟩ : ∃ R, joinR old size (fs.map TV.tok) = R := ⟨_, rfl⟩
  rw [hR]
  obtain ⟨bn, hbn⟩ : ∃ bn, countI old.length size = bn := ⟨_, rfl⟩
  have HO := Aside0.mk ho; have HV := Aside0.mk hv; have HES := Aside0.mk hes; have HXS := Aside0.mk hxs; have HR := Aside0.mk hR; have HBN := Aside0.mk hbn; have HFF := Aside0.mk hF
  clear ho hv hes hxs hR hbn hcm hF
  go_enter Tryd.func10, Tryd.ntmps10
  go_wp2_with fail
  refine (count_calls old.length size w (by omega) hsz).mono ?_
  rintro e w0 ⟨rfl, hw⟩
  subst hw
  rw [HBN.out]
  go_wp2_with fail
  go_loopw [8, 19] (fun v8 v19 wr => ∃ (i : Nat) (out : List UInt8), v19 = .int .i64 (i : Int) ∧ i ≤ fs.length ∧ out.length ≤ 65536 ∧ Aside0 (On w wr v8 out) ∧ Aside0 (joinL old size i out ((fs.map TV.tok).drop i) = R)) (fun _ v19 _ => fs.length - (intOf v19).toNat)
  case atStart => exact ⟨0, [], rfl, Nat.zero_le _, Nat.zero_le _, ⟨On.nil (Fr.refl _ _)⟩, ⟨HR.out⟩⟩
  case round =>
    obtain ⟨i, out, rfl, hi, hout, HN, HJ⟩ := hrel
    obtain ⟨Au, cu, hu⟩ := HN.out.own.form
    subst hu
    by_cases hil : i < fs.length
    · have hiI : (i : Int) < (fs.length : Int) := by omega
      obtain ⟨e, he⟩ : ∃ e, fs[i]? = some e := ⟨_, List.getElem?_eq_getElem hil⟩
      have hem := List.mem_of_getElem? he
      have HRB := Aside0.mk (HES.out e hem)
      have hxl := HXS.out e hem
      have hcc := HFF.out e hem
      have hLt : (fs.map TV.tok)[i]? = some e.tok := by rw [List.getElem?_map, he]; rfl
      obtain ⟨ad, hA, hcv⟩ := rd_elem (HV.out.no HN.out.fr) i e he
      obtain ⟨F, C, Ax, px, xs⟩ := e
      dsimp only [TV.dv, TV.tok] at HRB hxl hLt hcc
      have HLT := Aside0.mk hLt
      obtain rfl := hA
      have k0 : wr.cell? (ad.add (i * 3)) = some (.int .i64 F) := by have := hcv 0 _ rfl; rw [add_add, Nat.add_zero] at this; exact this
      have k1 : wr.cell? { block := (ad.add (i * 3)).block, off := (ad.add (i * 3)).off + 1 } = some (.int .i64 C) := hcv 1 _ rfl
      have k2 : wr.cell? { block := (ad.add (i * 3)).block, off := (ad.add (i * 3)).off + 2 } = some (.slice Ax xs.length px) := hcv 2 _ rfl
      clear hcv he hem hLt
      go_upto_region 6 with fail
      have XB := heap_alloc_new wr (.cells #[.int .i64 F, .int .i64 C, .slice Ax xs.length px] 52)
      have HNX : Aside0 (On w (wr.alloc (.cells #[.int .i64 F, .int .i64 C, .slice Ax xs.length px] 52)) (.slice Au out.length cu) out) := ⟨HN.out.no ((Fr.refl _ _).alloc _)⟩
      change Code.wp _ _ _ _ (wr.alloc (.cells #[.int .i64 F, .int .i64 C, .slice Ax xs.length px] 52))
      generalize wr.alloc (.cells #[.int .i64 F, .int .i64 C, .slice Ax xs.length px] 52) = wx at XB HNX ⊢
      have d0 : wx.cell? ⟨wr.heap.size, 0, Option.none⟩ = some (.int .i64 F) := by rw [blk_cell XB]; rfl
      have d1 : wx.cell? ⟨wr.heap.size, 1, Option.none⟩ = some (.int .i64 C) := by rw [blk_cell XB]; rfl
      have d2 : wx.cell? ⟨wr.heap.size, 2, Option.none⟩ = some (.slice Ax xs.length px) := by rw [blk_cell XB]; rfl
      clear XB k0 k1 k2
      have hcase : C < 0 ∨ (¬ C < 0 ∧ F < 0) ∨ (¬ C < 0 ∧ ¬ F < 0 ∧ 0 < C ∧ (0 : Int) < (xs.length : Int)) ∨ (¬ C < 0 ∧ ¬ F < 0 ∧ 0 < C ∧ ¬ (0 : Int) < (xs.length : Int) ∧ bn ≤ F) ∨ (¬ C < 0 ∧ ¬ F < 0 ∧ 0 < C ∧ ¬ (0 : Int) < (xs.length : Int) ∧ ¬ bn ≤ F ∧ bn - F < C) ∨ (¬ C < 0 ∧ ¬ F < 0 ∧ 0 < C ∧ ¬ (0 : Int) < (xs.length : Int) ∧ ¬ bn ≤ F ∧ ¬ bn - F < C) ∨ (¬ C < 0 ∧ ¬ F < 0 ∧ ¬ 0 < C) := by omega
      rcases hcase with h1 | ⟨h1, h2⟩ | ⟨h1, h2, h3, h4⟩ | ⟨h1, h2, h3, h4, h5⟩ | ⟨h1, h2, h3, h4, h5, h6⟩ | ⟨h1, h2, h3, h4, h5, h6⟩ | ⟨h1, h2, h3⟩
      · have hst : stepJ old size out (F, C, xs) = (80, []) := by
          unfold stepJ; rw [if_pos (.inl h1)]
        have HRE : Aside0 (R = ([], 80, i)) := ⟨by rw [← HJ.out]; exact joinL_err HLT.out hst (by decide)⟩
        clear hst
        go_wp2
        (try simp only [Exit.inBlock, Exit.then]); refine bodyPost_ret (results_list (rs := [.tmp 6, .tmp 7]) rfl (by simp) (.tmp (.tmp .nil))) rfl ?_
        rw [HRE.out]
        refine ⟨_, _, rfl, On.nil (HNX.out.fr.alloc _), ⟨wx.heap.size, rfl, ?_⟩, fun h => by cases h⟩
        first | exact heap_alloc_new wx _ | simpa using heap_alloc_new wx _
      · have hst : stepJ old size out (F, C, xs) = (80, []) := by
          unfold stepJ; rw [if_pos (.inr (.inl h2))]
        have HRE : Aside0 (R = ([], 80, i)) := ⟨by rw [← HJ.out]; exact joinL_err HLT.out hst (by decide)⟩
        clear hst
        go_wp2
        (try simp only [Exit.inBlock, Exit.then]); refine bodyPost_ret (results_list (rs := [.tmp 6, .tmp 7]) rfl (by simp) (.tmp (.tmp .nil))) rfl ?_
        rw [HRE.out]
        refine ⟨_, _, rfl, On.nil (HNX.out.fr.alloc _), ⟨wx.heap.size, rfl, ?_⟩, fun h => by cases h⟩
        first | exact heap_alloc_new wx _ | simpa using heap_alloc_new wx _
      · have hst : stepJ old size out (F, C, xs) = (80, []) := by
          unfold stepJ; rw [if_pos (.inr (.inr ⟨h3, fun e => by rw [show xs = [] from e] at h4; simp at h4⟩))]
        have HRE : Aside0 (R = ([], 80, i)) := ⟨by rw [← HJ.out]; exact joinL_err HLT.out hst (by decide)⟩
        clear hst
        go_wp2
        (try simp only [Exit.inBlock, Exit.then]); refine bodyPost_ret (results_list (rs := [.tmp 6, .tmp 7]) rfl (by simp) (.tmp (.tmp .nil))) rfl ?_
        rw [HRE.out]
        refine ⟨_, _, rfl, On.nil (HNX.out.fr.alloc _), ⟨wx.heap.size, rfl, ?_⟩, fun h => by cases h⟩
        first | exact heap_alloc_new wx _ | simpa using heap_alloc_new wx _
      · have hst : stepJ old size out (F, C, xs) = (1, []) := by
          have hx0 : xs = [] := List.length_eq_zero_iff.1 (by omega)
          unfold stepJ; rw [if_neg (by simp only [hx0]; simp <;> omega)]; rw [if_pos h3, HBN.out, if_pos (.inl h5)]
        have HRE : Aside0 (R = ([], 1, i)) := ⟨by rw [← HJ.out]; exact joinL_err HLT.out hst (by decide)⟩
        clear hst
        go_wp2
        (try simp only [Exit.inBlock, Exit.then]); refine bodyPost_ret (results_list (rs := [.tmp 6, .tmp 7]) rfl (by simp) (.tmp (.tmp .nil))) rfl ?_
        rw [HRE.out]
        refine ⟨_, _, rfl, On.nil (HNX.out.fr.alloc _), ⟨wx.heap.size, rfl, ?_⟩, fun h => by cases h⟩
        first | exact heap_alloc_new wx _ | simpa using heap_alloc_new wx _
      · have hst : stepJ old size out (F, C, xs) = (1, []) := by
          have hx0 : xs = [] := List.length_eq_zero_iff.1 (by omega)
          unfold stepJ; rw [if_neg (by simp only [hx0]; simp <;> omega)]; rw [if_pos h3, HBN.out, if_pos (.inr h6)]
        have HRE : Aside0 (R = ([], 1, i)) := ⟨by rw [← HJ.out]; exact joinL_err HLT.out hst (by decide)⟩
        clear hst
        go_wp2
        (try simp only [Exit.inBlock, Exit.then]); refine bodyPost_ret (results_list (rs := [.tmp 6, .tmp 7]) rfl (by simp) (.tmp (.tmp .nil))) rfl ?_
        rw [HRE.out]
        refine ⟨_, _, rfl, On.nil (HNX.out.fr.alloc _), ⟨wx.heap.size, rfl, ?_⟩, fun h => by cases h⟩
        first | exact heap_alloc_new wx _ | simpa using heap_alloc_new wx _
      · have hx0 : xs = [] := List.length_eq_zero_iff.1 (by omega)
        obtain ⟨s, f, cn, m1, m3, k, rfl, rfl, rfl, g1, g2, g3, g4, g5, g6, g7, g8, g9, g10, g11, g12⟩ := blk_facts (n := old.length) (size := size) (F := F) (C := C) (by omega) h3 (by rw [HBN.out]; omega) (by rw [HBN.out]; omega) hol hsz
        have hst0 : stepJ old s out ((f : Int), (cn : Int), xs) = if 65536 < out.length + k then (2, []) else (0, out ++ (old.drop m1).take k) := by
          unfold stepJ
          simp only
          rw [if_neg (by rw [hx0]; simp <;> omega), if_pos h3, HBN.out, if_neg (by omega), g12 old rfl, List.length_take, List.length_drop, Nat.min_eq_left (by omega)]
        have w1' : IntKind.i64.wrap ((f : Int) * (s : Int)) = (m1 : Int) := by rw [g5, i64_left]; exact wrap64_in _ (by omega)
        have w2' : IntKind.i64.wrap ((f : Int) + (cn : Int)) = (f : Int) + (cn : Int) := by rw [i64_left]; exact wrap64_in _ (by omega)
        have w3' : IntKind.i64.wrap (((f : Int) + (cn : Int)) * (s : Int)) = (m3 : Int) := by rw [g6, i64_left]; exact wrap64_in _ (by omega)
        have w4' : IntKind.i64.wrap (bn - (f : Int)) = bn - (f : Int) := by rw [i64_left]; exact wrap64_in _ (by have h8 := HBN.out; rw [countI_nat _ _ (by omega)] at h8; have := cnt_le old.length s (by omega); omega)
        obtain ⟨A2, hcut, hrd⟩ := cut_bytes A0 old.length c0 m1 k (by omega) hoc
        have HRD := Aside0.mk (hrd old wx (HO.out.no HNX.out.fr))
        have hpl : ((old.drop m1).take k).length = k := by rw [List.length_take, List.length_drop]; omega
        obtain ⟨pc, hpc⟩ : ∃ pc, (old.drop m1).take k = pc := ⟨_, rfl⟩
        rw [hpc] at hst0 HRD hpl
        have HPL := Aside0.mk hpl
        have hx0I : ((xs.length : Nat) : Int) = 0 := by rw [hx0]; rfl
        have hkN : (if old.length < m3 then (old.length : Int) else (m3 : Int)) = (m1 : Int) + (k : Int) := by rw [← g10]; simp only [Int.ofNat_lt]
        clear g10
        by_cases hlong : 65536 < out.length + k
        · have HRE : Aside0 (R = ([], 2, i)) := ⟨by rw [← HJ.out]; exact joinL_err HLT.out (by rw [hst0, if_pos hlong]) (by decide)⟩
          have hlI : (65536 : Int) - (out.length : Int) < (k : Int) := by omega
          clear hst0 hrd hpc hpl g5 g6 g12 g4 g2 g3 hx0 hlong
          go_wp2
          (try simp only [Exit.inBlock, Exit.then]); refine bodyPost_ret (results_list (rs := [.tmp 6, .tmp 7]) rfl (by simp) (.tmp (.tmp .nil))) rfl ?_
          rw [HRE.out]
          refine ⟨_, _, rfl, On.nil (HNX.out.fr.alloc _), ⟨wx.heap.size, rfl, ?_⟩, fun h => by cases h⟩
          first | exact heap_alloc_new wx _ | simpa using heap_alloc_new wx _
        · have HRE : Aside0 (joinL old s (i + 1) (out ++ pc) ((fs.map TV.tok).drop (i + 1)) = R) := ⟨by rw [← HJ.out]; exact (joinL_ok HLT.out (by rw [hst0, if_neg hlong])).symm⟩
          have hlI : ¬ (65536 : Int) - (out.length : Int) < (k : Int) := by omega
          have hps : pc.length = k := HPL.out
          clear hst0 hrd hpc hpl g5 g6 g12 g4 g2 g3 hx0 hlong
          go_wp2_with (at_builtin; refine apBs (.slice Au out.length cu) out (.slice A2 k (c0 - m1)) pc rfl (.tmp 93) (.tmp 94) rfl rfl rfl HNX.out.own HRD.out (by omega) ?_; intro v5 w5 i1 i2 i3 i4; have N5 : Aside0 (On w w5 v5 (out ++ pc)) := ⟨HNX.out.step i1 i2 i3⟩; clear i1 i2 i3 i4)
          go_roundw
          case rel => exact ⟨i + 1, out ++ pc, by go_num, by omega, by rw [List.length_append, HPL.out]; omega, N5, HRE⟩
          case measure => simp [intOf]; omega
      · have hC0 : C = 0 := by omega
        subst hC0
        have hst0 : stepJ old size out (F, 0, xs) = if 65536 < out.length + xs.length then (2, []) else (0, out ++ xs) := by
          unfold stepJ
          simp only
          rw [if_neg (by omega), if_neg (by omega)]
        have HXB := Aside0.mk (HRB.out.no HNX.out.fr)
        by_cases hlong : 65536 < out.length + xs.length
        · have HRE : Aside0 (R = ([], 2, i)) := ⟨by rw [← HJ.out]; exact joinL_err HLT.out (by rw [hst0, if_pos hlong]) (by decide)⟩
          have hlI : (65536 : Int) - (out.length : Int) < (xs.length : Int) := by omega
          clear hst0 hlong
          go_wp2
          (try simp only [Exit.inBlock, Exit.then]); refine bodyPost_ret (results_list (rs := [.tmp 6, .tmp 7]) rfl (by simp) (.tmp (.tmp .nil))) rfl ?_
          rw [HRE.out]
          refine ⟨_, _, rfl, On.nil (HNX.out.fr.alloc _), ⟨wx.heap.size, rfl, ?_⟩, fun h => by cases h⟩
          first | exact heap_alloc_new wx _ | simpa using heap_alloc_new wx _
        · have HRE : Aside0 (joinL old size (i + 1) (out ++ xs) ((fs.map TV.tok).drop (i + 1)) = R) := ⟨by rw [← HJ.out]; exact (joinL_ok HLT.out (by rw [hst0, if_neg hlong])).symm⟩
          have hlI : ¬ (65536 : Int) - (out.length : Int) < (xs.length : Int) := by omega
          clear hst0
          go_wp2_with (at_builtin; refine apBs (.slice Au out.length cu) out (.slice Ax xs.length px) xs rfl (.tmp 93) (.tmp 94) rfl rfl rfl HNX.out.own HXB.out (by omega) ?_; intro v5 w5 i1 i2 i3 i4; have N5 : Aside0 (On w w5 v5 (out ++ xs)) := ⟨HNX.out.step i1 i2 i3⟩; clear i1 i2 i3 i4)
          go_roundw
          case rel => exact ⟨i + 1, out ++ xs, by go_num, by omega, by rw [List.length_append]; omega, N5, HRE⟩
          case measure => simp [intOf]; omega
    · have hiI : ¬ (i : Int) < (fs.length : Int) := by omega
      have hil2 : i = fs.length := by omega
      have HRE : Aside0 (R = (out, 0, 0)) := ⟨by
        have h9 := joinL_end (old := old) (size := size) (L := fs.map TV.tok) (out := out)
        rw [List.length_map] at h9
        rw [← HJ.out, hil2]
        exact h9⟩
      go_wp2
      (try simp only [Exit.inBlock, Exit.then]); refine bodyPost_ret (results_list (rs := [.tmp 6, .tmp 7]) rfl (by simp) (.tmp (.tmp .nil))) rfl ?_
      rw [HRE.out]
      exact ⟨_, _, rfl, HN.out, rfl, fun _ => rfl⟩
end Go.Proofs.YtnfneokmiopieaaDoor.Pat
namespace Go.Proofs.YtnfneokmiopieaaDoor.Pat
open Go.RowKit Go.IntWalk Go.Proofs.YtnfneokmiopieaaDoorW.PrintWords Go.Proofs.YtnfneokmiopieaaDoor.B Go.Proofs.YtnfneokmiopieaaDoor.PB Go.Proofs.YtnfneokmiopieaaDoor.STell Go.Proofs.YtnfneokmiopieaaDoor.SJoin Go.Proofs.YtnfneokmiopieaaDoor.Tk Go.Proofs.YtnfneokmiopieaaDoor.Blk Go.Proofs.YtnfneokmiopieaaDoor.SBlk

theorem piece_more (d : List UInt8) (s f k : Nat) : (d.drop (f * s)).take (k * s) ++ piece s d (f + k) = (d.drop (f * s)).take ((k + 1) * s) := by
  unfold piece
  rw [Nat.add_mul k 1 s, Nat.one_mul, List.take_add, List.drop_drop, Nat.add_mul]

set_option maxHeartbeats 8000000 in
set_option maxRecDepth 100000 in
theorem rjoin_calls (vl : Value) (old : List UInt8) (size : Int) (L : List Tok) (w : World) (hv : Rd fD w vl L) (hol : old.length ≤ 100000) (hn : L.length ≤ 1000000) (hsz : size ≤ 9223372036854775807) (hxs : ∀ e ∈ L, e.2.2.length ≤ 100000000) (hF : ∀ e ∈ L, e.2.1 ≤ 9223372036854775807) :
    Calls Tryd.prog 11 #[.string (bstr old), .int .i64 size, vl] w fun e w' => e = .returned (.tuple #[.string (bstr (joinR old size L).1), .int .i64 (joinR old size L).2.1, .int .i64 ((joinR old size L).2.2 : Int)]) ∧ Fr No w w' := by
  obtain ⟨A, c, rfl, hlc, hcm, _⟩ := id hv
  have hosz : (bstr old).size = old.length := bstr_size old
  obtain ⟨R, hR⟩ : ∃ R, joinR old size L = R := ⟨_, rfl⟩
  rw [hR]
  obtain ⟨bn, hbn⟩ : ∃ bn, countI old.length size = bn := ⟨_, rfl⟩
  have HV := Aside0.mk hv; have HXS := Aside0.mk hxs; have HR := Aside0.mk hR; have HBN := Aside0.mk hbn; have HFF := Aside0.mk hF
  clear hv hxs hR hbn hcm hF
  go_enter Tryd.func11, Tryd.ntmps11
  go_wp2_with fail
  refine (refCount_calls old.length size w (by omega) hsz).mono ?_
  rintro e w0 ⟨rfl, hw⟩
  subst hw
  rw [HBN.out]
  go_wp2_with fail
  go_loopw [9, 11] (fun v9 v11 wr => ∃ (i : Nat) (out : List UInt8), v11 = .int .i64 (i : Int) ∧ v9 = .string (bstr out) ∧ i ≤ L.length ∧ out.length ≤ 65536 ∧ Aside0 (Fr No w wr) ∧ Aside0 (joinL old size i out (L.drop i) = R)) (fun _ v11 _ => L.length - (intOf v11).toNat)
  case atStart => exact ⟨0, [], rfl, rfl, Nat.zero_le _, Nat.zero_le _, ⟨Fr.refl _ _⟩, ⟨HR.out⟩⟩
  case round =>
    obtain ⟨i, out, rfl, rfl, hi, hout, HF, HJ⟩ := hrel
    have hosz2 : (bstr out).size = out.length := bstr_size out
    by_cases hil : i < L.length
    · have hiI : (i : Int) < (L.length : Int) := by omega
      obtain ⟨e, he⟩ : ∃ e, L[i]? = some e := ⟨_, List.getElem?_eq_getElem hil⟩
      have hem := List.mem_of_getElem? he
      have hxl := HXS.out e hem
      have hcc := HFF.out e hem
      obtain ⟨ad, hA, hcv⟩ := rd_elem (HV.out.no HF.out) i e he
      obtain ⟨F, C, xs⟩ := e
      dsimp only at hxl hcc
      have HLT := Aside0.mk he
      obtain rfl := hA
      have hxsz : (bstr xs).size = xs.length := bstr_size xs
      have k0 : wr.cell? (ad.add (i * 3)) = some (.int .i64 F) := by have := hcv 0 _ rfl; rw [add_add, Nat.add_zero] at this; exact this
      have k1 : wr.cell? { block := (ad.add (i * 3)).block, off := (ad.add (i * 3)).off + 1 } = some (.int .i64 C) := hcv 1 _ rfl
      have k2 : wr.cell? { block := (ad.add (i * 3)).block, off := (ad.add (i * 3)).off + 2 } = some (.string (bstr xs)) := hcv 2 _ rfl
      clear hcv he hem
      go_upto_region 7 with fail
      have XB := heap_alloc_new wr (.cells #[.int .i64 F, .int .i64 C, .string (bstr xs)] 66)
      have HFX : Aside0 (Fr No w (wr.alloc (.cells #[.int .i64 F, .int .i64 C, .string (bstr xs)] 66))) := ⟨HF.out.alloc _⟩
      change Code.wp _ _ _ _ (wr.alloc (.cells #[.int .i64 F, .int .i64 C, .string (bstr xs)] 66))
      generalize wr.alloc (.cells #[.int .i64 F, .int .i64 C, .string (bstr xs)] 66) = wx at XB HFX ⊢
      have d0 : wx.cell? ⟨wr.heap.size, 0, Option.none⟩ = some (.int .i64 F) := by rw [blk_cell XB]; rfl
      have d1 : wx.cell? ⟨wr.heap.size, 1, Option.none⟩ = some (.int .i64 C) := by rw [blk_cell XB]; rfl
      have d2 : wx.cell? ⟨wr.heap.size, 2, Option.none⟩ = some (.string (bstr xs)) := by rw [blk_cell XB]; rfl
      clear XB k0 k1 k2
      have hcase : C < 0 ∨ (¬ C < 0 ∧ F < 0) ∨ (¬ C < 0 ∧ ¬ F < 0 ∧ 0 < C ∧ 0 < xs.length) ∨ (¬ C < 0 ∧ ¬ F < 0 ∧ 0 < C ∧ xs.length = 0 ∧ bn ≤ F) ∨ (¬ C < 0 ∧ ¬ F < 0 ∧ 0 < C ∧ xs.length = 0 ∧ ¬ bn ≤ F ∧ bn - F < C) ∨ (¬ C < 0 ∧ ¬ F < 0 ∧ 0 < C ∧ xs.length = 0 ∧ ¬ bn ≤ F ∧ ¬ bn - F < C) ∨ (¬ C < 0 ∧ ¬ F < 0 ∧ ¬ 0 < C) := by omega
      rcases hcase with h1 | ⟨h1, h2⟩ | ⟨h1, h2, h3, h4⟩ | ⟨h1, h2, h3, h4, h5⟩ | ⟨h1, h2, h3, h4, h5, h6⟩ | ⟨h1, h2, h3, h4, h5, h6⟩ | ⟨h1, h2, h3⟩
      · have hst : stepJ old size out (F, C, xs) = (80, []) := by
          unfold stepJ; rw [if_pos (.inl h1)]
        have HRE : Aside0 (R = ([], 80, i)) := ⟨by rw [← HJ.out]; exact joinL_err HLT.out hst (by decide)⟩
        clear hst
        go_wp2
        (try simp only [Exit.inBlock, Exit.then]); refine bodyPost_ret (results_list (rs := [.tmp 6, .tmp 7, .tmp 8]) rfl (by simp) (.tmp (.tmp (.tmp .nil)))) rfl ?_
        rw [HRE.out]
        exact ⟨rfl, HFX.out⟩
      · have hst : stepJ old size out (F, C, xs) = (80, []) := by
          unfold stepJ; rw [if_pos (.inr (.inl h2))]
        have HRE : Aside0 (R = ([], 80, i)) := ⟨by rw [← HJ.out]; exact joinL_err HLT.out hst (by decide)⟩
        clear hst
        go_wp2
        (try simp only [Exit.inBlock, Exit.then]); refine bodyPost_ret (results_list (rs := [.tmp 6, .tmp 7, .tmp 8]) rfl (by simp) (.tmp (.tmp (.tmp .nil)))) rfl ?_
        rw [HRE.out]
        exact ⟨rfl, HFX.out⟩
      · have hst : stepJ old size out (F, C, xs) = (80, []) := by
          unfold stepJ; rw [if_pos (.inr (.inr ⟨h3, fun e => by rw [show xs = [] from e] at h4; simp at h4⟩))]
        have HRE : Aside0 (R = ([], 80, i)) := ⟨by rw [← HJ.out]; exact joinL_err HLT.out hst (by decide)⟩
        clear hst
        have hemp : xs.isEmpty = false := by cases xs with
          | nil => simp at h4
          | cons => rfl
        go_wp2
        (try simp only [Exit.inBlock, Exit.then]); refine bodyPost_ret (results_list (rs := [.tmp 6, .tmp 7, .tmp 8]) rfl (by simp) (.tmp (.tmp (.tmp .nil)))) rfl ?_
        rw [HRE.out]
        exact ⟨rfl, HFX.out⟩
      · have hst : stepJ old size out (F, C, xs) = (1, []) := by
          have hx0 : xs = [] := List.length_eq_zero_iff.1 (by omega)
          unfold stepJ; rw [if_neg (by simp only [hx0]; simp <;> omega)]; rw [if_pos h3, HBN.out, if_pos (.inl h5)]
        have HRE : Aside0 (R = ([], 1, i)) := ⟨by rw [← HJ.out]; exact joinL_err HLT.out hst (by decide)⟩
        clear hst
        have hemp : xs.isEmpty = true := by rw [List.length_eq_zero_iff.1 h4]; rfl
        go_wp2
        (try simp only [Exit.inBlock, Exit.then]); refine bodyPost_ret (results_list (rs := [.tmp 6, .tmp 7, .tmp 8]) rfl (by simp) (.tmp (.tmp (.tmp .nil)))) rfl ?_
        rw [HRE.out]
        exact ⟨rfl, HFX.out⟩
      · have hst : stepJ old size out (F, C, xs) = (1, []) := by
          have hx0 : xs = [] := List.length_eq_zero_iff.1 (by omega)
          unfold stepJ; rw [if_neg (by simp only [hx0]; simp <;> omega)]; rw [if_pos h3, HBN.out, if_pos (.inr h6)]
        have HRE : Aside0 (R = ([], 1, i)) := ⟨by rw [← HJ.out]; exact joinL_err HLT.out hst (by decide)⟩
        clear hst
        have hemp : xs.isEmpty = true := by rw [List.length_eq_zero_iff.1 h4]; rfl
        go_wp2
        (try simp only [Exit.inBlock, Exit.then]); refine bodyPost_ret (results_list (rs := [.tmp 6, .tmp 7, .tmp 8]) rfl (by simp) (.tmp (.tmp (.tmp .nil)))) rfl ?_
        rw [HRE.out]
        exact ⟨rfl, HFX.out⟩
      · have hx0 : xs = [] := List.length_eq_zero_iff.1 (by omega)
        subst hx0
        obtain ⟨s, f, cn, m1, m3, k, rfl, rfl, rfl, g1, g2, g3, g4, g5, g6, g7, g8, g9, g10, g11, g12⟩ := blk_facts (n := old.length) (size := size) (F := F) (C := C) (by omega) h3 (by rw [HBN.out]; omega) (by rw [HBN.out]; omega) hol hsz
        have hst0 : stepJ old s out ((f : Int), (cn : Int), []) = if 65536 < out.length + k then (2, []) else (0, out ++ (old.drop m1).take k) := by
          unfold stepJ
          simp only
          rw [if_neg (by simp <;> omega), if_pos h3, HBN.out, if_neg (by omega), g12 old rfl, List.length_take, List.length_drop, Nat.min_eq_left (by omega)]
        have hblk := g12 old rfl
        have hbl2 : blkB old s f cn = (old.drop (f * s)).take (cn * s) := by
          unfold blkB
          rw [show (f : Int) * (s : Int) = ((f * s : Nat) : Int) from (Int.natCast_mul f s).symm, show (cn : Int) * (s : Int) = ((cn * s : Nat) : Int) from (Int.natCast_mul cn s).symm, Int.toNat_natCast, Int.toNat_natCast]
        have hbl3 : (old.drop m1).take k = (old.drop (f * s)).take (cn * s) := by rw [← hblk, hbl2]
        have hpl : ((old.drop (f * s)).take (cn * s)).length = k := by rw [← hbl3, List.length_take, List.length_drop]; omega
        have hle : ∀ j, ((old.drop (f * s)).take (j * s)).length ≤ 100000 := fun j => by rw [List.length_take, List.length_drop]; omega
        have hsp := fun j => (cnt_spec old.length s (by omega) j).1
        have hin : ∀ j, j < cn → (f + j) * s < old.length := fun j hj => hsp (f + j) (by omega)
        rw [hbl3] at hst0
        have w4' : IntKind.i64.wrap (bn - (f : Int)) = bn - (f : Int) := by rw [i64_left]; exact wrap64_in _ (by have h8 := HBN.out; rw [countI_nat _ _ (by omega)] at h8; have := cnt_le old.length s (by omega); omega)
        have hc5 : cn ≤ 100000 := by have := cnt_le old.length s (by omega); omega
        have hf5 : f ≤ 100000 := by have := cnt_le old.length s (by omega); omega
        have HST := Aside0.mk hst0; have HPL := Aside0.mk hpl; have HLE := Aside0.mk hle; have HIN := Aside0.mk hin
        have hs0 : s ≤ 9223372036854775807 := by omega
        clear hst0 hpl hle hin hsp hbl2 hbl3 hblk g12 g5 g6 g4 g2 g3 g10 g8 g9 g7
        go_wp2_with fail
        rename World => wo
        go_loop [13, 14] (fun v13 v14 => ∃ j : Nat, v14 = .int .i64 (j : Int) ∧ j ≤ cn ∧ v13 = .string (bstr ((old.drop (f * s)).take (j * s)))) (fun _ v14 => cn - (intOf v14).toNat)
        case atStart => exact ⟨0, rfl, Nat.zero_le _, by rw [Nat.zero_mul, List.take_zero]⟩
        case round =>
          obtain ⟨j, rfl, hj, rfl⟩ := hrel
          have hal := HLE.out j
          have HM := Aside0.mk (piece_more old s f j)
          have HEND : Aside0 (j = cn → (old.drop (f * s)).take (j * s) = (old.drop (f * s)).take (cn * s)) := ⟨fun e => by rw [e]⟩
          obtain ⟨aj, haj⟩ : ∃ aj, (old.drop (f * s)).take (j * s) = aj := ⟨_, rfl⟩
          rw [haj] at hal HM HEND ⊢
          clear haj
          have hasz : (bstr aj).size = aj.length := bstr_size aj
          by_cases hjc : j < cn
          · have hjI : (j : Int) < (cn : Int) := by omega
            have hpc := piece_calls old s (f + j) wo (by omega) hs0 (HIN.out j hjc)
            have hpl := piece_length s old (f + j)
            have hpl2 : (piece s old (f + j)).length ≤ 100000 := by omega
            obtain ⟨pj, hpj⟩ : ∃ pj, piece s old (f + j) = pj := ⟨_, rfl⟩
            rw [hpj] at hpc HM hpl2
            rw [show ((f + j : Nat) : Int) = (f : Int) + (j : Int) from rfl] at hpc
            clear hpl hpj
            go_wp2_with fail
            refine hpc.mono ?_
            rintro e w5 ⟨rfl, hw5⟩
            subst hw5
            have hpsz : (bstr pj).size = pj.length := bstr_size pj
            clear hpc
            go_wp2
            go_round
            case rel => exact ⟨j + 1, by go_num, by omega, by rw [← HM.out]⟩
            case measure => simp [intOf]; omega
          · have hjI : ¬ (j : Int) < (cn : Int) := by omega
            have hjc2 : j = cn := by omega
            have HAJ := Aside0.mk (HEND.out hjc2)
            have halk : aj.length = k := by rw [HAJ.out]; exact HPL.out
            clear hjc2
            by_cases hlong : 65536 < out.length + k
            · have HRE : Aside0 (R = ([], 2, i)) := ⟨by rw [← HJ.out]; exact joinL_err HLT.out (by rw [HST.out, if_pos hlong]) (by decide)⟩
              have hlI : (65536 : Int) < (out.length : Int) + (k : Int) := by omega
              clear hlong
              go_wp2
              (try simp only [Exit.inBlock, Exit.then]); refine bodyPost_ret (results_list (rs := [.tmp 6, .tmp 7, .tmp 8]) rfl (by simp) (.tmp (.tmp (.tmp .nil)))) rfl ?_
              rw [HRE.out]
              exact ⟨rfl, HFX.out⟩
            · have HRE : Aside0 (joinL old s (i + 1) (out ++ aj) (L.drop (i + 1)) = R) := ⟨by rw [← HJ.out, HAJ.out]; exact (joinL_ok HLT.out (by rw [HST.out, if_neg hlong])).symm⟩
              have hlI : ¬ (65536 : Int) < (out.length : Int) + (k : Int) := by omega
              go_wp2
              go_roundw
              case rel => exact ⟨i + 1, out ++ aj, by go_num, rfl, by omega, by rw [List.length_append]; omega, HFX, HRE⟩
              case measure => simp [intOf]; omega
      · have hC0 : C = 0 := by omega
        subst hC0
        have hst0 : stepJ old size out (F, 0, xs) = if 65536 < out.length + xs.length then (2, []) else (0, out ++ xs) := by
          unfold stepJ
          simp only
          rw [if_neg (by omega), if_neg (by omega)]
        by_cases hlong : 65536 < out.length + xs.length
        · have HRE : Aside0 (R = ([], 2, i)) := ⟨by rw [← HJ.out]; exact joinL_err HLT.out (by rw [hst0, if_pos hlong]) (by decide)⟩
          have hlI : (65536 : Int) < (out.length : Int) + (xs.length : Int) := by omega
          clear hst0 hlong
          go_wp2
          (try simp only [Exit.inBlock, Exit.then]); refine bodyPost_ret (results_list (rs := [.tmp 6, .tmp 7, .tmp 8]) rfl (by simp) (.tmp (.tmp (.tmp .nil)))) rfl ?_
          rw [HRE.out]
          exact ⟨rfl, HFX.out⟩
        · have HRE : Aside0 (joinL old size (i + 1) (out ++ xs) (L.drop (i + 1)) = R) := ⟨by rw [← HJ.out]; exact (joinL_ok HLT.out (by rw [hst0, if_neg hlong])).symm⟩
          have hlI : ¬ (65536 : Int) < (out.length : Int) + (xs.length : Int) := by omega
          clear hst0
          go_wp2
          go_roundw
          case rel => exact ⟨i + 1, out ++ xs, by go_num, rfl, by omega, by rw [List.length_append]; omega, HFX, HRE⟩
          case measure => simp [intOf]; omega
    · have hiI : ¬ (i : Int) < (L.length : Int) := by omega
      have hil2 : i = L.length := by omega
      have HRE : Aside0 (R = (out, 0, 0)) := ⟨by rw [← HJ.out, hil2]; exact joinL_end⟩
      go_wp2
      (try simp only [Exit.inBlock, Exit.then]); refine bodyPost_ret (results_list (rs := [.tmp 6, .tmp 7, .tmp 8]) rfl (by simp) (.tmp (.tmp (.tmp .nil)))) rfl ?_
      rw [HRE.out]
      exact ⟨rfl, HF.out⟩
end Go.Proofs.YtnfneokmiopieaaDoor.Pat
namespace Go.Proofs.YtnfneokmiopieaaDoor.Tk
open Go.RowKit Go.IntWalk Go.Proofs.YtnfneokmiopieaaDoorW.PrintWords Go.Proofs.YtnfneokmiopieaaDoor.B Go.Proofs.YtnfneokmiopieaaDoor.PB Go.Proofs.YtnfneokmiopieaaDoor.STell

set_option maxHeartbeats 4000000 in
set_option maxRecDepth 100000 in
theorem plain8_calls (v : Value) (fs : List TV) (w : World) (hv : Rd fT w v fs) (hes : ∀ e ∈ fs, RdB w e.dv e.xs) (hn : fs.length ≤ 1000000) : Calls Tryd.prog 12 #[v] w fun e w' =>
    ∃ v', e = .returned v' ∧ Ow fD 66 w' v' (fs.map TV.tok) ∧ Fr No w w' := by
  obtain ⟨A, c, rfl, hlc, hcm, hcell⟩ := id hv
  have HES := Aside0.mk hes; have HC := Aside0.mk hcell
  clear hv hes hcell
  go_enter Tryd.func12, Tryd.ntmps12
  go_wp2
  go_loopw [3, 8] (fun v3 v8 wr => ∃ j : Nat, v8 = .int .i64 (j : Int) ∧ j ≤ fs.length ∧ Aside0 (Ow fD 66 wr v3 ((fs.take j).map TV.tok)) ∧ Aside0 (Fr No w wr) ∧ Aside0 (∀ q, v3.ownBlock = some q → w.heap.size ≤ q)) (fun _ v8 _ => fs.length - (intOf v8).toNat)
  case atStart => exact ⟨0, rfl, Nat.zero_le _, ⟨Ow.nil _ _ _⟩, ⟨Fr.refl _ _⟩, ⟨fun q hq => by cases hq⟩⟩
  case round =>
    obtain ⟨j, rfl, hj, HO, HF, HN⟩ := hrel
    by_cases hjl : j < fs.length
    · have hjI : (j : Int) < (fs.length : Int) := by omega
      obtain ⟨ad, rfl, hc⟩ := HC.out (by omega)
      obtain ⟨e, he⟩ : ∃ e, fs[j]? = some e := ⟨_, List.getElem?_eq_getElem hjl⟩
      have hcj : ∀ i u, (fT.enc e)[i]? = some u → wr.cell? ((ad.add (j * 3)).add i) = some u := fun i u hu => by
        rw [add_add]
        refine HF.out.cell (hc _ _ ?_) id
        have hi : i < 3 := (List.getElem?_eq_some_iff.1 hu).1
        have := fT.cells_get fs j e he i hi
        rw [show j * fT.sz + i = j * 3 + i from rfl] at this
        rw [this, hu]
      have k0 : wr.cell? (ad.add (j * 3)) = some (.int .i64 e.f) := hcj 0 _ rfl
      have k1 : wr.cell? { block := (ad.add (j * 3)).block, off := (ad.add (j * 3)).off + 1 } = some (.int .i64 e.c) := hcj 1 _ rfl
      have k2 : wr.cell? { block := (ad.add (j * 3)).block, off := (ad.add (j * 3)).off + 2 } = some (.slice e.A e.xs.length e.cp) := hcj 2 _ rfl
      have RB := (HES.out e (List.mem_of_getElem? he)).no HF.out
      have HTK : Aside0 ((fs.take (j + 1)).map TV.tok = (fs.take j).map TV.tok ++ [e.tok]) := ⟨by rw [List.take_add_one, he]; simp⟩
      have hll : ((fs.take j).map TV.tok).length = j := by rw [List.length_map, List.length_take]; omega
      have HLL := Aside0.mk hll
      have HRB := Aside0.mk RB
      clear hcj hc hll RB
      go_upto_region 5 with fail
      have XB := heap_alloc_new wr (.cells #[.int .i64 e.f, .int .i64 e.c, .slice e.A e.xs.length e.cp] 52)
      have FX : Aside0 (Fr No wr (wr.alloc (.cells #[.int .i64 e.f, .int .i64 e.c, .slice e.A e.xs.length e.cp] 52))) := ⟨(Fr.refl _ _).alloc _⟩
      change Code.wp _ _ _ _ (wr.alloc (.cells #[.int .i64 e.f, .int .i64 e.c, .slice e.A e.xs.length e.cp] 52))
      generalize wr.alloc (.cells #[.int .i64 e.f, .int .i64 e.c, .slice e.A e.xs.length e.cp] 52) = wx at XB FX ⊢
      have c0 : wx.cell? ⟨wr.heap.size, 0, Option.none⟩ = some (.int .i64 e.f) := by rw [blk_cell XB]; rfl
      have c1 : wx.cell? ⟨wr.heap.size, 1, Option.none⟩ = some (.int .i64 e.c) := by rw [blk_cell XB]; rfl
      have c2 : wx.cell? ⟨wr.heap.size, 2, Option.none⟩ = some (.slice e.A e.xs.length e.cp) := by rw [blk_cell XB]; rfl
      have q1 : (convert 22 9 (.slice e.A e.xs.length e.cp)).run Tryd.prog wx = .ok (.string (bstr e.xs)) wx := str_of_rd (HRB.out.no FX.out)
      clear XB k0 k1 k2
      go_wp2_with (at_builtin; go_loud (refine ap1 (f := fD) rfl (.tmp 12) (.tmp 21) 32 66 (.agg #[.int .i64 0, .int .i64 0, .string ⟨#[]⟩]) 32 rfl Tryd.underlying32 infoD rfl (by decide) (by decide) u3 ((fs.take j).map TV.tok) e.tok [.int .i64 e.f, .int .i64 e.c, .string (bstr e.xs)] rfl rfl rfl (HO.out.no FX.out) ?c3 ?_; (case c3 => (rw [HLL.out]; omega)); intro v5 w5 h1 h2 h3 h4; have H1 := Aside0.mk h1; have H2 := Aside0.mk h2; have H3 := Aside0.mk h3; clear h1 h2 h3 h4))
      go_roundw
      case rel =>
        have hsz := HF.out.size
        have F4 : Fr (blk u3) wr w5 := (FX.out.mono (fun _ _ h => h.elim)).trans H2.out (fun _ _ h => h)
        refine ⟨j + 1, by go_num, by omega, ⟨by rw [HTK.out]; exact H1.out⟩, ⟨HF.out.trans F4 (fun q hq hb => absurd (HN.out q hb) (by omega))⟩, ⟨fun q hq => ?_⟩⟩
        rcases H3.out with h9 | ⟨q', h9, h10⟩
        · exact HN.out q (h9 ▸ hq)
        · rw [hq] at h9; injection h9 with h9; have := FX.out.size; omega
      case measure => simp [intOf]; omega
    · have hjI : ¬ (j : Int) < (fs.length : Int) := by omega
      have HT : Aside0 (Ow fD 66 wr u3 (fs.map TV.tok)) := ⟨by have := HO.out; rw [List.take_of_length_le (by omega)] at this; exact this⟩
      go_wp2
      go_ret
      exact ⟨_, rfl, HT.out, HF.out⟩

end Go.Proofs.YtnfneokmiopieaaDoor.Tk
namespace Go.Proofs.YtnfneokmiopieaaDoor.Pat
open Go.RowKit Go.IntWalk Go.Proofs.YtnfneokmiopieaaDoorW.PrintWords Go.Proofs.YtnfneokmiopieaaDoor.B Go.Proofs.YtnfneokmiopieaaDoor.PB Go.Proofs.YtnfneokmiopieaaDoor.STell Go.Proofs.YtnfneokmiopieaaDoor.SJoin Go.Proofs.YtnfneokmiopieaaDoor.Tk Go.Proofs.YtnfneokmiopieaaDoor.Blk Go.Proofs.YtnfneokmiopieaaDoor.SBlk Go.Proofs.YtnfneokmiopieaaDoor.Bk Go.Proofs.YtnfneokmiopieaaDoor.L6

/-- A told file's cells. -/
def toL (vl : Value) (ct : Int) (st : List UInt8) : List Value := vl :: .int .i64 ct :: st.map vu8
def toC (vl : Value) (ct : Int) (st : List UInt8) : Array Value := (toL vl ct st).toArray
theorem toC_size {vl : Value} {ct : Int} {st : List UInt8} (h : st.length = 32) : (toC vl ct st).size = 34 := by simp [toC, toL, h]
theorem toC_0 (vl : Value) (ct : Int) (st : List UInt8) : (toC vl ct st)[0]? = some vl := by simp [toC, toL]
theorem toC_1 (vl : Value) (ct : Int) (st : List UInt8) : (toC vl ct st)[1]? = some (.int .i64 ct) := by simp [toC, toL]
theorem toC_one {A : Option Addr} {n c : Nat} {ct : Int} {st : List UInt8} : (toC (.slice A n c) ct st).all (·.oneCell') = true := by
  rw [Array.all_eq_true]
  intro i hi
  have : ∀ u ∈ toL (.slice A n c) ct st, u.oneCell' = true := fun u hu => by
    rcases List.mem_cons.1 hu with rfl | hu
    · rfl
    · rcases List.mem_cons.1 hu with rfl | hu
      · rfl
      · obtain ⟨x, _, rfl⟩ := List.mem_map.1 hu
        rfl
  exact this _ (by simp [toC])
theorem ld_told {w : World} {g : Nat} {t : TypeId} {fz : Nat × Nat} {vl : Value} {ct : Int} {st : List UInt8} (hs : st.length = 32) (h : w.heap[g]? = some (.cells (toC vl ct st) t fz)) : ∀ x, Fr No w x → (loadVar 38 ⟨g, 2, none⟩).run Tryd.prog x = .ok (Arr.av st) x := fun x hx => by
  have hc : Cv x ⟨g, 2, none⟩ (st.map vu8) := by
    have := Cv.of_block (hx.heap h id) 2
    have e : (toC vl ct st).toList.drop 2 = st.map vu8 := by simp [toC, toL]
    rw [e] at this
    exact this
  exact run_loadVar_cells hc Tryd.underlying38 rfl (by rw [List.length_map, hs]; kernel_rfl)
section
variable {P : Program}
theorem fill_three {pl : Nat → Option (Nat × Nat)} {cells : Array Value} {a b : Value} {v : Array Value} {n : Nat} (h0 : pl 0 = some (0, 1)) (h1 : pl 1 = some (1, 1)) (h2 : pl 2 = some (2, n)) (ha : a.cells = #[a]) (hb : b.cells = #[b]) (hv : v.size = n) (hc : cells.size = n + 2) :
    Instr.fill pl cells [(0, a), (1, b), (2, .agg v)] = some (#[a, b] ++ v) := by
  unfold Instr.fill
  simp only [h0, ha]
  have e0 : ∀ x : Value, (#[x] : Array Value).size = 1 := fun _ => rfl
  rw [if_neg (by rw [e0, hc]; simp)]
  have e1 : (Array.foldl (fun cs (x : Value × Nat) => cs.setIfInBounds (0 + x.2) x.1) cells (#[a] : Array Value).zipIdx) = cells.setIfInBounds 0 a := rfl
  rw [e1]
  unfold Instr.fill
  simp only [h1, hb]
  rw [if_neg (by rw [e0]; simp [hc]; try omega)]
  have e2 : ∀ cs0 : Array Value, (Array.foldl (fun cs (x : Value × Nat) => cs.setIfInBounds (1 + x.2) x.1) cs0 (#[b] : Array Value).zipIdx) = cs0.setIfInBounds 1 b := fun _ => rfl
  rw [e2]
  unfold Instr.fill
  simp only [h2, Value.cells, hv]
  rw [if_neg (by simp [hc]; try omega)]
  unfold Instr.fill
  congr 1
  have g := Great.foldl_set 2 v.toList 0 ((cells.setIfInBounds 0 a).setIfInBounds 1 b)
  apply Array.ext'
  apply List.ext_getElem?
  intro k
  have hk := g.2 k
  rw [← Array.foldl_toList, Array.toList_zipIdx]
  simp only [List.getElem?_toArray, Array.getElem?_toList] at hk ⊢
  rw [hk]
  by_cases hk0 : k = 0
  · subst hk0
    rw [if_neg (by omega), Array.getElem?_append_left (by simp)]
    simp [hc]
  · by_cases hk1 : k = 1
    · subst hk1
      rw [if_neg (by omega), Array.getElem?_append_left (by simp)]
      simp [hc]
    · by_cases hkn : k < n + 2
      · rw [if_pos (by simp [hv, hc]; omega), Array.getElem?_append_right (by simp; omega)]
        simp
      · rw [if_neg (by simp [hv]; omega), Array.getElem?_append_right (by simp; omega), Array.getElem?_eq_none (by simp [hc]; omega), Array.getElem?_eq_none (by simp [hv]; omega)]
theorem run_build3 {t : TypeId} {fs : Array Field} {n : Nat} (hu : P.underlying t = some (.struct fs)) (hz : ((P.info? t).bind (·.zero)).map (·.cells.size) = some (n + 2)) (hp : fs.toList.mapM (fun f => (P.info? f.type).map fun i => (f.offset, i.size)) = some [(0, 1), (1, 1), (2, n)])
    (a b : Value) (ha : a.cells = #[a]) (hb : b.cells = #[b]) (v : Array Value) (hv : v.size = n) (W : World) : (Instr.build t #[(0, a), (1, b), (2, .agg v)]).run P W = .ok (.agg (#[a, b] ++ v)) W := by
  refine run_build W t _ _ ?_
  unfold Program.built
  cases hit : P.info? t with
  | none => simp [hit] at hz
  | some it =>
    cases hzz : it.zero with
    | none => simp [hit, hzz] at hz
    | some z =>
      simp only [hit, hzz, Option.bind_some, Option.map_some, Option.some.injEq] at hz
      simp only [hu, hzz, hp]
      exact fill_three rfl rfl rfl ha hb hv hz
end
set_option maxRecDepth 100000 in
theorem buildT {A : Option Addr} {n c : Nat} (ct : Int) {st : List UInt8} (hs : st.length = 32) (W : World) : (Instr.build 40 #[(0, .slice A n c), (1, .int .i64 ct), (2, Arr.av st)]).run Tryd.prog W = .ok (.agg (toC (.slice A n c) ct st)) W := by
  have := run_build3 (P := Tryd.prog) (t := 40) (n := 32) Tryd.underlying40 (by kernel_rfl) (by kernel_rfl) (.slice A n c) (.int .i64 ct) rfl rfl (st.map vu8).toArray (by simp [hs]) W
  unfold Arr.av
  rw [this]
  congr 2
  simp [toC, toL]

theorem joinL_len {old : List UInt8} {size : Int} : ∀ (L : List Tok) (i : Nat) (out : List UInt8), out.length ≤ 65536 → (joinL old size i out L).1.length ≤ 65536
  | [], _, out, h => h
  | t :: L, i, out, h => by
    rw [joinL]
    split
    · refine joinL_len L _ _ ?_
      unfold stepJ
      split
      · exact Nat.zero_le _
      · split
        · split
          · exact Nat.zero_le _
          · split
            · exact Nat.zero_le _
            · rw [List.length_append]; omega
        · split
          · exact Nat.zero_le _
          · rw [List.length_append]; omega
    · exact Nat.zero_le _
/-- What is made of a file that is told. -/
def applyR (old : List UInt8) (size : Int) (L : List Tok) (ct : Int) (st : List UInt8) : List UInt8 × Option (Nat × Nat) :=
  if (joinR old size L).2.1 ≠ 0 then ([], errJ (joinR old size L)) else if Sha.cut ct (joinR old size L).1 = st then ((joinR old size L).1, none) else ([], some (L.length, 81))

set_option maxHeartbeats 8000000 in
set_option maxRecDepth 100000 in
theorem apply_calls (vo vl : Value) (old : List UInt8) (size ct : Int) (st : List UInt8) (fs : List TV) (w : World) (hst : st.length = 32) (ho : RdB w vo old) (hv : Rd fT w vl fs) (hes : ∀ e ∈ fs, RdB w e.dv e.xs) (hol : old.length ≤ 100000) (hn : fs.length ≤ 1000000) (hsz : size ≤ 9223372036854775807) (hxs : ∀ e ∈ fs, e.xs.length ≤ 100000000) (hF : ∀ e ∈ fs, e.c ≤ 9223372036854775807)
    (hc1 : -9223372036854775808 ≤ ct) (hc2 : ct ≤ 9223372036854775807) :
    Calls Tryd.prog 15 #[.agg (toC vl ct st), vo, .int .i64 size] w fun e w' => ∃ v ev, e = .returned (.tuple #[v, ev]) ∧ On w w' v (applyR old size (fs.map TV.tok) ct st).1 ∧ IsErr w' ev (applyR old size (fs.map TV.tok) ct st).2 := by
  obtain ⟨A, c, rfl, _⟩ := id hv
  obtain ⟨J, hJ⟩ : ∃ J, joinR old size (fs.map TV.tok) = J := ⟨_, rfl⟩
  have hjl : J.1.length ≤ 65536 := by rw [← hJ]; exact joinL_len _ _ _ (Nat.zero_le _)
  have hjc := fun W h1 h2 h3 => join_calls vo (.slice A fs.length c) old size fs W h1 h2 h3 hol hn hsz hxs hF
  rw [hJ] at hjc
  obtain ⟨R, hR⟩ : ∃ R, applyR old size (fs.map TV.tok) ct st = R := ⟨_, rfl⟩
  have HR : Aside0 (R = if J.2.1 ≠ 0 then ([], errJ J) else if Sha.cut ct J.1 = st then (J.1, none) else ([], some (fs.length, 81))) := ⟨by rw [← hR]; unfold applyR; rw [hJ, List.length_map]⟩
  rw [hR]
  have HV := Aside0.mk hv; have HO := Aside0.mk ho; have HES := Aside0.mk hes; have HJC := Aside0.mk hjc; have HST := Aside0.mk hst
  clear hv ho hes hjc hR hJ hxs hF hst
  go_enter Tryd.func15, Tryd.ntmps15
  go_upto_region 1 with fail
  have XS0 := heap_alloc_new w (.cells (toC (.slice A fs.length c) ct st) 40)
  have F1 : Aside0 (Fr No w (w.alloc (.cells (toC (.slice A fs.length c) ct st) 40))) := ⟨(Fr.refl _ _).alloc _⟩
  change Code.wp _ _ _ _ (w.alloc (.cells (toC (.slice A fs.length c) ct st) 40))
  generalize w.alloc (.cells (toC (.slice A fs.length c) ct st) 40) = w1 at XS0 F1 ⊢
  have XS := Aside0.mk XS0
  have c0 : w1.cell? ⟨w.heap.size, 0, Option.none⟩ = some (.slice A fs.length c) := by rw [blk_cell XS0]; exact toC_0 _ _ _
  clear XS0
  go_wp2_with fail
  refine (HJC.out w1 (HO.out.no F1.out) (HV.out.no F1.out) (fun e he => (HES.out e he).no F1.out)).mono ?_
  rintro e w2 ⟨v, ev, rfl, hN, hE, _⟩
  have F2 : Aside0 (Fr No w w2) := ⟨F1.out.none hN.fr⟩
  have HN := Aside0.mk (hN.back F1.out)
  have XS2 := Aside0.mk (hN.fr.heap XS.out id)
  by_cases hz : J.2.1 = 0
  · have he : errJ J = none := by unfold errJ; rw [if_pos hz]
    rw [he] at hE
    obtain rfl : ev = .nilIface := hE
    obtain ⟨Av, cv, rfl⟩ := hN.own.form
    have c1 : w2.cell? ⟨w.heap.size, 1, Option.none⟩ = some (.int .i64 ct) := by rw [blk_cell XS2.out]; exact toC_1 _ _ _
    have c0' : w2.cell? ⟨w.heap.size, 0, Option.none⟩ = some (.slice A fs.length c) := by rw [blk_cell XS2.out]; exact toC_0 _ _ _
    have LS := ld_told HST.out XS2.out
    have qe := fun W => Arr.run_neq Tryd.underlying38 W (Sha.cut ct J.1) st (Sha.cut_length _ _) HST.out
    unfold Arr.av at qe LS
    have qg := fun x y W => run_eqGuard_agg (P := Tryd.prog) W .neq 38 x y ((Sha.cut ct J.1).map vu8).toArray (st.map vu8).toArray (by kernel_rfl)
    obtain ⟨B, hB⟩ : ∃ B : Bool, (!decide (Sha.cut ct J.1 = st)) = B := ⟨_, rfl⟩
    simp only [hB] at qe
    have HB := Aside0.mk hB
    clear hN he c0 hB
    go_wp2_with fail
    refine Rg.start (fun _ x => Fr No w2 x) (by kernel_rfl) (by kernel_rfl) [3] [[2, 0, 1, 3]] (by kernel_rfl) (.q 0 0 (.q 1 0 (.q 2 0 (.q 4 1 (.q 5 1 (.e 3 1 (.q 6 1 (.done)))))))) (by kernel_rfl) ?_ ?_
    · exact fun _ => (Fr.refl _ _).drew
    repeat (first
      | (refine Rg.q (o := ?_) (v := ?_) ?_ ?_ ?_ ?_ ?_
         rotate_left 2
         · (simp only [List.getElem?_toArray, List.getElem?_cons_succ, List.getElem?_cons_zero]; rfl)
         · exact fun _ _ _ h => h
         · first | rfl | (go_simp; done)
         · (intro x_ hx; (try dsimp only at hx); first | (fail) | ((refine (ex_ld rfl rfl (LS _ hx)).trans ?_; with_reducible rfl)) | (have q1 := hx.cell c1 id; (try clear hx); go_simp; (try rw [if_neg (by omega)]); (try rw [if_pos (by omega)]); (try go_simp); try with_reducible rfl))
         try simp only [Act.put, List.setIfInBounds_toArray, List.set_cons_zero, List.set_cons_succ])
      | (refine Rg.skip (o := ?_) ?_ ?_ ?_ ?_
         rotate_left 1
         · (simp only [List.getElem?_toArray, List.getElem?_cons_succ, List.getElem?_cons_zero]; rfl)
         · exact fun _ _ _ h => h
         · first | rfl | (go_simp; done)
         try simp only [Act.put, List.setIfInBounds_toArray, List.set_cons_zero, List.set_cons_succ]))
    refine Rg.e (o := ?_) ?_ ?_
    rotate_left 1
    · (simp only [List.getElem?_toArray, List.getElem?_cons_succ, List.getElem?_cons_zero]; rfl)
    intro K hK
    go_simp
    refine (Sha.cut_calls ct (.slice Av J.1.length cv) J.1 _ (HN.out.own.rd.no (Fr.refl _ _).drew) (by omega) hc1 hc2).mono ?_
    rintro en x1 ⟨rfl, hf⟩
    have K1 : Aside0 (Fr No w2 x1) := ⟨((Fr.refl No w2).drew).none hf⟩
    clear hf
    unfold Arr.av
    go_simp
    refine hK.out _ _ (fun _ x => Fr No w2 x) (fun k x hk h => h) ?_ ?_
    · exact fun _ _ => K1.out
    try simp only [Act.put, List.setIfInBounds_toArray, List.set_cons_zero, List.set_cons_succ]
    repeat (first
      | (refine Rg.q (o := ?_) (v := ?_) ?_ ?_ ?_ ?_ ?_
         rotate_left 2
         · (simp only [List.getElem?_toArray, List.getElem?_cons_succ, List.getElem?_cons_zero]; rfl)
         · exact fun _ _ _ h => h
         · first | rfl | (go_simp; done)
         · (intro x_ hx; (try dsimp only at hx); first | (fail) | ((refine (ex_ld rfl rfl (LS _ hx)).trans ?_; with_reducible rfl)) | (have q1 := hx.cell c1 id; (try clear hx); go_simp; (try rw [if_neg (by omega)]); (try rw [if_pos (by omega)]); (try go_simp); try with_reducible rfl))
         try simp only [Act.put, List.setIfInBounds_toArray, List.set_cons_zero, List.set_cons_succ])
      | (refine Rg.skip (o := ?_) ?_ ?_ ?_ ?_
         rotate_left 1
         · (simp only [List.getElem?_toArray, List.getElem?_cons_succ, List.getElem?_cons_zero]; rfl)
         · exact fun _ _ _ h => h
         · first | rfl | (go_simp; done)
         try simp only [Act.put, List.setIfInBounds_toArray, List.set_cons_zero, List.set_cons_succ]))
    refine Rg.done ?_
    go_simp
    cases B with
    | true =>
      have hne : ¬ Sha.cut ct J.1 = st := by have := HB.out; simpa using this
      have HRE : Aside0 (R = ([], some (fs.length, 81))) := ⟨by rw [HR.out, if_neg (by simpa using hz), if_neg hne]⟩
      have c0'' := K1.out.cell c0' id
      clear qe qg LS c1 c0' hne
      go_wp2
      refine Rg.start (fun k x => k ≤ 0 → Fr No x1 x) (by kernel_rfl) (by kernel_rfl) [4] [[0, 1, 2, 3, 4]] (by kernel_rfl) (.q 0 0 (.q 1 0 (.q 2 0 (.q 3 0 (.q 6 1 (.e 4 1 (.q 5 1 (.q 7 1 (.done))))))))) (by kernel_rfl) ?_ ?_
      · exact fun _ _ => (Fr.refl _ _).drew
      repeat (first
        | (refine Rg.q (o := ?_) (v := ?_) ?_ ?_ ?_ ?_ ?_
           rotate_left 2
           · (simp only [List.getElem?_toArray, List.getElem?_cons_succ, List.getElem?_cons_zero]; rfl)
           · exact fun _ _ _ h => h
           · first | rfl | (go_simp; done)
           · (intro x_ hx; (try dsimp only at hx); (try (have q1 := (hx (by decide)).cell c0'' id)); go_simp; (try rw [if_neg (by omega)]); (try rw [if_pos (by omega)]); (try go_simp); try with_reducible rfl)
           try simp only [Act.put, List.setIfInBounds_toArray, List.set_cons_zero, List.set_cons_succ])
        | (refine Rg.skip (o := ?_) ?_ ?_ ?_ ?_
           rotate_left 1
           · (simp only [List.getElem?_toArray, List.getElem?_cons_succ, List.getElem?_cons_zero]; rfl)
           · exact fun _ _ _ h => h
           · first | rfl | (go_simp; done)
           try simp only [Act.put, List.setIfInBounds_toArray, List.set_cons_zero, List.set_cons_succ]))
      refine Rg.e (o := ?_) ?_ ?_
      rotate_left 1
      · (simp only [List.getElem?_toArray, List.getElem?_cons_succ, List.getElem?_cons_zero]; rfl)
      intro K hK
      go_simp
      have K2 : Aside0 (Fr No w (x1.alloc (.cells #[.int .i64 (fs.length : Int), .int .i64 81] 64))) := ⟨(F2.out.none K1.out).alloc _⟩
      have X2 : Aside0 ((x1.alloc (.cells #[.int .i64 (fs.length : Int), .int .i64 81] 64)).heap[x1.heap.size]? = some (.cells #[.int .i64 (fs.length : Int), .int .i64 81] 64 (0, 0))) := ⟨heap_alloc_new _ _⟩
      clear c0''
      refine hK.out _ _ (fun _ _ => True) (fun k x hk h => fun h2 => absurd (Nat.le_trans hk h2) (by decide)) ?_ ?_
      · exact fun _ _ => trivial
      try simp only [Act.put, List.setIfInBounds_toArray, List.set_cons_zero, List.set_cons_succ]
      repeat (first
        | (refine Rg.q (o := ?_) (v := ?_) ?_ ?_ ?_ ?_ ?_
           rotate_left 2
           · (simp only [List.getElem?_toArray, List.getElem?_cons_succ, List.getElem?_cons_zero]; rfl)
           · exact fun _ _ _ h => h
           · first | rfl | (go_simp; done)
           · (intro x_ hx; (try dsimp only at hx); (skip); go_simp; (try rw [if_neg (by omega)]); (try rw [if_pos (by omega)]); (try go_simp); try with_reducible rfl)
           try simp only [Act.put, List.setIfInBounds_toArray, List.set_cons_zero, List.set_cons_succ])
        | (refine Rg.skip (o := ?_) ?_ ?_ ?_ ?_
           rotate_left 1
           · (simp only [List.getElem?_toArray, List.getElem?_cons_succ, List.getElem?_cons_zero]; rfl)
           · exact fun _ _ _ h => h
           · first | rfl | (go_simp; done)
           try simp only [Act.put, List.setIfInBounds_toArray, List.set_cons_zero, List.set_cons_succ]))
      refine Rg.done ?_
      go_simp
      go_wp2
      (try simp only [Exit.inBlock, Exit.then]); refine bodyPost_ret (results_list (rs := [.tmp 6, .tmp 7]) rfl (by simp) (.tmp (.tmp .nil))) rfl ?_
      rw [HRE.out]
      exact ⟨_, _, rfl, On.nil K2.out.drew, ⟨x1.heap.size, rfl, X2.out⟩⟩
    | false =>
      have hee : Sha.cut ct J.1 = st := by have := HB.out; simpa using this
      have HRE : Aside0 (R = (J.1, none)) := ⟨by rw [HR.out, if_neg (by simpa using hz), if_pos hee]⟩
      clear qe qg LS c1 c0' hee
      go_wp2
      (try simp only [Exit.inBlock, Exit.then]); refine bodyPost_ret (results_list (rs := [.tmp 6, .tmp 7]) rfl (by simp) (.tmp (.tmp .nil))) rfl ?_
      rw [HRE.out]
      exact ⟨_, _, rfl, HN.out.no K1.out, rfl⟩
  · have HRE : Aside0 (R = ([], errJ J)) := ⟨by rw [HR.out, if_pos hz]⟩
    have he : errJ J = some (J.2.2, J.2.1.toNat) := by unfold errJ; rw [if_neg hz]
    rw [he] at hE HRE
    obtain ⟨b, rfl, hb⟩ := hE
    have HBK := Aside0.mk hb
    clear hN he hb c0
    go_wp2
    (try simp only [Exit.inBlock, Exit.then]); refine bodyPost_ret (results_list (rs := [.tmp 6, .tmp 7]) rfl (by simp) (.tmp (.tmp .nil))) rfl ?_
    rw [HRE.out]
    exact ⟨_, _, rfl, On.nil F2.out, ⟨b, rfl, HBK.out⟩⟩
end Go.Proofs.YtnfneokmiopieaaDoor.Pat
namespace Go.Proofs.YtnfneokmiopieaaDoor.Pat
open Go.RowKit Go.IntWalk Go.Proofs.YtnfneokmiopieaaDoorW.PrintWords Go.Proofs.YtnfneokmiopieaaDoor.B Go.Proofs.YtnfneokmiopieaaDoor.PB Go.Proofs.YtnfneokmiopieaaDoor.STell Go.Proofs.YtnfneokmiopieaaDoor.SJoin Go.Proofs.YtnfneokmiopieaaDoor.Tk Go.Proofs.YtnfneokmiopieaaDoor.Blk Go.Proofs.YtnfneokmiopieaaDoor.SBlk Go.Proofs.YtnfneokmiopieaaDoor.Bk Go.Proofs.YtnfneokmiopieaaDoor.L6 Go.Proofs.YtnfneokmiopieaaDoor.L7

theorem name_alloc {P : Program} {C : Code} {Q : Exit → Act → World → Prop} {a : Act} {W : World} {o : Obj} (h : ∀ w2 : World, w2.heap[W.heap.size]? = some o → Fr No W w2 → Code.wp P C Q a w2) : Code.wp P C Q a (W.alloc o) := h _ (heap_alloc_new W o) ((Fr.refl _ _).alloc _)

set_option maxHeartbeats 8000000 in
set_option maxRecDepth 100000 in
theorem tell_big (size cut len : Int) (sl vd : Value) (bs : List BK) (d : List UInt8) (ct : Int) (w : World) (hv : Rd (fBk .u32) w sl bs) (hd : RdB w vd d) (hl : d.length ≤ 65536) (hTL : (tellR size cut len bs d).length ≤ 8192) (hsz : size ≤ 9223372036854775807) (hln : len ≤ 9223372036854775807) (hE : chkE size cut len bs = 0) (hc1 : -9223372036854775808 ≤ ct) (hc2 : ct ≤ 9223372036854775807) :
    Calls Tryd.prog 18 #[.agg (sgC size cut len sl), vd, .int .i64 ct] w fun e w' => ∃ vo, e = .returned (.tuple #[.agg (toC vo ct (Sha.cut ct d)), .int .i64 0]) ∧ Tl w' w.heap.size vo (tellR size cut len bs d) ∧ Fr No w w' := by
  obtain ⟨A, c, rfl, _⟩ := id hv
  obtain ⟨A', c', rfl, _⟩ := id hd
  have hdm := fun W h1 h2 => dmake_wide size cut len (.slice A bs.length c) (.slice A' d.length c') bs d W h1 h2 (by omega) hTL hsz hln
  obtain ⟨X, hX⟩ : ∃ X, tellR size cut len bs d = X := ⟨_, rfl⟩
  simp only [hX, hE] at hdm
  rw [hX]
  have HV := Aside0.mk hv; have HD := Aside0.mk hd; have HDM := Aside0.mk hdm
  clear hv hd hdm hE hX hTL
  go_enter Tryd.func18, Tryd.ntmps18
  go_upto_region 1 with fail
  refine name_alloc (fun w2 h2 f2 => ?_)
  have hb := f2.heap (heap_alloc_new w (.cells (sgC size cut len (.slice A bs.length c)) 46)) id
  have F2 : Aside0 (Fr No w w2) := ⟨((Fr.refl _ _).alloc _).none f2⟩
  have hs1 : (w.alloc (.cells (sgC size cut len (.slice A bs.length c)) 46)).heap.size = w.heap.size + 1 := by simp
  rw [hs1] at h2
  have HT0 : Aside0 (∃ cs0 : Array Value, w2.heap[w.heap.size + 1]? = some (.cells cs0 40 (0, 0)) ∧ cs0.size = 34) := ⟨_, h2, rfl⟩
  have HLT : Aside0 (w.heap.size + 1 < w2.heap.size) := ⟨blk_lt h2⟩
  clear h2 f2 hs1
  have LD := ld_all (P := Tryd.prog) (ty := 46) hb Tryd.underlying46 rfl (by kernel_rfl)
  clear hb
  have hl6 : ¬ (65536 : Int) < (d.length : Int) := by omega
  go_wp2_with (first
    | (refine ldG (.tmp 3) 46 _ _ rfl rfl (LD _ (Fr.refl _ _)) (by first | rfl | (go_simp; done)) ?_)
    | fail)
  refine (HDM.out w2 (HV.out.no F2.out) (HD.out.no F2.out)).mono ?_
  rintro e w3 ⟨vo, rfl, hT, hf⟩
  obtain ⟨Ao, co, rfl⟩ := hT.form
  have F3 : Aside0 (Fr No w w3) := ⟨F2.out.none hf⟩
  have HT := Aside0.mk hT
  have HT3 : Aside0 (∃ cs0 : Array Value, w3.heap[w.heap.size + 1]? = some (.cells cs0 40 (0, 0)) ∧ cs0.size = 34) := ⟨by
    obtain ⟨cs0, h1, h2⟩ := HT0.out
    exact ⟨cs0, hf.heap h1 id, h2⟩⟩
  clear hf hT LD hl6
  go_wp2_with fail
  refine (Sha.cut_calls ct (.slice A' d.length c') d w3 (HD.out.no F3.out) (by omega) hc1 hc2).mono ?_
  rintro e w4 ⟨rfl, hf⟩
  have F4 : Aside0 (Fr No w w4) := ⟨F3.out.none hf⟩
  have HT4 := Aside0.mk (HT.out.no hf)
  obtain ⟨cs0, h1, h2⟩ := HT3.out
  have X4 := Aside0.mk (hf.heap h1 id)
  have hsl := Sha.cut_length ct d
  obtain ⟨S, hS⟩ : ∃ S, Sha.cut ct d = S := ⟨_, rfl⟩
  have HSS := Aside0.mk hS
  rw [hS] at hsl ⊢
  have HSL := Aside0.mk hsl
  clear hf h1 hS hsl
  go_wp2_with (first
    | (refine lsX rfl (ex_build (buildT (A := Ao) (n := X.length) (c := co) ct HSL.out w4) rfl (by kernel_rfl)) ?_)
    | (refine PB.stRow (.tmp 6) (.tmp 29) 40 (w.heap.size + 1) 40 cs0 (toC (.slice Ao X.length co) ct S) rfl rfl rfl rfl X4.out (by rw [toC_size HSL.out]; kernel_rfl) (by rw [toC_size HSL.out]; exact h2) toC_one ?_))
  (try simp only [Exit.inBlock, Exit.then]); refine bodyPost_ret (results_list (rs := [.cell 6 40, .tmp 7]) rfl (by simp) (.cell (w.heap.size + 1) 40 (toC (.slice Ao X.length co) ct S) (0, 0) _ rfl (setRow_heap _ _ _ _ _ _ X4.out) Tryd.underlying40 rfl (by rw [toC_size HSL.out]; kernel_rfl) (.tmp .nil))) rfl ?_
  refine ⟨.slice Ao X.length co, by rw [HSS.out]; rfl, (HT4.out.fr (fr_one_row w4 (w.heap.size + 1) _) (fun q hq e => by have e' : q = w.heap.size + 1 := e; have := HLT.out; omega)).down F2.out.size, fr_setRow F4.out (.inr (by omega)) _⟩
theorem tell_calls (size cut len : Int) (sl vd : Value) (bs : List BK) (d : List UInt8) (ct : Int) (w : World) (hv : Rd (fBk .u32) w sl bs) (hd : RdB w vd d) (hl : d.length ≤ 8192) (hsz : size ≤ 9223372036854775807) (hln : len ≤ 9223372036854775807) (hE : chkE size cut len bs = 0) (hc1 : -9223372036854775808 ≤ ct) (hc2 : ct ≤ 9223372036854775807) :
    Calls Tryd.prog 18 #[.agg (sgC size cut len sl), vd, .int .i64 ct] w fun e w' => ∃ vo, e = .returned (.tuple #[.agg (toC vo ct (Sha.cut ct d)), .int .i64 0]) ∧ Tl w' w.heap.size vo (tellR size cut len bs d) ∧ Fr No w w' :=
  tell_big size cut len sl vd bs d ct w hv hd (by omega) (by have := tellR_length size cut len bs d; omega) hsz hln hE hc1 hc2
end Go.Proofs.YtnfneokmiopieaaDoor.Pat
namespace Go.Proofs.YtnfneokmiopieaaDoor.Pat
open Go.RowKit Go.IntWalk Go.Proofs.YtnfneokmiopieaaDoorW.PrintWords Go.Proofs.YtnfneokmiopieaaDoor.B Go.Proofs.YtnfneokmiopieaaDoor.PB Go.Proofs.YtnfneokmiopieaaDoor.STell Go.Proofs.YtnfneokmiopieaaDoor.SJoin Go.Proofs.YtnfneokmiopieaaDoor.Tk Go.Proofs.YtnfneokmiopieaaDoor.Blk Go.Proofs.YtnfneokmiopieaaDoor.SBlk Go.Proofs.YtnfneokmiopieaaDoor.Bk Go.Proofs.YtnfneokmiopieaaDoor.L6 Go.Proofs.YtnfneokmiopieaaDoor.L7

/-- What is sent: tokens, what they make. -/
def sendL (old d : List UInt8) (s : Nat) (cut : Int) : List Tok := tell s (fB s old.length cut (blocks s cut old (cnt old.length s))) d []
def sendA (old d : List UInt8) (s : Nat) (cut whole : Int) : List UInt8 × Option (Nat × Nat) := applyR old s (sendL old d s cut) whole (Sha.cut whole d)

set_option maxHeartbeats 8000000 in
set_option maxRecDepth 100000 in
theorem send_bad (vo vd : Value) (old d : List UInt8) (size cut whole : Int) (w : World) (ho : RdB w vo old) (hd : RdB w vd d) (hsz : size ≤ 9223372036854775807) (hE : makeE old.length size cut ≠ 0) :
    Calls Tryd.prog 21 #[vo, vd, .int .i64 size, .int .i64 cut, .int .i64 whole] w fun e w' => e = .returned (.tuple #[.slice none 0 0, .bool false, .int .i64 (makeE old.length size cut)]) ∧ Fr No w w' := by
  obtain ⟨A, c, rfl, _⟩ := id ho
  obtain ⟨A', c', rfl, _⟩ := id hd
  have hE0 : (makeE old.length size cut == 0) = false := by rw [beq_eq_false_iff_ne]; exact hE
  have hmb := fun W h => make_bad (.slice A old.length c) old size cut W h hsz hE
  obtain ⟨E, hEE⟩ : ∃ E, makeE old.length size cut = E := ⟨_, rfl⟩
  rw [hEE] at hE0 ⊢
  simp only [hEE] at hmb
  have HO := Aside0.mk ho; have HMB := Aside0.mk hmb
  clear ho hd hmb hE hEE
  go_enter Tryd.func21, Tryd.ntmps21
  go_wp2_with fail
  refine (HMB.out w HO.out).mono ?_
  rintro e w2 ⟨rfl, hf⟩
  have F2 : Aside0 (Fr No w w2) := ⟨hf⟩
  clear hf
  go_wp2
  (try simp only [Exit.inBlock, Exit.then]); refine bodyPost_ret (results_list (rs := [.tmp 10, .tmp 11, .tmp 12]) rfl (by simp) (.tmp (.tmp (.tmp .nil)))) rfl ?_
  exact ⟨rfl, F2.out.alloc _⟩

set_option maxHeartbeats 8000000 in
set_option maxRecDepth 100000 in
theorem send_ok (vo vd : Value) (old d : List UInt8) (s : Nat) (cut whole : Int) (w : World) (ho : RdB w vo old) (hd : RdB w vd d) (hol : old.length ≤ 8000) (hdl : d.length ≤ 8000) (hs1 : 1 ≤ s) (hs2 : s ≤ 4096) (hE : makeE old.length s cut = 0) (hc1 : -9223372036854775808 ≤ whole) (hc2 : whole ≤ 9223372036854775807) :
    Calls Tryd.prog 21 #[vo, vd, .int .i64 (s : Int), .int .i64 cut, .int .i64 whole] w fun e w' => ∃ v, e = .returned (.tuple #[v, .bool (sendA old d s cut whole).2.isSome, .int .i64 0]) ∧ On w w' v (if (sendA old d s cut whole).2.isSome then d else (sendA old d s cut whole).1) := by
  obtain ⟨A0, c0, rfl, _⟩ := id ho
  obtain ⟨A', c', rfl, _⟩ := id hd
  have hmk := fun W h => make_ok (.slice A0 old.length c0) old s cut W h (by omega) (by omega) hE
  have hbl := blocks_length s cut old (cnt old.length s)
  have hcl := cnt_le old.length s (by omega)
  have htr := tellR_made hE d
  have hck := chk_made hE
  have hgd := good_made (b := old) (cut := cut) hs1 d
  have hup := upto_tell (s := s) (by omega) (fB s old.length cut (blocks s cut old (cnt old.length s))) d [] 0 (fun t ht => by cases ht)
  have hln := tell_length (s := s) (by omega) (fB s old.length cut (blocks s cut old (cnt old.length s))) d []
  rw [Int.toNat_natCast] at hck
  simp only [Int.toNat_natCast] at hmk
  obtain ⟨R, hR⟩ : ∃ R, sendA old d s cut whole = R := ⟨_, rfl⟩
  rw [hR]
  unfold sendA sendL at hR
  obtain ⟨bs, hbs⟩ : ∃ bs, blocks s cut old (cnt old.length s) = bs := ⟨_, rfl⟩
  simp only [hbs] at hmk hbl htr hck hgd hup hln hR
  obtain ⟨L, hL⟩ : ∃ L, tell s (fB s old.length cut bs) d [] = L := ⟨_, rfl⟩
  rw [hL] at htr hgd hup hln hR
  rw [List.length_nil, Nat.zero_add] at hln
  rw [Nat.zero_add] at hup
  have hbb : bs.length ≤ 8000 := by omega
  have HO := Aside0.mk ho; have HD := Aside0.mk hd; have HMK := Aside0.mk hmk; have HTR := Aside0.mk htr; have HCK := Aside0.mk hck; have HGD := Aside0.mk hgd; have HUP := Aside0.mk hup; have HLN := Aside0.mk hln; have HR := Aside0.mk hR
  clear ho hd hmk htr hck hgd hup hln hR hL hbs hE hbl hcl
  go_enter Tryd.func21, Tryd.ntmps21
  go_wp2_with fail
  refine (HMK.out w HO.out).mono ?_
  rintro e w1 ⟨sl, rfl, hS, hf⟩
  have F1 : Aside0 (Fr No w w1) := ⟨hf⟩
  obtain ⟨A, c, rfl⟩ := hS.1.form
  have HS := Aside0.mk hS
  clear hf hS
  go_upto_region 2 with fail
  refine name_alloc (fun w2 h2 f2 => ?_)
  have XS := Aside0.mk h2
  have F2 : Aside0 (Fr No w w2) := ⟨F1.out.none f2⟩
  have HV : Aside0 (Rd (fBk .u32) w2 (.slice A bs.length c) bs) := ⟨HS.out.1.rd.no f2⟩
  clear h2 f2 HS
  obtain ⟨g, hg⟩ : ∃ g, w1.heap.size = g := ⟨_, rfl⟩
  rw [hg] at XS ⊢
  clear hg
  have LD := ld_all (P := Tryd.prog) (ty := 46) XS.out Tryd.underlying46 rfl (by kernel_rfl)
  go_wp2_with (first
    | (refine ldG (.tmp 13) 46 _ _ rfl rfl (LD _ (Fr.refl _ _)) (by first | rfl | (go_simp; done)) ?_)
    | fail)
  refine (tell_calls s cut old.length (.slice A bs.length c) (.slice A' d.length c') bs d whole w2 HV.out (HD.out.no F2.out) (by omega) (by omega) (by omega) HCK.out hc1 hc2).mono ?_
  rw [HTR.out]
  rintro e w3 ⟨vt, rfl, hT, hf⟩
  obtain ⟨At, ct, rfl⟩ := hT.form
  obtain ⟨fs, hT, hfs⟩ := hT
  have F3 : Aside0 (Fr No w w3) := ⟨F2.out.none hf⟩
  have hfl : fs.length ≤ 8000 := by have := HLN.out; rw [← hfs, List.length_map] at this; omega
  have hll : L.length = fs.length := by rw [← hfs, List.length_map]
  rw [hll] at hT ⊢
  have HT := Aside0.mk hT; have HFS := Aside0.mk hfs
  have hsl := Sha.cut_length whole d
  obtain ⟨S, hSS⟩ : ∃ S, Sha.cut whole d = S := ⟨_, rfl⟩
  rw [hSS] at hsl HR ⊢
  have HSL := Aside0.mk hsl
  clear hf hT hfs LD hll hSS hsl
  go_upto_region 5 with (refine PB.stRow (.tmp 15) (.tmp 33) 40 w3.heap.size 40 _ (toC (.slice At fs.length ct) whole S) rfl rfl rfl rfl (heap_alloc_new w3 _) (by rw [toC_size HSL.out]; kernel_rfl) (by rw [toC_size HSL.out]; rfl) toC_one ?_; rw [World.setRow_alloc_new])
  refine name_alloc (fun w4 h4 f4 => ?_)
  have X4 := Aside0.mk h4
  have F4 : Aside0 (Fr No w3 w4) := ⟨f4⟩
  clear h4 f4
  have LT := ld_all (P := Tryd.prog) (ty := 40) X4.out Tryd.underlying40 rfl (by rw [toC_size HSL.out]; kernel_rfl)
  go_wp2_with (first
    | (refine ldG (.tmp 15) 40 _ _ rfl rfl (LT _ (Fr.refl _ _)) (by first | rfl | (go_simp; done)) ?_)
    | fail)
  have HT4 := HT.out.no F4.out
  have hap := apply_calls (.slice A0 old.length c0) (.slice At fs.length ct) old s whole S fs w4 HSL.out (HO.out.no (F3.out.none F4.out)) HT4.row.rd (fun e he => (HT4.own e he).1.rd) (by omega) (by omega) (by omega) (fun e he => by
    have := HUP.out e.tok (by rw [← HFS.out]; exact List.mem_map_of_mem he)
    have e9 : e.tok.2.2 = e.xs := rfl
    rw [e9] at this; omega) (fun e he => by
    have h8 := HGD.out.ok e.tok (by rw [← HFS.out]; exact List.mem_map_of_mem he)
    have e9 : e.tok.2.1 = e.c := rfl
    have h1 := h8.c0; have h2 := h8.f0
    rcases (by omega : e.tok.2.1 = 0 ∨ 0 < e.tok.2.1) with h3 | h3
    · rw [← e9]; omega
    · have := (h8.blk h3).2; have := cnt_le old.length s (by omega); rw [← e9]; omega) hc1 hc2
  rw [HFS.out, HR.out] at hap
  refine hap.mono ?_
  rintro e w5 ⟨v, ev, rfl, hN, hER⟩
  have F5 : Aside0 (Fr No w w5) := ⟨(F3.out.none F4.out).none hN.fr⟩
  have HN : Aside0 (On w w5 v R.1) := ⟨hN.back (F3.out.none F4.out)⟩
  clear hap LT
  obtain ⟨R1, R2⟩ := R
  cases R2 with
  | none =>
    obtain rfl : ev = .nilIface := hER
    obtain ⟨Av, cv, rfl⟩ := hN.own.form
    clear hN
    go_wp2
    (try simp only [Exit.inBlock, Exit.then]); refine bodyPost_ret (results_list (rs := [.tmp 10, .tmp 11, .tmp 12]) rfl (by simp) (.tmp (.tmp (.tmp .nil)))) rfl ?_
    exact ⟨_, rfl, HN.out⟩
  | some q =>
    obtain ⟨qa, qc⟩ := q
    obtain ⟨b, rfl, _⟩ := hER
    clear hN
    go_wp2_with fail
    refine (clone_calls (.slice A' d.length c') d w5 (HD.out.no F5.out) (by omega)).mono ?_
    rintro e w6 ⟨dv, rfl, hN6⟩
    have HN6 : Aside0 (On w w6 dv d) := ⟨hN6.back F5.out⟩
    clear hN6
    go_wp2
    (try simp only [Exit.inBlock, Exit.then]); refine bodyPost_ret (results_list (rs := [.tmp 10, .tmp 11, .tmp 12]) rfl (by simp) (.tmp (.tmp (.tmp .nil)))) rfl ?_
    exact ⟨_, rfl, HN6.out⟩
end Go.Proofs.YtnfneokmiopieaaDoor.Pat
namespace Go.Proofs.YtnfneokmiopieaaDoor.Pat
open Go.RowKit Go.IntWalk Go.Proofs.YtnfneokmiopieaaDoorW.PrintWords Go.Proofs.YtnfneokmiopieaaDoor.B Go.Proofs.YtnfneokmiopieaaDoor.PB Go.Proofs.YtnfneokmiopieaaDoor.STell Go.Proofs.YtnfneokmiopieaaDoor.SJoin Go.Proofs.YtnfneokmiopieaaDoor.Tk Go.Proofs.YtnfneokmiopieaaDoor.Blk Go.Proofs.YtnfneokmiopieaaDoor.SBlk Go.Proofs.YtnfneokmiopieaaDoor.Bk Go.Proofs.YtnfneokmiopieaaDoor.L6 Go.Proofs.YtnfneokmiopieaaDoor.L7

theorem send4A : sendA d4 [120, 99, 100] 2 32 32 = ([120, 99, 100], none) := by
  have h1 : sendL d4 [120, 99, 100] 2 32 = [(0, 0, [120]), (1, 1, [])] := by
    have h2 := tellR_made (b := d4) (s := 2) (cut := 32) (by decide) [120, 99, 100]
    have h3 := tell4
    unfold sendL
    rw [← h2]
    exact h3
  have h4 : joinR d4 ((2 : Nat) : Int) [(0, 0, [120]), (1, 1, [])] = ([120, 99, 100], 0, 0) := by decide
  unfold sendA applyR
  rw [h1]
  rw [h4, if_neg (by simp), if_pos rfl]
theorem send4 (vo vd : Value) (w : World) (ho : RdB w vo d4) (hd : RdB w vd [120, 99, 100]) :
    Calls Tryd.prog 21 #[vo, vd, .int .i64 2, .int .i64 32, .int .i64 32] w fun e w' => ∃ A c, e = .returned (.tuple #[.slice A 3 c, .bool false, .int .i64 0]) ∧ On w w' (.slice A 3 c) [120, 99, 100] := by
  have h := send_ok vo vd d4 [120, 99, 100] 2 32 32 w ho hd (by decide) (by decide) (by decide) (by decide) (by decide) (by decide) (by decide)
  rw [send4A] at h
  refine h.mono ?_
  rintro e w' ⟨v, rfl, hN⟩
  obtain ⟨A, c, rfl⟩ := hN.own.form
  exact ⟨A, c, rfl, hN⟩
set_option maxHeartbeats 4000000 in
set_option maxRecDepth 100000 in
theorem sends_calls (w : World) : Calls Tryd.prog 8 #[] w fun e w' => e = .returned (.bool true) ∧ Fr No w w' := by
  have h1 := fun W : World => Lib.run_convert_bytes_const (P := Tryd.prog) W 22 5 #[.int .u8 97, .int .u8 98, .int .u8 99, .int .u8 100] 4 4 Tryd.underlying22 Tryd.underlying5
  have h2 := fun W : World => Lib.run_convert_bytes_const (P := Tryd.prog) W 22 5 #[.int .u8 120, .int .u8 99, .int .u8 100] 3 3 Tryd.underlying22 Tryd.underlying5
  have hsz : (w.alloc (.cells #[.int .u8 97, .int .u8 98, .int .u8 99, .int .u8 100] 5 (4, 5))).heap.size = w.heap.size + 1 := by simp
  have h3 := h2 (w.alloc (.cells #[.int .u8 97, .int .u8 98, .int .u8 99, .int .u8 100] 5 (4, 5)))
  rw [hsz] at h3
  have RX : Aside0 (RdB ((w.alloc (.cells #[.int .u8 97, .int .u8 98, .int .u8 99, .int .u8 100] 5 (4, 5))).alloc (.cells #[.int .u8 120, .int .u8 99, .int .u8 100] 5 (3, 4))) (.slice (some ⟨w.heap.size + 1, 0, none⟩) 3 3) [120, 99, 100]) := ⟨by
    have h9 := rdB_lit (w.alloc (.cells #[.int .u8 97, .int .u8 98, .int .u8 99, .int .u8 100] 5 (4, 5))) [120, 99, 100] 5 (3, 4) (by decide)
    rw [hsz] at h9
    exact h9⟩
  have RY : Aside0 (RdB ((w.alloc (.cells #[.int .u8 97, .int .u8 98, .int .u8 99, .int .u8 100] 5 (4, 5))).alloc (.cells #[.int .u8 120, .int .u8 99, .int .u8 100] 5 (3, 4))) (.slice (some ⟨w.heap.size, 0, none⟩) 4 4) d4) := ⟨(rdB_lit w d4 5 (4, 5) (by decide)).no ((Fr.refl _ _).alloc _)⟩
  have FZ : Aside0 (Fr No w ((w.alloc (.cells #[.int .u8 97, .int .u8 98, .int .u8 99, .int .u8 100] 5 (4, 5))).alloc (.cells #[.int .u8 120, .int .u8 99, .int .u8 100] 5 (3, 4)))) := ⟨((Fr.refl _ _).alloc _).alloc _⟩
  clear hsz h2
  go_enter Tryd.func8, Tryd.ntmps8
  go_wp2_with fail
  refine (send4 _ _ _ RY.out RX.out).mono ?_
  rintro e w1 ⟨A, c, rfl, hN⟩
  have F1 : Aside0 (Fr No w w1) := ⟨FZ.out.none hN.fr⟩
  have q1 : (convert 22 9 (.slice A 3 c)).run Tryd.prog w1 = .ok (.string ⟨#[120, 99, 100]⟩) w1 := str_of_rd hN.own.rd
  clear hN h1 h3
  go_wp2_with fail
  go_ret
  exact ⟨rfl, F1.out⟩
end Go.Proofs.YtnfneokmiopieaaDoor.Pat
