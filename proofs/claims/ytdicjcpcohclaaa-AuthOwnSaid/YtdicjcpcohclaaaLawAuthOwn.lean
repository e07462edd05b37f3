/- The walk of the law AuthOwn. -/
import Derived.Test.YtdicjcpcohclaaaAuthL
import Derived.Test.YtdicjcpcohclaaaLiftM
import Derived.OpenShut
set_option linter.unusedVariables false
set_option linter.unusedSimpArgs false
namespace Go.Proofs.Ytdicjcpcohclaaa.LAuthOwn
open Go.ChangeShapes Go.RowKit Go.Proofs.YtdicjcpcohclaaaW.PrintWords Go.Proofs.Ytdicjcpcohclaaa.B Go.Proofs.Ytdicjcpcohclaaa.PB Go.Proofs.Ytdicjcpcohclaaa.Sha Go.Proofs.Ytdicjcpcohclaaa.Auth

theorem sec_some (us : List US) (u : US) (h : u ∈ us) : ∃ s, sec us u.nm = some s ∧ ∃ v ∈ us, v.sc = s := by
  unfold sec
  cases hf : us.find? (·.nm == u.nm) with
  | none => exact absurd (List.find?_eq_none.1 hf u h) (by simp)
  | some v => exact ⟨v.sc, rfl, v, List.mem_of_find?_eq_some hf, rfl⟩
theorem check_own (us : List US) (mn user n s : List UInt8) (h : sec us user = some s) : checkP us mn user n (mac s (n ++ mn)) = 0 := by
  rw [checkP, h]; dsimp only; rw [if_pos rfl]
theorem check_else (us : List US) (mn user n s a : List UInt8) (h : sec us user = some s) (ha : ¬ mac s (n ++ mn) = a) : checkP us mn user n a = 140 := by
  rw [checkP, h]; dsimp only; rw [if_neg ha]
theorem set_ne (t : List UInt8) (k : Nat) (hk : k < t.length) : ¬ t = t.set k (t.getD k 0 ^^^ 1) := by
  intro h
  have h1 := congrArg (·.getD k 0) h
  simp only [List.getD, List.getElem?_set_self hk, Option.getD_some] at h1
  have h2 : ∀ x : UInt8, ¬ x = x ^^^ 1 := by
    intro x h
    have h3 : x ^^^ x = x ^^^ (x ^^^ 1) := by rw [← h]
    rw [← UInt8.xor_assoc] at h3
    simp at h3
  exact h2 _ h1
set_option maxHeartbeats 8000000 in
set_option maxRecDepth 100000 in
theorem walk (m : MD) (n : List UInt8) (k : Int) (w : World) (hm : m.ok w ∧ m.fits) (hn : n.length = 16) (hk : (Lit.int .i64 k).wf = true) : Calls Try.prog 17 #[m.v, Arr.av n, .int .i64 k] w fun e w' => e = .returned (.bool true) ∧ Fr No w w' := by
  obtain ⟨hm, hml, hus⟩ := hm
  obtain ⟨A', c', he, hlc, hcm, hcell⟩ := id hm
  have e1 : m.A = A' := by injection he
  have e3 : m.c = c' := by injection he
  subst e1 e3
  have HM := Aside0.mk hm; have HC := Aside0.mk hcell; have HUS := Aside0.mk hus
  simp only [maxLen] at hcm hml
  clear hm hcell he hus hk
  have CC1 := fun user a W ha h1 h2 h3 => check_calls m user n a W h1 hn ha h2 h3
  have SC1 := fun user W h1 => secret_calls m user W h1
  have AC1 := fun s W h1 h2 => answer_calls s m.nm n W h1 h2 hn
  unfold Arr.av MD.v MD.cells MD.uv at CC1
  unfold MD.v MD.cells MD.uv at SC1
  unfold Arr.av at AC1
  unfold Arr.av MD.v MD.cells MD.uv
  obtain ⟨vn, hvn⟩ : ∃ vn, (n.map vu8).toArray = vn := ⟨_, rfl⟩
  have sn : vn.size = 16 := by rw [← hvn]; simp [hn]
  simp only [hvn] at CC1 AC1 ⊢
  have CC := Aside0.mk (And.intro CC1 (And.intro SC1 AC1))
  clear hvn CC1 SC1 AC1
  by_cases q1 : m.us.length ≤ 10
  case neg =>
    have q1I : (10 : Int) < (m.us.length : Int) := by omega
    go_enter Try.func17, Try.ntmps17
    go_wp2_with fail
    refine (lets_calls _).mono ?_
    rintro e w1 ⟨rfl, hf⟩
    have F1 : Aside0 (Fr No w w1) := ⟨(((Fr.refl _ _).alloc _).alloc _).none hf⟩
    have c5 : w1.cell? ⟨w.heap.size, 5, none⟩ = some (.slice m.A m.us.length m.c) := hf.cell (v := .slice m.A m.us.length m.c) (by rw [blk_cell (blk_alloc (heap_alloc_new w _) _)]; rfl) id
    clear hf
    go_wp2
    go_ret
    exact ⟨rfl, F1.out⟩
  have q1I : ¬ (10 : Int) < (m.us.length : Int) := by omega
  by_cases q2 : m.nm.length ≤ 100
  case neg =>
    have q2I : (100 : Int) < (m.nm.length : Int) := by omega
    go_enter Try.func17, Try.ntmps17
    go_wp2_with fail
    refine (lets_calls _).mono ?_
    rintro e w1 ⟨rfl, hf⟩
    have F1 : Aside0 (Fr No w w1) := ⟨(((Fr.refl _ _).alloc _).alloc _).none hf⟩
    have c5 : w1.cell? ⟨w.heap.size, 5, none⟩ = some (.slice m.A m.us.length m.c) := hf.cell (v := .slice m.A m.us.length m.c) (by rw [blk_cell (blk_alloc (heap_alloc_new w _) _)]; rfl) id
    have c0 : w1.cell? ⟨w.heap.size, 0, none⟩ = some (.string (bstr m.nm)) := hf.cell (v := .string (bstr m.nm)) (by rw [blk_cell (blk_alloc (heap_alloc_new w _) _)]; rfl) id
    clear hf
    go_wp2
    go_ret
    exact ⟨rfl, F1.out⟩
  have q2I : ¬ (100 : Int) < (m.nm.length : Int) := by omega
  go_enter Try.func17, Try.ntmps17
  go_wp2_with fail
  refine (lets_calls _).mono ?_
  rintro e w1 ⟨rfl, hf⟩
  have F1 : Aside0 (Fr No w w1) := ⟨(((Fr.refl _ _).alloc _).alloc _).none hf⟩
  have B0 : Aside0 (w1.heap[w.heap.size]? = some (.cells #[.string (bstr m.nm), .string (bstr m.root), .bool m.wr, .int .i64 m.sl, .int .i64 m.qu, .slice m.A m.us.length m.c] 75 (0, 0))) := ⟨hf.heap (blk_alloc (heap_alloc_new w _) _) id⟩
  have T0 : Aside0 (w1.heap[w.heap.size + 1]? = some (.cells vn 69 (0, 0))) := ⟨hf.heap (heap_alloc2_new w _ _) id⟩
  have c5 : w1.cell? ⟨w.heap.size, 5, none⟩ = some (.slice m.A m.us.length m.c) := by rw [blk_cell B0.out]; rfl
  have c0 : w1.cell? ⟨w.heap.size, 0, none⟩ = some (.string (bstr m.nm)) := by rw [blk_cell B0.out]; rfl
  have LM := ld_all (P := Try.prog) (ty := 75) B0.out Try.underlying75 rfl (by kernel_rfl)
  have LN := ld_all (P := Try.prog) (ty := 69) T0.out Try.underlying69 rfl (by rw [sn]; kernel_rfl)
  have HL := Aside0.mk (And.intro LM LN)
  clear hf LM LN
  go_wp2
  go_loopw [27] (fun v27 wr => ∃ j : Nat, v27 = .int .i64 j ∧ j ≤ m.us.length ∧ Aside0 (Fr No w1 wr)) (fun v27 _ => m.us.length - (intOf v27).toNat)
  case atStart => exact ⟨0, rfl, by omega, ⟨Fr.refl _ _⟩⟩
  case round =>
    obtain ⟨j, rfl, hj, HF⟩ := hrel
    clear c0 c5
    by_cases hjl : j < m.us.length
    · have hjI : (j : Int) < (m.us.length : Int) := by omega
      obtain ⟨ad, hA, hc⟩ := HC.out (by omega)
      obtain ⟨u, hu⟩ : ∃ u, m.us[j]? = some u := ⟨_, List.getElem?_eq_getElem hjl⟩
      have hcj : ∀ i x, (fU.enc u)[i]? = some x → wr.cell? ((ad.add (j * 2)).add i) = some x := fun i x hx => by
        rw [add_add]
        refine HF.out.cell (F1.out.cell (hc _ _ ?_) id) id
        have hi : i < 2 := (List.getElem?_eq_some_iff.1 hx).1
        have := fU.cells_get m.us j u hu i hi
        rw [show j * fU.sz + i = j * 2 + i from rfl] at this
        rw [this, hx]
      have k0 : wr.cell? (ad.add (j * 2)) = some (.string (bstr u.nm)) := hcj 0 _ rfl
      have k1 : wr.cell? { block := (ad.add (j * 2)).block, off := (ad.add (j * 2)).off + 1 } = some (.string (bstr u.sc)) := hcj 1 _ rfl
      obtain ⟨s, hsec, v, hv, hvs⟩ := sec_some m.us u (List.mem_of_getElem? hu)
      have hsl := (HUS.out v hv).2
      rw [hvs] at hsl
      simp only [maxLen] at hsl
      have HSC := Aside0.mk hsec
      have hfa : Fr No wr (wr.alloc (.cells #[.string (bstr u.nm), .string (bstr u.sc)] 80)) := (Fr.refl _ _).alloc _
      have hua : (wr.alloc (.cells #[.string (bstr u.nm), .string (bstr u.sc)] 80)).heap[wr.heap.size]? = some (.cells #[.string (bstr u.nm), .string (bstr u.sc)] 80 (0, 0)) := heap_alloc_new wr _
      clear hcj hc hu hv hvs hsec
      go_wp2_with (refine ldG (.tmp 3) 75 _ _ rfl rfl (HL.out.1 _ (HF.out.none hfa)) (by first | rfl | (go_simp; done)) ?_)
      rw [← hA]
      clear hA
      refine (CC.out.2.1 u.nm _ (HM.out.no (F1.out.none (HF.out.none hfa)))).mono ?_
      rw [HSC.out]
      rintro e w2 ⟨rfl, hf2⟩
      have F2 : Aside0 (Fr No w1 w2) := ⟨HF.out.none (hfa.none hf2)⟩
      have UA := Aside0.mk (hf2.heap hua id)
      have d0 : w2.cell? ⟨wr.heap.size, 0, none⟩ = some (.string (bstr u.nm)) := by rw [blk_cell UA.out]; rfl
      have c0 : w2.cell? ⟨w.heap.size, 0, none⟩ = some (.string (bstr m.nm)) := F2.out.cell (v := .string (bstr m.nm)) (by rw [blk_cell B0.out]; rfl) id
      clear hf2 hfa hua k0 k1
      dsimp only [Option.getD_some, Option.isSome_some]
      by_cases hs2 : s.length ≤ 200
      · have hsI : ¬ (200 : Int) < (s.length : Int) := by omega
        go_wp2_with (refine ldG (.tmp 4) 69 _ _ rfl rfl (HL.out.2 _ F2.out) (by first | rfl | (go_simp; done)) ?_)
        refine (CC.out.2.2 s _ (by omega) (by omega)).mono ?_
        rintro e w3 ⟨rfl, hf3⟩
        have hsb : ∀ s', sec m.us u.nm = some s' → s'.length ≤ 100000 := fun s' h => by rw [HSC.out] at h; injection h with h; subst h; omega
        obtain ⟨t, ht⟩ : ∃ t, mac s (n ++ m.nm) = t := ⟨_, rfl⟩
        have htl : t.length = 32 := by rw [← ht]; exact mac_length _ _
        have hco := check_own m.us m.nm u.nm n s HSC.out
        rw [ht] at hco ⊢
        have HT := Aside0.mk ht; have HTL := Aside0.mk htl
        have hst : (t.map vu8).toArray.size = 32 := by simp [htl]
        have HST := Aside0.mk hst
        have hfa : Fr No w2 (w3.alloc (.cells (t.map vu8).toArray 34)) := hf3.alloc _
        have T3 : Aside0 (Bd (w3.alloc (.cells (t.map vu8).toArray 34)) w3.heap.size 34 t) := ⟨bd_new w3 _ _ rfl _⟩
        have LT := ld_all (P := Try.prog) (ty := 34) T3.out Try.underlying34 rfl (by rw [hst]; kernel_rfl)
        have F4 : Aside0 (Fr No w1 (w3.alloc (.cells (t.map vu8).toArray 34))) := ⟨F2.out.none hfa⟩
        have UB := Aside0.mk (hfa.heap UA.out id)
        have d1 : (w3.alloc (.cells (t.map vu8).toArray 34)).cell? ⟨wr.heap.size, 0, none⟩ = some (.string (bstr u.nm)) := by rw [blk_cell UB.out]; rfl
        have hlt3 : w1.heap.size ≤ w3.heap.size := Nat.le_trans F2.out.size hf3.size
        have hlu3 : wr.heap.size < w3.heap.size := Nat.lt_of_lt_of_le (blk_lt UA.out) hf3.size
        clear hf3 hfa d0 c0 ht htl hst
        go_wp2_with (first
          | (refine PB.stRow (.tmp 11) (.tmp 52) 34 w3.heap.size 34 _ (t.map vu8).toArray rfl rfl rfl rfl (heap_alloc_new w3 _) (by rw [HST.out]; kernel_rfl) (by rw [HST.out]; rfl) (by rw [Array.all_eq_true]; intro i hi; simp [Value.oneCell']) ?_; rw [World.setRow_alloc_new])
          | (refine ldG (.tmp 3) 75 _ _ rfl rfl (HL.out.1 _ F4.out) (by first | rfl | (go_simp; done)) ?_)
          | (refine ldG (.tmp 4) 69 _ _ rfl rfl (HL.out.2 _ F4.out) (by first | rfl | (go_simp; done)) ?_)
          | (refine ldG (.tmp 11) 34 _ _ rfl rfl (LT _ (Fr.refl _ _)) (by first | rfl | (go_simp; done)) ?_))
        refine (CC.out.1 u.nm t _ HTL.out (HM.out.no (F1.out.none F4.out)) (by omega) hsb).mono ?_
        rintro e w5 ⟨rfl, hf5⟩
        rw [hco]
        have F5 : Aside0 (Fr No w1 w5) := ⟨F4.out.none hf5⟩
        have T5 : Aside0 (Bd w5 w3.heap.size 34 t) := ⟨T3.out.no hf5⟩
        have UC := Aside0.mk (hf5.heap UB.out id)
        generalize w3.heap.size = g3 at T5 hlt3 hlu3 ⊢
        clear d1 hf5 LT T3 F4 UB
        by_cases hk : 0 ≤ k ∧ k < 32
        · obtain ⟨i, rfl⟩ := Int.eq_ofNat_of_zero_le hk.1
          have hi : i < 32 := by omega
          have hkI1 : (0 : Int) ≤ (i : Int) := by omega
          have hkI2 : (i : Int) < 32 := by omega
          obtain ⟨x, hx⟩ : ∃ x, t.getD i 0 = x := ⟨_, rfl⟩
          have hc := T5.out.cell i (by rw [HTL.out]; exact hi)
          have hfz := T5.out.frozen i
          rw [hx] at hc
          have hxr := xor_u8 x 1
          rw [show ((1 : UInt8).toNat : Int) = 1 from rfl] at hxr
          have hne := set_ne t i (by rw [HTL.out]; exact hi)
          rw [hx] at hne
          obtain ⟨z, hz⟩ : ∃ z, x ^^^ 1 = z := ⟨_, rfl⟩
          rw [hz] at hne hxr
          obtain ⟨t2, ht2⟩ : ∃ t2, t.set i z = t2 := ⟨_, rfl⟩
          have ht2l : t2.length = 32 := by rw [← ht2, List.length_set, HTL.out]
          rw [ht2] at hne
          have hce := check_else m.us m.nm u.nm n s t2 HSC.out (by rw [HT.out]; exact hne)
          have HT2L := Aside0.mk ht2l
          have hs2' : (t2.map vu8).toArray.size = 32 := by simp [ht2l]
          have T6 : Bd (w5.setCell ⟨g3, i, Option.none⟩ (vu8 z)) g3 34 t2 := by rw [← ht2]; exact T5.out.set i z
          have LT := ld_all (P := Try.prog) (ty := 34) T6 Try.underlying34 rfl (by rw [hs2']; kernel_rfl)
          have F6 : Aside0 (Fr No w1 (w5.setCell ⟨g3, i, Option.none⟩ (vu8 z))) := ⟨F5.out.setCell (p := ⟨g3, i, Option.none⟩) (.inr hlt3) _⟩
          have d6 : (w5.setCell ⟨g3, i, Option.none⟩ (vu8 z)).cell? ⟨wr.heap.size, 0, none⟩ = some (.string (bstr u.nm)) := by
            refine (fr_one_set w5 g3 i _).cell (v := .string (bstr u.nm)) (by rw [blk_cell UC.out]; rfl) (fun e => ?_)
            have e' : wr.heap.size = g3 := e
            omega
          clear hx hz ht2 ht2l hs2' hne T6
          go_wp2_with (first
            | (refine ldG (.tmp 3) 75 _ _ rfl rfl (HL.out.1 _ F6.out) (by first | rfl | (go_simp; done)) ?_)
            | (refine ldG (.tmp 4) 69 _ _ rfl rfl (HL.out.2 _ F6.out) (by first | rfl | (go_simp; done)) ?_)
            | (refine ldG (.tmp 11) 34 _ _ rfl rfl (LT _ (Fr.refl _ _)) (by first | rfl | (go_simp; done)) ?_))
          refine (CC.out.1 u.nm t2 _ HT2L.out (HM.out.no (F1.out.none F6.out)) (by omega) hsb).mono ?_
          rintro e w7 ⟨rfl, hf7⟩
          rw [hce]
          have F7 : Aside0 (Fr No w1 w7) := ⟨F6.out.none hf7⟩
          clear hf7 d6 LT hc hfz
          go_wp2
          go_roundw
          case rel => exact ⟨j + 1, by go_num, by omega, F7⟩
          case measure => simp [intOf]; omega
        · by_cases hk0 : 0 ≤ k
          · have hk1 : ¬ k < 32 := fun h => hk ⟨hk0, h⟩
            go_wp2
            go_roundw
            case rel => exact ⟨j + 1, by go_num, by omega, F5⟩
            case measure => simp [intOf]; omega
          · go_wp2
            go_roundw
            case rel => exact ⟨j + 1, by go_num, by omega, F5⟩
            case measure => simp [intOf]; omega
      · have hsI : (200 : Int) < (s.length : Int) := by omega
        go_wp2
        go_ret
        exact ⟨rfl, F1.out.none F2.out⟩
    · have hjI : ¬ (j : Int) < (m.us.length : Int) := by omega
      go_wp2
      go_ret
      exact ⟨rfl, F1.out.none HF.out⟩
end Go.Proofs.Ytdicjcpcohclaaa.LAuthOwn
