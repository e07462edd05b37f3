/- The answer to a nonce, the check of an answer: the program's. -/
import Derived.Test.YtdicjcpcohclaaaShaM
import Derived.Test.YtdicjcpcohclaaaOz
import Derived.Test.YtdicjcpcohclaaaConf
import Derived.Test.YtdicjcpcohclaaaLd
set_option linter.unusedVariables false
set_option linter.unusedSimpArgs false
namespace Go.Proofs.Ytdicjcpcohclaaa.Auth
open Go.RowKit Go.Proofs.YtdicjcpcohclaaaW.PrintWords Go.Proofs.Ytdicjcpcohclaaa.B Go.Proofs.Ytdicjcpcohclaaa.PB Go.Proofs.Ytdicjcpcohclaaa.Sha

theorem mac_length (k m : List UInt8) : (mac k m).length = 32 := sha_length _
theorem data_bstr0 (s : List UInt8) : (bstr s).data.toList = s := rfl
set_option maxHeartbeats 4000000 in
set_option maxRecDepth 100000 in
theorem answer_calls (s mn n : List UInt8) (w : World) (hs : s.length ≤ 100000) (hm : mn.length ≤ 100000) (hn : n.length = 16) : Calls Try.prog 42 #[.string (bstr s), .string (bstr mn), Arr.av n] w fun e w' => e = .returned (Arr.av (mac s (n ++ mn))) ∧ Fr No w w' := by
  have HN := Aside0.mk hn
  have hsz1 : (bstr s).size ≤ maxLen := by rw [bstr_size]; simp only [maxLen]; omega
  have hsz2 : (bstr mn).size ≤ maxLen := by rw [bstr_size]; simp only [maxLen]; omega
  have HS1 := Aside0.mk hsz1; have HS2 := Aside0.mk hsz2
  clear hsz1 hsz2 hn
  unfold Arr.av
  obtain ⟨vn, hvn⟩ : ∃ vn, (n.map vu8).toArray = vn := ⟨_, rfl⟩
  have HVN := Aside0.mk hvn
  rw [hvn]
  clear hvn
  go_enter Try.func42, Try.ntmps42
  go_wp2_with (first
    | (refine lsBytes (.tmp 7) (bstr s) rfl rfl rfl HS1.out ?_; intro v1 w1 hz1 hf1 hb1; rw [data_bstr0] at hz1; obtain ⟨A1, c1, rfl, hc1⟩ := hz1.form; have HZ1 := Aside0.mk hz1; have HF1 := Aside0.mk hf1; have HB1 := Aside0.mk hb1; clear hz1 hf1 hb1)
    | (refine lsBytes (.tmp 10) (bstr mn) rfl rfl rfl HS2.out ?_; intro v2 w2 hz2 hf2 hb2; rw [data_bstr0] at hz2; obtain ⟨A2, c2, rfl, hc2⟩ := hz2.form; have HZ2 := Aside0.mk hz2; have HF2 := Aside0.mk hf2; have HB2 := Aside0.mk hb2; clear hz2 hf2 hb2))
  have B0 : Bd w1 w.heap.size 69 n := by
    have h : Bd (w.alloc (.cells vn 69)) w.heap.size 69 n := by rw [← HVN.out]; exact bd_new w _ 69 rfl n
    exact (h.alloc _).no HF1.out
  have B2 := Aside0.mk (B0.no HF2.out)
  have Z1 : Bd w1 (w.heap.size + 1) 34 (List.replicate 32 0) := (bd_new (w.alloc (.cells vn 69)) _ _ (by simp) (List.replicate 32 0)).no HF1.out
  have Z2 := Aside0.mk (Z1.no HF2.out)
  have F2 : Aside0 (Fr No w w2) := ⟨(((Fr.refl _ _).alloc _).alloc _).none (HF1.out.none HF2.out)⟩
  have RN : RdB w2 (.slice (some ⟨w.heap.size, 0, none⟩) 16 16) n := by
    have h := B2.out.rd 0 16 16 (by rw [HN.out]; omega) (by omega) (by simp [maxLen])
    rw [List.drop_zero, List.take_of_length_le (by rw [HN.out]; omega)] at h
    exact h
  have RK := HZ1.out.rd.no HF2.out
  have RV := rdV_two' w2 _ rfl _ _ _ _ _ _ n mn RN HZ2.out.rd 23
  refine (mac_calls _ _ s [n, mn] _ (RK.no ((Fr.refl _ _).alloc _)) RV hs (by simp [HN.out]; omega) (by simp)).mono ?_
  rintro e w3 ⟨rfl, hf3⟩
  have hfa : Fr No w2 w3 := ((Fr.refl _ _).alloc _).none hf3
  have F3 := Aside0.mk (F2.out.none hfa)
  have Z3 := Aside0.mk (Z2.out.no hfa)
  have he : mac s [n, mn].flatten = mac s (n ++ mn) := by simp
  rw [he]
  have hml : ((mac s (n ++ mn)).map vu8).toArray.size = 32 := by simp [mac_length]
  have HML := Aside0.mk hml
  clear hf3 hfa RN RK RV he hml B0 B2 Z1
  go_wp2_with (refine PB.stRow (.tmp 6) (.tmp 13) 34 (w.heap.size + 1) 34 _ ((mac s (n ++ mn)).map vu8).toArray rfl rfl rfl rfl Z3.out (by rw [HML.out]; kernel_rfl) (by rw [HML.out]; rfl) (by rw [Array.all_eq_true]; intro i hi; simp [Value.oneCell']) ?_)
  refine bodyPost_ret (results_cell_row (P := Try.prog) (fn := Try.f42) (p := 6) (ty := 34) rfl _ _ (w.heap.size + 1) 34 ((mac s (n ++ mn)).map vu8).toArray (0, 0) _ rfl (setRow_heap _ _ _ _ _ _ Z3.out) Try.underlying34 rfl (by rw [HML.out]; kernel_rfl)) rfl ⟨rfl, fr_setRow F3.out (.inr (by omega)) _⟩

theorem or_u8 (x y : UInt8) : bits .or .u8 (x.toNat : Int) (y.toNat : Int) = ((x ||| y).toNat : Int) := by
  have h := (bits_nat3 .u8 8 (by decide) (fun n h0 h1 => by rw [IntKind.wrap_u8]; omega) x.toNat y.toNat x.toNat_lt y.toNat_lt).2.1
  rw [h, UInt8.toNat_or]
theorem or_zero (x y : UInt8) : x ||| y = 0 ↔ x = 0 ∧ y = 0 := by
  rw [← UInt8.toBitVec_inj, ← UInt8.toBitVec_inj, ← UInt8.toBitVec_inj]
  simp
theorem xor_zero (x y : UInt8) : x ^^^ y = 0 ↔ x = y := UInt8.xor_eq_zero_iff
/-- The check's number. -/
def checkP (us : List US) (mn user n a : List UInt8) : Int := match sec us user with
  | none => 140
  | some s => if mac s (n ++ mn) = a then 0 else 140
theorem take_eq_step (x y : List UInt8) (i : Nat) (hx : i < x.length) (hy : i < y.length) : x.take (i + 1) = y.take (i + 1) ↔ x.take i = y.take i ∧ x.getD i 0 = y.getD i 0 := by
  rw [List.take_succ_eq_append_getElem hx, List.take_succ_eq_append_getElem hy]
  have hl : (x.take i).length = (y.take i).length := by simp; omega
  constructor
  · intro h
    obtain ⟨h1, h2⟩ := List.append_inj h hl
    exact ⟨h1, by simpa [List.getD, hx, hy] using h2⟩
  · rintro ⟨h1, h2⟩
    have h3 : x[i] = y[i] := by simpa [List.getD, hx, hy] using h2
    rw [h1, h3]
set_option maxHeartbeats 4000000 in
set_option maxRecDepth 100000 in
theorem check_calls (m : MD) (user n a : List UInt8) (w : World) (hm : m.ok w) (hn : n.length = 16) (ha : a.length = 32) (hmn : m.nm.length ≤ 100000) (hs : ∀ s, sec m.us user = some s → s.length ≤ 100000) :
    Calls Try.prog 44 #[m.v, .string (bstr user), Arr.av n, Arr.av a] w fun e w' => e = .returned (.int .i64 (checkP m.us m.nm user n a)) ∧ Fr No w w' := by
  have HN := Aside0.mk hn; have HA := Aside0.mk ha; have HM := Aside0.mk hm
  have AC := fun s hs W => answer_calls s m.nm n W hs hmn hn
  have SC := fun W h => secret_calls m user W h
  clear hn ha hm
  obtain ⟨R, hR⟩ : ∃ R, checkP m.us m.nm user n a = R := ⟨_, rfl⟩
  rw [hR]
  have HR := Aside0.mk hR
  clear hR
  unfold Arr.av at AC ⊢
  unfold MD.v at SC ⊢
  obtain ⟨vn, hvn⟩ : ∃ vn, (n.map vu8).toArray = vn := ⟨_, rfl⟩
  obtain ⟨va, hva⟩ : ∃ va, (a.map vu8).toArray = va := ⟨_, rfl⟩
  obtain ⟨mv, hmv⟩ : ∃ mv, m.cells.toArray = mv := ⟨_, rfl⟩
  have HVN := Aside0.mk hvn; have HVA := Aside0.mk hva; have HMV := Aside0.mk hmv
  rw [hva]
  simp only [hvn] at AC ⊢
  simp only [hmv] at SC ⊢
  have sn : Aside0 (vn.size = 16) := ⟨by rw [← HVN.out]; simp [HN.out]⟩
  have sa : Aside0 (va.size = 32) := ⟨by rw [← HVA.out]; simp [HA.out]⟩
  have sm : Aside0 (mv.size = 6) := ⟨by rw [← HMV.out]; rfl⟩
  clear hvn hva hmv
  go_enter Try.func44, Try.ntmps44
  go_wp2_with (refine wpList_load_row rfl 75 (.tmp 4) rfl w.heap.size rfl 75 mv (0, 0) _ (blk_alloc (blk_alloc (heap_alloc_new w _) _) _) Try.underlying75 rfl (by rw [sm.out]; kernel_rfl) ?_)
  have F0 : Fr No w (((w.alloc (.cells mv 75)).alloc (.cells vn 69)).alloc (.cells va 34)) := (((Fr.refl _ _).alloc _).alloc _).alloc _
  have M0 : (((w.alloc (.cells mv 75)).alloc (.cells vn 69)).alloc (.cells va 34)).heap[w.heap.size]? = some (.cells mv 75 (0, 0)) := blk_alloc (blk_alloc (heap_alloc_new w _) _) _
  have N0 : (((w.alloc (.cells mv 75)).alloc (.cells vn 69)).alloc (.cells va 34)).heap[w.heap.size + 1]? = some (.cells vn 69 (0, 0)) := blk_alloc (heap_alloc2_new w _ _) _
  have A0 : (((w.alloc (.cells mv 75)).alloc (.cells vn 69)).alloc (.cells va 34)).heap[w.heap.size + 1 + 1]? = some (.cells va 34 (0, 0)) := by
    have h := heap_alloc_new ((w.alloc (.cells mv 75)).alloc (.cells vn 69)) (.cells va 34)
    simpa using h
  refine (SC _ (HM.out.no F0)).mono ?_
  rintro e w1 ⟨rfl, hf1⟩
  have M1 := Aside0.mk (hf1.heap M0 id); have N1 := Aside0.mk (hf1.heap N0 id); have A1 := Aside0.mk (hf1.heap A0 id)
  have F1 := Aside0.mk (F0.none hf1)
  clear F0 M0 N0 A0 hf1
  cases hsec : sec m.us user with
  | none =>
    go_wp2
    go_ret
    exact ⟨by rw [← HR.out, checkP, hsec]; rfl, F1.out⟩
  | some s =>
    have hsl := hs s hsec
    have cn : w1.cell? ⟨w.heap.size, 0, none⟩ = some (.string (bstr m.nm)) := by rw [blk_cell M1.out, ← HMV.out]; rfl
    dsimp only [Option.getD_some, Option.isSome_some]
    go_wp2_with (refine wpList_load_row rfl 69 (.tmp 6) rfl (w.heap.size + 1) rfl 69 vn (0, 0) _ N1.out Try.underlying69 rfl (by rw [sn.out]; kernel_rfl) ?_)
    refine (AC s hsl _).mono ?_
    rintro e w2 ⟨rfl, hf2⟩
    obtain ⟨t, ht⟩ : ∃ t, mac s (n ++ m.nm) = t := ⟨_, rfl⟩
    have HT := Aside0.mk ht
    rw [ht]
    have htl : t.length = 32 := by rw [← ht]; exact mac_length _ _
    have HTL := Aside0.mk htl
    have A2 : Aside0 (Bd (w2.alloc (.cells (t.map vu8).toArray 34)) (w.heap.size + 1 + 1) 34 a) := ⟨by
      have h := hf2.heap A1.out id
      rw [← HVA.out] at h
      exact blk_alloc h _⟩
    have F2 : Aside0 (Fr No w (w2.alloc (.cells (t.map vu8).toArray 34))) := ⟨(F1.out.none hf2).alloc _⟩
    have T2 : Aside0 (Bd (w2.alloc (.cells (t.map vu8).toArray 34)) w2.heap.size 34 t) := ⟨bd_new w2 _ _ rfl _⟩
    clear ht htl hf2 M1 N1 A1
    go_wp2_with (first
      | (refine PB.stRow (.tmp 11) (.tmp 27) 34 w2.heap.size 34 _ (t.map vu8).toArray rfl rfl rfl rfl (heap_alloc_new w2 _) (by rw [show (t.map vu8).toArray.size = 32 by simp [HTL.out]]; kernel_rfl) (by simp [HTL.out]) (by rw [Array.all_eq_true]; intro i hi; simp [Value.oneCell']) ?_; rw [World.setRow_alloc_new])
      | (refine wpList_load_row rfl 34 (.tmp 11) rfl w2.heap.size rfl 34 (t.map vu8).toArray (0, 0) _ T2.out Try.underlying34 rfl (by rw [show (t.map vu8).toArray.size = 32 by simp [HTL.out]]; kernel_rfl) ?_))
    generalize w2.alloc (.cells (t.map vu8).toArray 34) = w3 at A2 F2 T2 ⊢
    generalize w2.heap.size = g2 at T2 ⊢
    have FZ := F2
    go_loopw [12, 29] (fun v12 v29 wr => ∃ (i : Nat) (d : UInt8), v29 = .int .i64 i ∧ i ≤ 32 ∧ v12 = .int .u8 (d.toNat : Int) ∧ Aside0 (d = 0 ↔ t.take i = a.take i) ∧ wr = w3) (fun _ v29 _ => 32 - (intOf v29).toNat)
    case atStart => exact ⟨0, 0, rfl, by omega, rfl, ⟨by simp⟩, rfl⟩
    case round =>
      obtain ⟨i, d, rfl, hi, rfl, HD, rfl⟩ := hrel
      by_cases hi32 : i < 32
      · have hI : (i : Int) < 32 := by omega
        have htl := HTL.out
        have hal := HA.out
        obtain ⟨x, hx⟩ : ∃ x, t.getD i 0 = x := ⟨_, rfl⟩
        obtain ⟨y, hy⟩ : ∃ y, a.getD i 0 = y := ⟨_, rfl⟩
        have hix : (t.map vu8).toArray[i]? = some (vu8 x) := by rw [← hx]; simp [List.getD, show i < t.length by omega]
        have hidx := fun W => Arr.run_index Try.underlying34 (by kernel_rfl) (by kernel_rfl) (t.map vu8).toArray i (vu8 x) hi32 hix W
        have hc := A2.out.cell i (by omega)
        rw [hy] at hc
        have hxr := xor_u8 x y
        obtain ⟨z, hz⟩ : ∃ z, x ^^^ y = z := ⟨_, rfl⟩
        rw [hz] at hxr
        obtain ⟨d2, hd2⟩ : ∃ d2, d ||| z = d2 := ⟨_, rfl⟩
        have hor := or_u8 d z
        rw [hd2] at hor
        have HZ := Aside0.mk hz; have HD2 := Aside0.mk hd2
        clear hz hd2
        have HTE := Aside0.mk (take_eq_step t a i (by omega) (by omega))
        rw [hx, hy] at HTE
        clear htl hal hx hy hix
        go_wp2
        go_roundw
        case rel => exact ⟨i + 1, d2, by go_num, by omega, rfl, ⟨by rw [← HD2.out, or_zero, ← HZ.out, xor_zero, HTE.out, HD.out]⟩, trivial⟩
        case measure => simp [intOf]; omega
      · have hI : ¬ (i : Int) < 32 := by omega
        obtain rfl : i = 32 := by omega
        have hd := HD.out
        rw [List.take_of_length_le (by rw [HTL.out]; omega), List.take_of_length_le (by rw [HA.out]; omega)] at hd
        by_cases h0 : d = 0
        · have h1 := hd.1 h0
          subst h0
          have e1 : Aside0 (R = 0) := ⟨by rw [← HR.out, checkP, hsec]; dsimp only; rw [if_pos (by rw [HT.out]; exact h1)]⟩
          clear h1 hd
          go_wp2
          go_ret
          exact ⟨by rw [e1.out]; rfl, F2.out⟩
        · have h1 : ¬ t = a := fun h => h0 (hd.2 h)
          have e1 : Aside0 (R = 140) := ⟨by rw [← HR.out, checkP, hsec]; dsimp only; rw [if_neg (by rw [HT.out]; exact h1)]⟩
          have hne : ((d.toNat : Int) != 0) = true := by
            have : d.toNat ≠ 0 := fun h => h0 (by rw [← UInt8.toNat_inj, h]; rfl)
            rw [bne_iff_ne]
            omega
          clear h1 hd
          go_wp2
          go_ret
          exact ⟨by rw [e1.out]; rfl, F2.out⟩
end Go.Proofs.Ytdicjcpcohclaaa.Auth
