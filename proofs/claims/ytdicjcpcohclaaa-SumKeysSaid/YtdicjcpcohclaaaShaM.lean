/- The program's sum with a key. -/
import Derived.Test.YtdicjcpcohclaaaShaC
set_option linter.unusedVariables false
set_option linter.unusedSimpArgs false
namespace Go.Proofs.Ytdicjcpcohclaaa.Sha
open Go.RowKit Go.Proofs.YtdicjcpcohclaaaW.PrintWords Go.Proofs.Ytdicjcpcohclaaa.B Go.Proofs.Ytdicjcpcohclaaa.PB

def pad64 (k : List UInt8) : List UInt8 := k ++ List.replicate (64 - k.length) 0
def keyOf (k : List UInt8) : List UInt8 := if 64 < k.length then sha k else k
def xorAll (x : UInt8) (k : List UInt8) : List UInt8 := k.map (· ^^^ x)
def mac (k m : List UInt8) : List UInt8 := sha (xorAll 92 (pad64 (keyOf k)) ++ sha (xorAll 54 (pad64 (keyOf k)) ++ m))
theorem keyOf_le (k : List UInt8) : (keyOf k).length ≤ 64 := by
  unfold keyOf
  split
  · rw [sha_length]; omega
  · omega
theorem pad64_length (k : List UInt8) (h : k.length ≤ 64) : (pad64 k).length = 64 := by simp [pad64]; omega
theorem xor_u8 (x y : UInt8) : bits .xor .u8 (x.toNat : Int) (y.toNat : Int) = ((x ^^^ y).toNat : Int) := by
  have h := (bits_nat3 .u8 8 (by decide) (fun n h0 h1 => by rw [IntKind.wrap_u8]; omega) x.toNat y.toNat x.toNat_lt y.toNat_lt).2.2
  rw [h, UInt8.toNat_xor]
theorem info23 : (Try.prog.info? 23).map (fun i => (i.zero, i.size, i.bytes)) = some (some (.slice none 0 0), 1, 24) := by kernel_rfl
/-- Where the two rows stand when i bytes have been turned. -/
def half (x : UInt8) (k : List UInt8) (i : Nat) : List UInt8 := xorAll x (k.take i) ++ k.drop i
theorem half_length (x : UInt8) (k : List UInt8) (i : Nat) : (half x k i).length = k.length := by simp [half, xorAll]; omega
theorem half_get (x : UInt8) (k : List UInt8) (i : Nat) (hi : i < k.length) : (half x k i).getD i 0 = k.getD i 0 := by
  have hl : (xorAll x (k.take i)).length = i := by simp [xorAll]; omega
  simp only [half, List.getD]
  rw [List.getElem?_append_right (by omega), hl, Nat.sub_self, List.getElem?_drop, Nat.add_zero]
theorem half_step (x : UInt8) (k : List UInt8) (i : Nat) (hi : i < k.length) : (half x k i).set i (k.getD i 0 ^^^ x) = half x k (i + 1) := by
  have hl : (xorAll x (k.take i)).length = i := by simp [xorAll]; omega
  simp only [half]
  rw [List.set_append_right _ _ (by omega), hl, Nat.sub_self, List.take_succ_eq_append_getElem hi, List.drop_eq_getElem_cons hi, List.set_cons_zero]
  rw [show xorAll x (List.take i k ++ [k[i]]) = xorAll x (List.take i k) ++ [k[i] ^^^ x] by unfold xorAll; rw [List.map_append]; rfl]
  simp only [List.getD, List.getElem?_eq_getElem hi, Option.getD_some, List.append_assoc, List.singleton_append]
theorem half_zero (x : UInt8) (k : List UInt8) : half x k 0 = k := by simp [half, xorAll]
theorem half_end (x : UInt8) (k : List UInt8) (n : Nat) (h : k.length ≤ n) : half x k n = xorAll x k := by simp [half, List.take_of_length_le h, List.drop_of_length_le h]
set_option maxHeartbeats 8000000 in
set_option maxRecDepth 100000 in
theorem mac_calls (vk vp : Value) (key : List UInt8) (ps : List (List UInt8)) (w : World) (hk : RdB w vk key) (hp : RdV w vp ps) (hn : key.length ≤ 100000) (hm : ps.flatten.length ≤ 1000000) (hpn : ps.length ≤ 1000000) : Calls Try.prog 39 #[vk, vp] w fun e w' => e = .returned (Arr.av (mac key ps.flatten)) ∧ Fr No w w' := by
  obtain ⟨A, c, rfl, hkc, hkm, _⟩ := id hk
  obtain ⟨Ap, cp, rfl, hpc⟩ := hp.form
  have HK := Aside0.mk hk; have HP := Aside0.mk hp
  clear hk hp
  obtain ⟨k1, hk1⟩ : ∃ k1, keyOf key = k1 := ⟨_, rfl⟩
  have HK1 := Aside0.mk hk1
  have hk1l : k1.length ≤ 64 := by rw [← hk1]; exact keyOf_le key
  by_cases h64 : 64 < key.length
  case' pos =>
    have hI : (64 : Int) < (key.length : Int) := by omega
    go_enter Try.func39, Try.ntmps39
    go_wp2_with fail
    refine (of_calls _ [key] _ (rdV_one' _ _ (by simp) A _ c key (HK.out.no ((((Fr.refl _ _).alloc _).alloc _).alloc _)) _) (by simp; omega)).mono ?_
    rintro e w3 ⟨rfl, hF3⟩
    have hk2 : sha [key].flatten = k1 := by rw [← hk1, keyOf, if_pos h64]; simp
    rw [hk2]
    have B4 : Bd w3 w.heap.size 34 (List.replicate 32 0) := ((((bd_new w _ _ rfl (List.replicate 32 0)).alloc _).alloc _).alloc _).no hF3
    have B5 : Bd w3 (w.heap.size + 1) 113 (List.replicate 64 0) := (((bd_new (w.alloc _) _ _ (by simp) (List.replicate 64 0)).alloc _).alloc _).no hF3
    have B6 : Bd w3 (w.heap.size + 1 + 1) 113 (List.replicate 64 0) := ((bd_new ((w.alloc _).alloc _) _ _ (by simp) (List.replicate 64 0)).alloc _).no hF3
    have F3 : Fr No w w3 := (((((Fr.refl _ _).alloc _).alloc _).alloc _).alloc _).none hF3
    have hk32 : k1.length = 32 := by rw [← hk2]; exact sha_length _
    have C4 := Aside0.mk (B4.alloc (.cells (k1.map vu8).toArray 34)); have C5 := Aside0.mk (B5.alloc (.cells (k1.map vu8).toArray 34)); have C6 := Aside0.mk (B6.alloc (.cells (k1.map vu8).toArray 34))
    have FZ := Aside0.mk (F3.alloc (.cells (k1.map vu8).toArray 34))
    have R7 : RdB (w3.alloc (.cells (k1.map vu8).toArray 34)) (.slice (some ⟨w3.heap.size, 0, none⟩) 32 32) k1 := by
      have h := Bd.rd (bd_new w3 _ 34 rfl k1) 0 32 32 (by omega) (by omega) (by simp [maxLen])
      rw [List.drop_zero, List.take_of_length_le (by omega)] at h
      exact h
    have RK := Aside0.mk R7
    have H32 := Aside0.mk hk32
    clear B4 B5 B6 F3 hF3 R7 hk2 hk1 hk32
    go_upto_region 5 with (refine PB.stRow (.tmp 7) (.tmp 15) 34 w3.heap.size 34 _ (k1.map vu8).toArray rfl rfl rfl rfl (heap_alloc_new w3 _) (by rw [show (k1.map vu8).toArray.size = 32 by simp [H32.out]]; kernel_rfl) (by simp [H32.out]) (by rw [Array.all_eq_true]; intro i hi; simp [Value.oneCell']) ?_)
    rw [World.setRow_alloc_new]
    generalize Value.slice (some ⟨w3.heap.size, 0, Option.none⟩) 32 32 = kv at RK ⊢
    generalize w3.alloc (.cells (k1.map vu8).toArray 34) = wz at C4 C5 C6 FZ RK ⊢
    clear H32 h64 hI
  case' neg =>
    have hI : ¬ (64 : Int) < (key.length : Int) := by omega
    have hkk : key = k1 := by rw [← hk1, keyOf, if_neg h64]
    have HKK := Aside0.mk hkk
    clear hkk hk1
    go_enter Try.func39, Try.ntmps39
    go_upto_region 5 with (fail)
    have B4 : Bd _ w.heap.size 34 (List.replicate 32 0) := ((bd_new w _ _ rfl (List.replicate 32 0)).alloc (.cells ((List.replicate 64 (0 : UInt8)).map vu8).toArray 113)).alloc (.cells ((List.replicate 64 (0 : UInt8)).map vu8).toArray 113)
    have B5 : Bd _ (w.heap.size + 1) 113 (List.replicate 64 0) := (bd_new (w.alloc (.cells ((List.replicate 32 (0 : UInt8)).map vu8).toArray 34)) _ _ (by simp) (List.replicate 64 0)).alloc (.cells ((List.replicate 64 (0 : UInt8)).map vu8).toArray 113)
    have B6 : Bd _ (w.heap.size + 1 + 1) 113 (List.replicate 64 0) := bd_new ((w.alloc (.cells ((List.replicate 32 (0 : UInt8)).map vu8).toArray 34)).alloc (.cells ((List.replicate 64 (0 : UInt8)).map vu8).toArray 113)) _ _ (by simp) (List.replicate 64 0)
    have F3 : Fr No w (((w.alloc (.cells ((List.replicate 32 (0 : UInt8)).map vu8).toArray 34)).alloc (.cells ((List.replicate 64 (0 : UInt8)).map vu8).toArray 113)).alloc (.cells ((List.replicate 64 (0 : UInt8)).map vu8).toArray 113)) := (((Fr.refl _ _).alloc _).alloc _).alloc _
    have R6 : RdB w (.slice A key.length c) k1 := by
      rw [← HKK.out]
      exact HK.out
    have R7 := R6.no F3
    have C4 := Aside0.mk B4; have C5 := Aside0.mk B5; have C6 := Aside0.mk B6; have FZ := Aside0.mk F3; have RK := Aside0.mk R7
    clear B4 B5 B6 F3 R6 R7
    change Code.wp _ _ _ _ (((w.alloc (.cells ((List.replicate 32 (0 : UInt8)).map vu8).toArray 34)).alloc (.cells ((List.replicate 64 (0 : UInt8)).map vu8).toArray 113)).alloc (.cells ((List.replicate 64 (0 : UInt8)).map vu8).toArray 113))
    generalize ((w.alloc (.cells ((List.replicate 32 (0 : UInt8)).map vu8).toArray 34)).alloc (.cells ((List.replicate 64 (0 : UInt8)).map vu8).toArray 113)).alloc (.cells ((List.replicate 64 (0 : UInt8)).map vu8).toArray 113) = wz at C4 C5 C6 FZ RK ⊢
    generalize Value.slice A key.length c = kv at RK ⊢
    clear h64 hI HKK
  all_goals
    obtain ⟨wc, hcr, hB5, hF5⟩ := copy_bd wz (w.heap.size + 1) 113 (List.replicate 64 0) C5.out 0 64 64 kv k1 RK.out k1.length (by omega) (by simp; omega) 3
    have hpad : List.take 0 (List.replicate 64 (0 : UInt8)) ++ List.take k1.length k1 ++ List.drop (0 + k1.length) (List.replicate 64 0) = pad64 k1 := by
      rw [pad64, List.take_zero, List.nil_append, Nat.zero_add, List.drop_replicate, List.take_length]
    rw [hpad] at hB5
    have D5 := Aside0.mk hB5
    have D4 : Aside0 (Bd wc w.heap.size 34 (List.replicate 32 0)) := ⟨C4.out.fr hF5 (fun e => by have e' : w.heap.size = w.heap.size + 1 := e; omega)⟩
    have D6 : Aside0 (Bd wc (w.heap.size + 1 + 1) 113 (List.replicate 64 0)) := ⟨C6.out.fr hF5 (fun e => by have e' : w.heap.size + 1 + 1 = w.heap.size + 1 := e; omega)⟩
    have FC : Aside0 (Fr No w wc) := ⟨FZ.out.trans hF5 (fun q hq e => by have e' : q = w.heap.size + 1 := e; omega)⟩
    have hpl : (pad64 k1).length = 64 := pad64_length k1 hk1l
    have HPL := Aside0.mk hpl
    clear hB5 hF5 hpad hpl C4 C5 C6 FZ RK
    go_wp2_with (first
      | (with_reducible refine lsCopyB (.tmp 17) (.tmp 18) _ _ _ wc rfl rfl rfl rfl hcr ?_)
      | (refine PB.ldRow (.tmp 5) 113 (w.heap.size + 1) 113 ((pad64 k1).map vu8).toArray (0, 0) _ rfl rfl rfl D5.out Try.underlying113 ⟨_, _, rfl⟩ (by rw [show ((pad64 k1).map vu8).toArray.size = 64 by simp [HPL.out]]; kernel_rfl) ?_)
      | (refine PB.stRow (.tmp 6) (.tmp 20) 113 (w.heap.size + 1 + 1) 113 _ ((pad64 k1).map vu8).toArray rfl rfl rfl rfl D6.out (by rw [show ((pad64 k1).map vu8).toArray.size = 64 by simp [HPL.out]]; kernel_rfl) (by simp [HPL.out]) (by rw [Array.all_eq_true]; intro i hi; simp [Value.oneCell']) ?_))
    obtain ⟨P, hP⟩ : ∃ P, pad64 k1 = P := ⟨_, rfl⟩
    rw [hP] at D5 HPL ⊢
    have HP1 := Aside0.mk hP
    have hset : Bd (wc.setRow (w.heap.size + 1 + 1) (P.map vu8).toArray) (w.heap.size + 1 + 1) 113 P := setRow_heap wc _ _ _ _ _ D6.out
    have E6 : Aside0 (Bd (wc.setRow (w.heap.size + 1 + 1) (P.map vu8).toArray) (w.heap.size + 1 + 1) 113 (half 92 P 0)) := ⟨by rw [half_zero]; exact hset⟩
    have hfs : Fr (one (w.heap.size + 1 + 1)) wc (wc.setRow (w.heap.size + 1 + 1) (P.map vu8).toArray) := fr_one_row _ _ _
    have E5 : Aside0 (Bd (wc.setRow (w.heap.size + 1 + 1) (P.map vu8).toArray) (w.heap.size + 1) 113 (half 54 P 0)) := ⟨by rw [half_zero]; exact D5.out.fr hfs (fun e => by have e' : w.heap.size + 1 = w.heap.size + 1 + 1 := e; omega)⟩
    have E4 : Aside0 (Bd (wc.setRow (w.heap.size + 1 + 1) (P.map vu8).toArray) w.heap.size 34 (List.replicate 32 0)) := ⟨D4.out.fr hfs (fun e => by have e' : w.heap.size = w.heap.size + 1 + 1 := e; omega)⟩
    have FE : Aside0 (Fr No w (wc.setRow (w.heap.size + 1 + 1) (P.map vu8).toArray)) := ⟨fr_setRow FC.out (.inr (by omega)) _⟩
    clear hP hset hfs D4 D5 D6 FC hcr
    generalize wc.setRow (w.heap.size + 1 + 1) (P.map vu8).toArray = we at E6 E5 E4 FE ⊢
    go_loopw [21] (fun v21 wr => ∃ i : Nat, v21 = .int .i64 i ∧ i ≤ 64 ∧ Aside0 (Bd wr (w.heap.size + 1) 113 (half 54 P i)) ∧ Aside0 (Bd wr (w.heap.size + 1 + 1) 113 (half 92 P i)) ∧ Aside0 (Bd wr w.heap.size 34 (List.replicate 32 0)) ∧ Aside0 (Fr No w wr)) (fun v21 _ => 64 - (intOf v21).toNat)
    case atStart => exact ⟨0, rfl, by omega, E5, E6, E4, FE⟩
    case round =>
      obtain ⟨i, rfl, hi, H5, H6, H4, HF⟩ := hrel
      clear E5 E6 E4 FE
      by_cases hi64 : i < 64
      · have hI : (i : Int) < 64 := by omega
        obtain ⟨x, hx⟩ : ∃ x, P.getD i 0 = x := ⟨_, rfl⟩
        have hpl := HPL.out
        have c5 := H5.out.cell i (by rw [half_length]; omega)
        have c6 := H6.out.cell i (by rw [half_length]; omega)
        rw [half_get _ _ _ (by omega), hx] at c5 c6
        have f5 := H5.out.frozen i
        have f6 := H6.out.frozen i
        have x54 := xor_u8 x 54
        have x92 := xor_u8 x 92
        rw [show ((54 : UInt8).toNat : Int) = 54 from rfl] at x54
        rw [show ((92 : UInt8).toNat : Int) = 92 from rfl] at x92
        have H5b : Bd (wr.setCell ⟨w.heap.size + 1, i, Option.none⟩ (vu8 (x ^^^ 54))) (w.heap.size + 1) 113 (half 54 P (i + 1)) := by
          have h := H5.out.set i (x ^^^ 54)
          rw [← hx, half_step _ _ _ (by omega), hx] at h
          exact h
        have fr5 : Fr (one (w.heap.size + 1)) wr (wr.setCell ⟨w.heap.size + 1, i, Option.none⟩ (vu8 (x ^^^ 54))) := fr_one_set _ _ _ _
        have H6a := H6.out.fr fr5 (fun e => by have e' : w.heap.size + 1 + 1 = w.heap.size + 1 := e; omega)
        have fr6 : Fr (one (w.heap.size + 1 + 1)) (wr.setCell ⟨w.heap.size + 1, i, Option.none⟩ (vu8 (x ^^^ 54))) ((wr.setCell ⟨w.heap.size + 1, i, Option.none⟩ (vu8 (x ^^^ 54))).setCell ⟨w.heap.size + 1 + 1, i, Option.none⟩ (vu8 (x ^^^ 92))) := fr_one_set _ _ _ _
        have H6b : Aside0 (Bd ((wr.setCell ⟨w.heap.size + 1, i, Option.none⟩ (vu8 (x ^^^ 54))).setCell ⟨w.heap.size + 1 + 1, i, Option.none⟩ (vu8 (x ^^^ 92))) (w.heap.size + 1 + 1) 113 (half 92 P (i + 1))) := ⟨by
          have h := H6a.set i (x ^^^ 92)
          rw [← hx, half_step _ _ _ (by omega), hx] at h
          exact h⟩
        have H5c := Aside0.mk (H5b.fr fr6 (fun e => by have e' : w.heap.size + 1 = w.heap.size + 1 + 1 := e; omega))
        have H4c := Aside0.mk ((H4.out.fr fr5 (fun e => by have e' : w.heap.size = w.heap.size + 1 := e; omega)).fr fr6 (fun e => by have e' : w.heap.size = w.heap.size + 1 + 1 := e; omega))
        have HFc := Aside0.mk ((HF.out.trans fr5 (fun q hq e => by have e' : q = w.heap.size + 1 := e; omega)).trans fr6 (fun q hq e => by have e' : q = w.heap.size + 1 + 1 := e; omega))
        clear hx hpl H5b fr5 H6a fr6 H5 H6 H4 HF
        go_wp2
        go_roundw
        case rel => exact ⟨i + 1, by go_num, by omega, H5c, H6b, H4c, HFc⟩
        case measure => simp [intOf]; omega
      · have hI : ¬ (i : Int) < 64 := by omega
        obtain rfl : i = 64 := by omega
        have hpl := HPL.out
        obtain ⟨I, hI1⟩ : ∃ I, xorAll 54 P = I := ⟨_, rfl⟩
        obtain ⟨O, hO1⟩ : ∃ O, xorAll 92 P = O := ⟨_, rfl⟩
        have hIl : I.length = 64 := by rw [← hI1]; simp [xorAll, hpl]
        have hOl : O.length = 64 := by rw [← hO1]; simp [xorAll, hpl]
        rw [half_end 54 P 64 (by omega), hI1] at H5
        rw [half_end 92 P 64 (by omega), hO1] at H6
        have HI1 := Aside0.mk hI1; have HO1 := Aside0.mk hO1; have HIL := Aside0.mk hIl; have HOL := Aside0.mk hOl
        clear hpl hI1 hO1 hIl hOl
        obtain ⟨wb, hwb⟩ : ∃ wb, wb = wr := ⟨_, rfl⟩
        subst hwb
        obtain ⟨ss, hs1, hs2, hs3⟩ := HP.out
        have fa : Fr No wb (wb.alloc (.cells #[.slice (some ⟨w.heap.size + 1, 0, Option.none⟩) 64 64] 23)) := (Fr.refl _ _).alloc _
        have HO : Ow vsl 23 (wb.alloc (.cells #[.slice (some ⟨w.heap.size + 1, 0, Option.none⟩) 64 64] 23)) (.slice (some ⟨wb.heap.size, 0, Option.none⟩) 1 1) [⟨some ⟨w.heap.size + 1, 0, Option.none⟩, 64, 64⟩] := ow_lit vsl 23 wb _ rfl [⟨some ⟨w.heap.size + 1, 0, Option.none⟩, 64, 64⟩] [.slice (some ⟨w.heap.size + 1, 0, Option.none⟩) 64 64] rfl (by simp [maxLen])
        have HY : Rd vsl (wb.alloc (.cells #[.slice (some ⟨w.heap.size + 1, 0, Option.none⟩) 64 64] 23)) (.slice Ap ps.length cp) ss := hs1.no (HF.out.none fa)
        have HO2 := Aside0.mk HO; have HY2 := Aside0.mk HY; have HS3 := Aside0.mk hs3; have HS2 := Aside0.mk hs2
        clear HO HY hs1 hs3 hs2
        go_wp2_with (first
          | (at_builtin; refine apN (f := vsl) rfl (.tmp 36) (.tmp 37) 30 23 (.slice Option.none 0 0) 24 rfl Try.underlying30 info23 rfl Nat.one_pos (by decide) (.slice (some ⟨wb.heap.size, 0, Option.none⟩) 1 1) [⟨some ⟨w.heap.size + 1, 0, Option.none⟩, 64, 64⟩] (.slice Ap ps.length cp) ss rfl rfl HO2.out HY2.out (by rw [HS2.out]; simp; omega) ?_; intro v1 w1 h1 h2 h3 h4))
        have fr1 : Fr No wb w1 := (fa.mono (fun _ _ h => h.elim)).trans h2 (fun q hq hb => by have h9 : wb.heap.size = q := Option.some.inj hb; omega)
        have HV : RdV w1 v1 (I :: ps) := by
          refine ⟨_, h1.rd, by simp [HS2.out], fun j s hs => ?_⟩
          rcases j with _ | j
          · obtain rfl : (⟨some ⟨w.heap.size + 1, 0, Option.none⟩, 64, 64⟩ : Sl) = s := by simpa using hs
            have h := (H5.out.no fr1).rd 0 64 64 (by rw [HIL.out]; omega) (by omega) (by simp [maxLen])
            rw [List.drop_zero, List.take_of_length_le (by rw [HIL.out]; omega)] at h
            exact h
          · exact (HS3.out j s (by simpa using hs)).no (HF.out.none fr1)
        refine (of_calls v1 (I :: ps) _ HV (by rw [List.flatten_cons, List.length_append, HIL.out]; omega)).mono ?_
        rintro e w2 ⟨rfl, hF2⟩
        obtain ⟨S, hS⟩ : ∃ S, sha (I :: ps).flatten = S := ⟨_, rfl⟩
        have hSl : S.length = 32 := by rw [← hS]; exact sha_length _
        rw [hS]
        have HS1 := Aside0.mk hS; have HSL := Aside0.mk hSl
        have G4 := Aside0.mk (((H4.out.no fr1).no hF2).alloc (.cells (S.map vu8).toArray 34))
        have G6 := Aside0.mk (((H6.out.no fr1).no hF2).alloc (.cells (S.map vu8).toArray 34))
        have G9 := Aside0.mk (bd_new w2 _ 34 rfl S)
        have FG := Aside0.mk (((HF.out.none fr1).none hF2).alloc (.cells (S.map vu8).toArray 34))
        have h9w : w.heap.size + 1 + 1 < w2.heap.size := ((H6.out.no fr1).no hF2).lt
        clear hS hSl HV fr1 h1 h2 h3 h4 fa HO2 HY2 H4 H5 H6 HF HS3 HS2 hF2
        go_wp2_with (refine PB.stRow (.tmp 9) (.tmp 39) 34 w2.heap.size 34 _ (S.map vu8).toArray rfl rfl rfl rfl (heap_alloc_new w2 _) (by rw [show (S.map vu8).toArray.size = 32 by simp [HSL.out]]; kernel_rfl) (by simp [HSL.out]) (by rw [Array.all_eq_true]; intro i hi; simp [Value.oneCell']) ?_)
        rw [World.setRow_alloc_new]
        generalize w2.alloc (.cells (S.map vu8).toArray 34) = wg at G4 G6 G9 FG ⊢
        generalize w2.heap.size = g9 at G9 h9w ⊢
        go_simp
        refine Rg.start (fun _ _ => True) (by kernel_rfl) (by kernel_rfl) [2, 3, 4] [[1, 0, 2], [1, 0, 2, 3], [1, 0, 2, 3, 4]] (by kernel_rfl) (.q 0 0 (.q 1 0 (.e 2 1 (.e 3 2 (.e 4 3 (.done)))))) (by kernel_rfl) ?_ ?_
        · exact fun _ => trivial
        repeat (first
          | (refine Rg.q (o := ?_) (v := ?_) ?_ ?_ ?_ ?_ ?_
             rotate_left 2
             · (simp only [List.getElem?_toArray, List.getElem?_cons_succ, List.getElem?_cons_zero]; rfl)
             · exact fun _ _ _ h => h
             · first | rfl | (go_simp; done)
             · (intro x_ hx; (try dsimp only at hx); (clear hx); go_simp; (try rw [if_neg (by omega)]); (try rw [if_pos (by omega)]); (try go_simp); try with_reducible rfl)
             try simp only [Act.put, List.setIfInBounds_toArray, List.set_cons_zero, List.set_cons_succ])
          | (refine Rg.skip (o := ?_) ?_ ?_ ?_ ?_
             rotate_left 1
             · (simp only [List.getElem?_toArray, List.getElem?_cons_succ, List.getElem?_cons_zero]; rfl)
             · exact fun _ _ _ h => h
             · first | rfl | (go_simp; done)
             try simp only [Act.put, List.setIfInBounds_toArray, List.set_cons_zero, List.set_cons_succ]))
        refine Rg.e (o := ?_) ?_ ?_
        rotate_left 1
        · (simp only [List.getElem?_toArray, List.getElem?_cons_succ, List.getElem?_cons_zero]; rfl)
        intro K hK
        go_simp
        refine hK.out _ _ (fun _ _ => True) (fun k x hk h => trivial) ?_ ?_
        · exact fun _ _ => trivial
        try simp only [Act.put, List.setIfInBounds_toArray, List.set_cons_zero, List.set_cons_succ]
        refine Rg.e (o := ?_) ?_ ?_
        rotate_left 1
        · (simp only [List.getElem?_toArray, List.getElem?_cons_succ, List.getElem?_cons_zero]; rfl)
        intro K hK
        go_simp
        have fb : Fr No wg (wg.drew.alloc (.cells #[.slice (some ⟨w.heap.size + 1 + 1, 0, Option.none⟩) 64 64, .slice (some ⟨g9, 0, Option.none⟩) 32 32] 23)) := ((Fr.refl _ _).drew).alloc _
        have hv2 : RdV (wg.drew.alloc (.cells #[.slice (some ⟨w.heap.size + 1 + 1, 0, Option.none⟩) 64 64, .slice (some ⟨g9, 0, Option.none⟩) 32 32] 23)) (.slice (some ⟨wg.heap.size, 0, Option.none⟩) 2 2) [O, S] := by
          refine rdV_two' wg.drew wg.heap.size rfl _ _ _ _ _ _ O S ?_ ?_ _
          · have h := (G6.out.no ((Fr.refl _ wg).drew)).rd 0 64 64 (by rw [HOL.out]; omega) (by omega) (by simp [maxLen])
            rw [List.drop_zero, List.take_of_length_le (by rw [HOL.out]; omega)] at h
            exact h
          · have h := (G9.out.no ((Fr.refl _ wg).drew)).rd 0 32 32 (by rw [HSL.out]; omega) (by omega) (by simp [maxLen])
            rw [List.drop_zero, List.take_of_length_le (by rw [HSL.out]; omega)] at h
            exact h
        refine (of_calls _ [O, S] _ hv2 (by simp [HOL.out, HSL.out])).mono ?_
        rintro en w4 ⟨rfl, hF4⟩
        have hfin : sha [O, S].flatten = mac key ps.flatten := by
          rw [mac, HK1.out, HP1.out, HI1.out, HO1.out, ← HS1.out]; simp
        rw [hfin]
        go_simp
        have HFI := Aside0.mk hfin
        have K4 := Aside0.mk ((G4.out.no fb).no hF4)
        have FK := Aside0.mk ((FG.out.none fb).none hF4)
        have hml : ((mac key ps.flatten).map vu8).toArray.size = 32 := by simp [mac, sha_length]
        have HML := Aside0.mk hml
        clear hfin hv2 fb hF4 hml
        refine hK.out _ _ (fun _ _ => True) (fun k x hk h => trivial) ?_ ?_
        · exact fun _ _ => trivial
        try simp only [Act.put, List.setIfInBounds_toArray, List.set_cons_zero, List.set_cons_succ]
        refine Rg.e (o := ?_) ?_ ?_
        rotate_left 1
        · (simp only [List.getElem?_toArray, List.getElem?_cons_succ, List.getElem?_cons_zero]; rfl)
        intro K hK
        rw [if_pos (by first | rfl | (go_simp; done))]
        refine opStRow (.tmp 4) (.tmp 43) 34 w.heap.size 34 _ ((mac key ps.flatten).map vu8).toArray rfl rfl rfl K4.out (by rw [HML.out]; kernel_rfl) (by rw [HML.out]; rfl) (by rw [Array.all_eq_true]; intro i hi; simp [Value.oneCell']) ?_
        refine hK.out _ _ (fun _ _ => True) (fun k x hk h => trivial) ?_ ?_
        · exact fun _ _ => trivial
        try simp only [Act.put, List.setIfInBounds_toArray, List.set_cons_zero, List.set_cons_succ]
        refine Rg.done ?_
        go_simp
        go_wp2
        refine bodyPost_ret (results_cell_row (P := Try.prog) (fn := Try.f39) (p := 4) (ty := 34) rfl _ _ w.heap.size 34 ((mac key ps.flatten).map vu8).toArray (0, 0) _ rfl (setRow_heap _ _ _ _ _ _ K4.out) Try.underlying34 rfl (by rw [HML.out]; kernel_rfl)) rfl ⟨rfl, fr_setRow FK.out (.inr (Nat.le_refl _)) _⟩
end Go.Proofs.Ytdicjcpcohclaaa.Sha
