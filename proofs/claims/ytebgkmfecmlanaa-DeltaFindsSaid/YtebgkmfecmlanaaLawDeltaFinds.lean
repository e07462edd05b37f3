/- The walk of the law DeltaFinds. -/
import Derived.Test.YtebgkmfecmlanaaDelH
import Derived.Test.YtebgkmfecmlanaaSpecDel2
import Derived.Test.YtebgkmfecmlanaaTab
import Derived.OpenShut
set_option linter.unusedVariables false
set_option linter.unusedSimpArgs false
namespace Go.Proofs.Ytebgkmfecmlanaa.LDeltaFinds
open Go.ChangeShapes Go.RowKit Go.IntWalk Go.Proofs.YtebgkmfecmlanaaW.PrintWords Go.Proofs.Ytebgkmfecmlanaa.B Go.Proofs.Ytebgkmfecmlanaa.PB Go.Proofs.Ytebgkmfecmlanaa.SWeak Go.Proofs.Ytebgkmfecmlanaa.Bk Go.Proofs.Ytebgkmfecmlanaa.SBlk Go.Proofs.Ytebgkmfecmlanaa.Blk Go.Proofs.Ytebgkmfecmlanaa.L6 Go.Proofs.Ytebgkmfecmlanaa.STell Go.Proofs.Ytebgkmfecmlanaa.Tk Go.Proofs.Ytebgkmfecmlanaa.L7

set_option maxHeartbeats 8000000 in
set_option maxRecDepth 100000 in
theorem walk_out (vb : Value) (b : List UInt8) (size : Int) (vz : Value) (zs : List Int) (w : World) (hb : RdB w vb b) (hz : Rd fI w vz zs) (hout : 150 < b.length ∨ 20 < zs.length ∨ size < 1 ∨ 50 < size) : Calls Try.prog 6 #[vb, .int .i64 size, vz] w fun e w' => e = .returned (.bool true) ∧ Fr No w w' := by
  obtain ⟨A, c, rfl, _⟩ := id hb
  obtain ⟨A', c', rfl, _⟩ := id hz
  clear hb hz
  have hc : (150 : Int) < (b.length : Int) ∨ (¬ (150 : Int) < (b.length : Int) ∧ (20 : Int) < (zs.length : Int)) ∨ (¬ (150 : Int) < (b.length : Int) ∧ ¬ (20 : Int) < (zs.length : Int) ∧ size < 1) ∨ (¬ (150 : Int) < (b.length : Int) ∧ ¬ (20 : Int) < (zs.length : Int) ∧ ¬ size < 1 ∧ 50 < size) := by omega
  clear hout
  rcases hc with h1 | ⟨h1, h2⟩ | ⟨h1, h2, h3⟩ | ⟨h1, h2, h3, h4⟩
  all_goals
    go_enter Try.func6, Try.ntmps6
    go_wp2_with fail
    refine (tells_calls _).mono ?_
    rintro e w1 ⟨rfl, hf⟩
    have F1 : Aside0 (Fr No w w1) := ⟨hf⟩
    clear hf
    go_wp2
    go_ret
    exact ⟨rfl, F1.out⟩
/-- The bytes so far. -/
def Df (s : Nat) (b : List UInt8) (bs : List BK) (w0 wr : World) (v : Value) (n i : Nat) : Prop :=
  ∃ cs : List (List UInt8), On w0 wr v cs.flatten ∧ cs.length = n ∧ n ≤ i ∧ cs.flatten.length = n * s ∧ ∀ c ∈ cs, c.length = s ∧ fB s b.length 32 bs c ≠ none
theorem mul_facts (k s : Nat) (hk : k < 1000) (hs : s ≤ 50) : ∃ m1 m2 : Nat, k * s = m1 ∧ m2 = m1 + s ∧ IntKind.i64.wrap ((k : Int) * (s : Int)) = (m1 : Int) ∧ IntKind.i64.wrap (((k : Int) + 1) * (s : Int)) = (m2 : Int) := by
  have h1 : k * s ≤ 1000 * 50 := Nat.mul_le_mul (by omega) hs
  have e1 : (k : Int) * (s : Int) = ((k * s : Nat) : Int) := (Int.natCast_mul k s).symm
  have e2 : ((k : Int) + 1) * (s : Int) = ((k * s + s : Nat) : Int) := by rw [Int.add_mul, e1, Int.one_mul]; rfl
  refine ⟨k * s, k * s + s, rfl, rfl, ?_, ?_⟩
  · rw [e1, i64_left]; exact wrap64_in _ (by omega)
  · rw [e2, i64_left]; exact wrap64_in _ (by omega)

set_option maxHeartbeats 8000000 in
set_option maxRecDepth 100000 in
theorem walk_ok (vb : Value) (b : List UInt8) (s : Nat) (vz : Value) (zs : List Int) (w : World) (hb : RdB w vb b) (hz : Rd fI w vz zs) (hwz : ∀ z ∈ zs, (Lit.int .i64 z).wf = true) (h1 : ¬ (150 : Int) < (b.length : Int)) (h2 : ¬ (20 : Int) < (zs.length : Int)) (h3 : ¬ (s : Int) < 1) (h4 : ¬ 50 < (s : Int)) : Calls Try.prog 6 #[vb, .int .i64 (s : Int), vz] w fun e w' => e = .returned (.bool true) ∧ Fr No w w' := by
  have hs1 : 1 ≤ s := by omega
  have hs50 : s ≤ 50 := by omega
  obtain ⟨A0, c0, rfl, hbc, _⟩ := id hb
  obtain ⟨Az, cz, rfl, _⟩ := id hz
  have HB := Aside0.mk hb; have HZ := Aside0.mk hz; have HWZ := Aside0.mk hwz
  clear hb hz hwz
  go_enter Try.func6, Try.ntmps6
  go_wp2_with fail
  refine (tells_calls w).mono ?_
  rintro e w1 ⟨rfl, hf⟩
  have F1 : Aside0 (Fr No w w1) := ⟨hf⟩
  clear hf
  go_wp2_with fail
  have hE : makeE b.length s 32 = 0 := by
    have hc := makeE_cases b.length s 32
    have h9 : countI b.length s ≤ 4096 := by
      rw [countI_nat _ _ (by omega)]
      have := cnt_le b.length s (by omega)
      omega
    rcases hc with h | h | h | h | h | h <;> omega
  have htm := fun d => tellR_made (b := b) (s := s) (cut := 32) hE d
  have hfm := fun cs h => flat_made (b := b) (s := s) (cut := 32) hs1 cs h
  have hpf := fun k hk => piece_found (b := b) (s := s) (cut := 32) k hk
  have hsp := fun k => cnt_spec b.length s (by omega) k
  have hcm := chk_made (d := b) (size := (s : Int)) (cut := 32) hE
  have hcl := cnt_le b.length s (by omega)
  have hbl := blocks_length s 32 b (cnt b.length s)
  rw [Int.toNat_natCast] at hcm
  refine (make_ok _ b s 32 w1 (HB.out.no F1.out) (by omega) (by omega) hE).mono ?_
  rintro e w2 ⟨sl, rfl, hO, hf⟩
  have F2 : Aside0 (Fr No w w2) := ⟨F1.out.none hf⟩
  rw [Int.toNat_natCast] at hO
  obtain ⟨bs, hbs⟩ : ∃ bs, blocks s 32 b (cnt b.length s) = bs := ⟨_, rfl⟩
  rw [hbs] at hO hcm hbl
  simp only [hbs] at htm hfm hpf
  obtain ⟨A, c, rfl⟩ := hO.1.form
  have hbl' : bs.length ≤ 150 := by omega
  have HO := Aside0.mk hO; have HTM := Aside0.mk htm; have HFM := Aside0.mk hfm; have HPF := Aside0.mk hpf; have HSP := Aside0.mk hsp; have HCM := Aside0.mk hcm
  clear hf hO htm hfm hpf hsp hcm hcl hbl hbs hE
  go_upto_region 6 with fail
  have XS : Aside0 ((w2.alloc (.cells (sgC s 32 b.length (.slice A bs.length c)) 27)).heap[w2.heap.size]? = some (.cells (sgC s 32 b.length (.slice A bs.length c)) 27 (0, 0))) := ⟨heap_alloc_new w2 _⟩
  have FB : Aside0 (Fr No w (w2.alloc (.cells (sgC s 32 b.length (.slice A bs.length c)) 27))) := ⟨F2.out.alloc _⟩
  have HV : Aside0 (Rd (fBk .u32) (w2.alloc (.cells (sgC s 32 b.length (.slice A bs.length c)) 27)) (.slice A bs.length c) bs) := ⟨HO.out.1.rd.no ((Fr.refl _ _).alloc _)⟩
  change Code.wp _ _ _ _ (w2.alloc (.cells (sgC s 32 b.length (.slice A bs.length c)) 27))
  generalize w2.alloc (.cells (sgC s 32 b.length (.slice A bs.length c)) 27) = w4 at XS FB HV ⊢
  clear HO
  obtain ⟨g, hg⟩ : ∃ g, w2.heap.size = g := ⟨_, rfl⟩
  rw [hg] at XS ⊢
  clear hg
  go_wp2_with fail
  go_loopw [9, 10, 46] (fun v9 v10 v46 wr => ∃ i n : Nat, v46 = .int .i64 (i : Int) ∧ v10 = .int .i64 (n : Int) ∧ i ≤ zs.length ∧ n ≤ i ∧ Aside0 (Df s b bs w4 wr v9 n i)) (fun _ _ v46 _ => zs.length - (intOf v46).toNat)
  case atStart => exact ⟨0, 0, rfl, rfl, Nat.zero_le _, Nat.le_refl _, ⟨⟨[], On.nil (Fr.refl _ _), rfl, Nat.le_refl _, by simp, fun c hc => by cases hc⟩⟩⟩
  case round =>
    obtain ⟨i, n, rfl, rfl, hi, hni, HDF⟩ := hrel
    by_cases hil : i < zs.length
    · have hiI : (i : Int) < (zs.length : Int) := by omega
      obtain ⟨z, hzz⟩ : ∃ z, zs[i]? = some z := ⟨_, List.getElem?_eq_getElem hil⟩
      obtain ⟨cs, hN, hcn, hni', hfl, hall⟩ := HDF.out
      have HN := Aside0.mk hN; have HCN := Aside0.mk hcn; have HALL := Aside0.mk hall; have HFL := Aside0.mk hfl
      obtain ⟨ad, hA, hcv⟩ := rd_elem ((HZ.out.no FB.out).no hN.fr) i z hzz
      obtain rfl := hA
      have k0 : wr.cell? (ad.add i) = some (.int .i64 z) := by
        have := hcv 0 (.int .i64 z) rfl
        rw [add_add, Nat.add_zero, show i * fI.sz = i from Nat.mul_one _] at this
        exact this
      have hzw := bounds_i64 (HWZ.out z (List.mem_of_getElem? hzz))
      clear hN hcn hni' hall hcv hzz HDF hfl
      by_cases hz0 : 0 ≤ z
      · obtain ⟨k, rfl⟩ := Int.eq_ofNat_of_zero_le hz0
        by_cases hk : (k : Int) < 1000
        · obtain ⟨m1, m2, e1, e2, q1, q2⟩ := mul_facts k s (by omega) hs50
          have HE1 := Aside0.mk e1
          clear e1
          by_cases hm : (m2 : Int) ≤ (b.length : Int)
          · obtain ⟨A2, hcut, hrd⟩ := cut_bytes A0 b.length c0 m1 s (by omega) hbc
            have hcut2 := hcut
            rw [show (m1 : Int) + (s : Int) = (m2 : Int) by omega] at hcut2
            have HRD := Aside0.mk (hrd b wr ((HB.out.no FB.out).no HN.out.fr))
            have hpl : ((b.drop m1).take s).length = s := by rw [List.length_take, List.length_drop]; omega
            have hfl2 : cs.flatten.length ≤ 1000 := by
              rw [HFL.out]
              have : n * s ≤ 20 * 50 := Nat.mul_le_mul (by omega) hs50
              omega
            obtain ⟨Av, cv, hu9⟩ := HN.out.own.form
            subst hu9
            have HPP : Aside0 (fB s b.length 32 bs ((b.drop m1).take s) ≠ none) := ⟨by
              have := HPF.out k ((HSP.out k).2 (by rw [HE1.out]; omega))
              unfold piece at this
              rw [HE1.out] at this
              exact this⟩
            have HPL := Aside0.mk hpl
            obtain ⟨pc, hpc⟩ : ∃ pc, (b.drop m1).take s = pc := ⟨_, rfl⟩
            rw [hpc] at HRD HPP HPL
            have hps : pc.length = s := HPL.out
            clear hcut hrd e2 hpc hpl
            go_wp2_with (at_builtin; refine apBs (.slice Av cs.flatten.length cv) cs.flatten (.slice A2 s (c0 - m1)) pc rfl (.tmp 65) (.tmp 74) rfl rfl rfl HN.out.own HRD.out (by omega) ?_; intro v5 w5 i1 i2 i3 i4; have N5 : Aside0 (On w4 w5 v5 (cs.flatten ++ pc)) := ⟨HN.out.step i1 i2 i3⟩; clear i1 i2 i3 i4)
            go_roundw
            case rel => exact ⟨i + 1, n + 1, by go_num, by go_num, by omega, by omega, ⟨⟨cs ++ [pc], by rw [List.flatten_append, List.flatten_singleton]; exact N5.out, by simp [HCN.out], by omega, by rw [List.flatten_append, List.length_append, HFL.out, List.flatten_singleton, HPL.out, Nat.add_mul, Nat.one_mul], fun c hc => by
              rcases List.mem_append.1 hc with hc | hc
              · exact HALL.out c hc
              · simp at hc; subst hc; exact ⟨HPL.out, HPP.out⟩⟩⟩⟩
            case measure => simp [intOf]; omega
          · go_wp2
            go_roundw
            case rel => exact ⟨i + 1, n, by go_num, rfl, by omega, by omega, ⟨⟨cs, HN.out, HCN.out, by omega, HFL.out, HALL.out⟩⟩⟩
            case measure => simp [intOf]; omega
        · go_wp2
          go_roundw
          case rel => exact ⟨i + 1, n, by go_num, rfl, by omega, by omega, ⟨⟨cs, HN.out, HCN.out, by omega, HFL.out, HALL.out⟩⟩⟩
          case measure => simp [intOf]; omega
      · go_wp2
        go_roundw
        case rel => exact ⟨i + 1, n, by go_num, rfl, by omega, by omega, ⟨⟨cs, HN.out, HCN.out, by omega, HFL.out, HALL.out⟩⟩⟩
        case measure => simp [intOf]; omega
    · have hiI : ¬ (i : Int) < (zs.length : Int) := by omega
      obtain rfl : i = zs.length := by omega
      obtain ⟨cs, hN, hcn, hni', hfl, hall⟩ := HDF.out
      have hfb := HFM.out cs hall
      have hflat : cs.flatten.length ≤ 1000 := by
        rw [hfl]
        have : n * s ≤ 20 * 50 := Nat.mul_le_mul (by omega) hs50
        omega
      rw [← HTM.out cs.flatten] at hfb
      have hdm := dmake_calls s 32 b.length (.slice A bs.length c) u9 bs cs.flatten wr (HV.out.no hN.fr) hN.own.rd (by omega) (by omega) (by omega)
      have hX := tellR_length s 32 b.length bs cs.flatten
      rw [HCM.out] at hdm
      obtain ⟨L, hL⟩ : ∃ L, tellR s 32 b.length bs cs.flatten = L := ⟨_, rfl⟩
      rw [hL] at hdm hfb hX
      have F5 : Aside0 (Fr No w4 wr) := ⟨hN.fr⟩
      have LD := ld_all (P := Try.prog) (ty := 27) (hN.fr.heap XS.out id) Try.underlying27 rfl (by kernel_rfl)
      have HDM := Aside0.mk hdm; have HFB := Aside0.mk hfb; have HCN := Aside0.mk hcn
      have hL3 : L.length ≤ 1000 := by omega
      clear hdm hfb hN hcn hfl hall hX hL HDF
      go_wp2_with (first
        | (refine ldG (.tmp 7) 27 _ _ rfl rfl (LD _ (Fr.refl _ _)) (by first | rfl | (go_simp; done)) ?_)
        | fail)
      refine HDM.out.mono ?_
      rintro e w7 ⟨v2, rfl, hT2, hf⟩
      obtain ⟨f2, hT2, hf2⟩ := hT2
      have hfl2 : f2.length ≤ 1000 := by rw [← hf2, List.length_map] at hL3; omega
      have F7 : Aside0 (Fr No w4 w7) := ⟨F5.out.none hf⟩
      have HT2 := Aside0.mk hT2
      obtain ⟨Aw, cw, rfl⟩ := hT2.row.form
      have HBR : Aside0 (∀ (i : Nat) (e : TV), f2[i]? = some e → 0 < e.c ∧ e.xs = [] ∧ sumC (L.take (i + 1)) = sumC (L.take i) + e.c) := ⟨fun i e he => by
        have h1 : L[i]? = some e.tok := by rw [← hf2, List.getElem?_map, he]; rfl
        have h2 := HFB.out.1 _ (List.mem_of_getElem? h1)
        exact ⟨h2.1, h2.2, sumC_take L i _ h1⟩⟩
      have HLL : Aside0 (L.take f2.length = L) := ⟨List.take_of_length_le (by rw [← hf2, List.length_map]; exact Nat.le_refl _)⟩
      have HBD : Aside0 (∀ i, 0 ≤ sumC (L.take i) ∧ sumC (L.take i) ≤ (n : Int)) := ⟨fun i => by
        have h9 := sumC_bound HFB.out.1 i
        rw [HFB.out.2, HCN.out] at h9
        exact h9⟩
      have hn20 : n ≤ 20 := by omega
      clear hf hT2 hf2 LD
      go_wp2_with fail
      go_loopw [15, 87] (fun v15 v87 wx => ∃ (i : Nat) (z : Int), v87 = .int .i64 (i : Int) ∧ v15 = .int .i64 z ∧ i ≤ f2.length ∧ 0 ≤ z ∧ z ≤ 20 ∧ Aside0 (z = sumC (L.take i)) ∧ Aside0 (Fr No w7 wx)) (fun _ v87 _ => f2.length - (intOf v87).toNat)
      case atStart => exact ⟨0, 0, rfl, rfl, Nat.zero_le _, by omega, by omega, ⟨rfl⟩, ⟨Fr.refl _ _⟩⟩
      case round =>
        obtain ⟨i, z, rfl, rfl, hi2, hz1, hz2, HSZ, HF2⟩ := hrel
        by_cases hil2 : i < f2.length
        · have hiI2 : (i : Int) < (f2.length : Int) := by omega
          obtain ⟨e, he⟩ : ∃ e, f2[i]? = some e := ⟨_, List.getElem?_eq_getElem hil2⟩
          obtain ⟨hc0, hxs, hcs⟩ := HBR.out i e he
          have hbd := HBD.out (i + 1)
          rw [hcs, ← HSZ.out] at hbd
          obtain ⟨ad, hA, hcv⟩ := rd_elem (HT2.out.row.rd.no HF2.out) i e he
          obtain ⟨f1, q1, A1, p1, x1⟩ := e
          obtain rfl := hA
          dsimp only at hc0 hcs hbd hxs
          subst hxs
          have HCS := Aside0.mk hcs
          have k0 : wr.cell? (ad.add (i * 3)) = some (.int .i64 f1) := by have := hcv 0 _ rfl; rw [add_add, Nat.add_zero] at this; exact this
          have k1 : wr.cell? { block := (ad.add (i * 3)).block, off := (ad.add (i * 3)).off + 1 } = some (.int .i64 q1) := hcv 1 _ rfl
          have k2 : wr.cell? { block := (ad.add (i * 3)).block, off := (ad.add (i * 3)).off + 2 } = some (.slice A1 0 p1) := hcv 2 _ rfl
          clear hcv he hcs
          go_upto_region 22 with fail
          have XB := heap_alloc_new wr (.cells #[.int .i64 f1, .int .i64 q1, .slice A1 0 p1] 46)
          have FX : Aside0 (Fr No wr (wr.alloc (.cells #[.int .i64 f1, .int .i64 q1, .slice A1 0 p1] 46))) := ⟨(Fr.refl _ _).alloc _⟩
          change Code.wp _ _ _ _ (wr.alloc (.cells #[.int .i64 f1, .int .i64 q1, .slice A1 0 p1] 46))
          generalize wr.alloc (.cells #[.int .i64 f1, .int .i64 q1, .slice A1 0 p1] 46) = wx at XB FX ⊢
          have d1' : wx.cell? ⟨wr.heap.size, 1, Option.none⟩ = some (.int .i64 q1) := by rw [blk_cell XB]; rfl
          have d2' : wx.cell? ⟨wr.heap.size, 2, Option.none⟩ = some (.slice A1 0 p1) := by rw [blk_cell XB]; rfl
          have hwz : IntKind.i64.wrap (z + q1) = z + q1 := by rw [i64_left]; exact wrap64_in _ (by omega)
          clear XB k0 k1 k2
          go_wp2
          go_roundw
          case rel => exact ⟨i + 1, z + q1, by go_num, rfl, by omega, by omega, by omega, ⟨by rw [HCS.out, ← HSZ.out]⟩, ⟨HF2.out.none FX.out⟩⟩
          case measure => simp [intOf]; omega
        · have hiI2 : ¬ (i : Int) < (f2.length : Int) := by omega
          obtain rfl : i = f2.length := by omega
          have hzb : z = (n : Int) := by rw [HSZ.out, HLL.out, HFB.out.2, HCN.out]
          subst hzb
          go_wp2
          go_ret
          exact ⟨rfl, (FB.out.none F7.out).none HF2.out⟩
theorem walk (vb : Value) (b : List UInt8) (size : Int) (vz : Value) (zs : List Int) (w : World) (hb : RdB w vb b ∧ b.length ≤ reach) (hs : (Lit.int .i64 size).wf = true) (hz : Rd fI w vz zs ∧ ∀ z ∈ zs, (Lit.int .i64 z).wf = true) : Calls Try.prog 6 #[vb, .int .i64 size, vz] w fun e w' => e = .returned (.bool true) ∧ Fr No w w' := by
  by_cases h : 150 < b.length ∨ 20 < zs.length ∨ size < 1 ∨ 50 < size
  · exact walk_out vb b size vz zs w hb.1 hz.1 h
  · obtain ⟨s, rfl⟩ := Int.eq_ofNat_of_zero_le (show 0 ≤ size by omega)
    exact walk_ok vb b s vz zs w hb.1 hz.1 hz.2 (by omega) (by omega) (by omega) (by omega)
end Go.Proofs.Ytebgkmfecmlanaa.LDeltaFinds
