/- delta.Whole: walked. The walk of the law DeltaOwn. -/
import Derived.Test.YtebgkmfecmlanaaDelM
import Derived.Test.YtebgkmfecmlanaaDelH
import Derived.Test.YtebgkmfecmlanaaDelZ
import Derived.Test.YtebgkmfecmlanaaDelE
import Derived.OpenShut
set_option linter.unusedVariables false
set_option linter.unusedSimpArgs false
namespace Go.Proofs.Ytebgkmfecmlanaa.Tk
open Go.RowKit Go.IntWalk Go.Proofs.YtebgkmfecmlanaaW.PrintWords Go.Proofs.Ytebgkmfecmlanaa.B Go.Proofs.Ytebgkmfecmlanaa.PB Go.Proofs.Ytebgkmfecmlanaa.STell

def wholeL (xs : List UInt8) : List Tok := if xs.length = 0 then [] else [(0, 0, xs)]
set_option maxHeartbeats 4000000 in
set_option maxRecDepth 100000 in
theorem whole_calls (v : Value) (xs : List UInt8) (w : World) (hv : RdB w v xs) (hl : xs.length ≤ 50000000) : Calls Try.prog 17 #[v] w fun e w' => ∃ vo, e = .returned vo ∧ Tl w' w.heap.size vo (wholeL xs) ∧ Fr No w w' := by
  obtain ⟨A, c, rfl, _⟩ := id hv
  have HV := Aside0.mk hv
  clear hv
  unfold wholeL
  by_cases hx : xs.length = 0
  · have hxI : ((xs.length : Int) == 0) = true := by rw [hx]; rfl
    rw [if_pos hx]
    clear hx
    go_enter Try.func17, Try.ntmps17
    go_wp2
    go_ret
    exact ⟨_, rfl, Tl.nil _ _, Fr.refl _ _⟩
  · have hxI : ((xs.length : Int) == 0) = false := by rw [beq_eq_false_iff_ne]; omega
    rw [if_neg hx]
    clear hx
    go_enter Try.func17, Try.ntmps17
    go_wp2_with fail
    refine (add_calls w.heap.size (.slice none 0 0) [] 0 0 (.slice A xs.length c) xs w (Tl.nil _ _) (Nat.le_refl _) (by simp) HV.out (fun t ht => by cases ht) ⟨by simp, by simp, by simp, by simp, by simp only; omega⟩ (fun t ht => by cases ht)).mono ?_
    rintro e w1 ⟨vo, rfl, hT, hf⟩
    have HT := Aside0.mk hT; have HF : Aside0 (Fr No w w1) := ⟨up_no (Fr.refl _ _) hf (Nat.le_refl _)⟩
    clear hT hf
    go_wp2
    go_ret
    exact ⟨_, rfl, HT.out, HF.out⟩
end Go.Proofs.Ytebgkmfecmlanaa.Tk
namespace Go.Proofs.Ytebgkmfecmlanaa.LDeltaOwn
open Go.ChangeShapes Go.RowKit Go.IntWalk Go.Proofs.YtebgkmfecmlanaaW.PrintWords Go.Proofs.Ytebgkmfecmlanaa.B Go.Proofs.Ytebgkmfecmlanaa.PB Go.Proofs.Ytebgkmfecmlanaa.Bk Go.Proofs.Ytebgkmfecmlanaa.SBlk Go.Proofs.Ytebgkmfecmlanaa.STell Go.Proofs.Ytebgkmfecmlanaa.STB Go.Proofs.Ytebgkmfecmlanaa.Tk Go.Proofs.Ytebgkmfecmlanaa.L7 Go.Proofs.Ytebgkmfecmlanaa.Blk

theorem tell_none {s : Nat} {f : List UInt8 → Option Nat} (hf : ∀ x, f x = none) : ∀ (d ys : List UInt8), tell s f d [(0, 0, ys)] = [(0, 0, ys ++ d)]
  | [], ys => by rw [tell_nil, List.append_nil]
  | x :: d, ys => by
    rw [tell_miss _ (hf _)]
    have e : addT [(0, 0, ys)] (0, 0, [x]) = [(0, 0, ys ++ [x])] := by
      have := addT_snoc [] (0, 0, ys) (0, 0, [x])
      rw [List.nil_append] at this
      rw [this]
      rfl
    rw [e, tell_none hf d, List.append_assoc]
    rfl
theorem tell_own (d : List UInt8) : tellR 4 4 0 [] d = wholeL d := by
  have hc : chkE 4 4 0 [] = 0 := by decide
  have hf : ∀ x, fB 4 0 4 [] x = none := fun x => rfl
  unfold tellR
  rw [if_pos hc]
  show tell 4 (fB 4 0 4 []) d [] = _
  unfold wholeL
  cases d with
  | nil => rfl
  | cons x d =>
    rw [tell_miss _ (hf _)]
    show tell 4 (fB 4 0 4 []) d (addT [] (0, 0, [x])) = _
    rw [addT_nil, tell_none hf d [x]]
    rfl
theorem whole_ok (d : List UInt8) (h : d.length ≤ 200) : bytesE (wholeL d) = 0 ∧ bytesB (wholeL d) = encL (wholeL d) ∧ (∀ t ∈ wholeL d, okB t = true) ∧ (wholeL d).length ≤ 1 ∧ ∀ t ∈ wholeL d, t.2.2.length ≤ 5000 := by
  have hk : ∀ t ∈ wholeL d, okB t = true ∧ t.2.2.length ≤ 5000 := fun t ht => by
    unfold wholeL at ht
    split at ht
    · cases ht
    · rename_i h0
      simp at ht
      subst ht
      exact ⟨(enc_raw (t := (0, 0, d)) ⟨rfl, rfl, fun e => h0 (by rw [show d = [] from e]; rfl)⟩).1, by simp only; omega⟩
  have hl : (wholeL d).length ≤ 1 := by
    unfold wholeL
    split <;> simp
  have hg := bytes_good (L := wholeL d) (by omega) (fun t ht => (hk t ht).1)
  exact ⟨hg.1, hg.2, fun t ht => (hk t ht).1, hl, fun t ht => (hk t ht).2⟩
theorem enc_len (d : List UInt8) (h : d.length ≤ 200) : (encL (wholeL d)).length ≤ 1000 := by
  have hz : (encZ (wholeL d)).length ≤ 500 := by
    unfold wholeL
    split
    · simp [encZ]
    · have := encT_length (0, 0, d)
      simp only at this
      unfold encZ
      simp only [List.map_cons, List.map_nil, List.flatten_cons, List.flatten_nil, List.append_nil]
      omega
  unfold encL
  rw [List.length_append]
  have := SCode.numI_length ((wholeL d).length : Int)
  omega
theorem inc_at {W : World} {gd n c : Nat} {xs : List UInt8} (h : OwB W (.slice (some ⟨gd, 0, none⟩) n c) xs) (hm : xs.length = n) (k : Nat) (hk : k < n) : ∃ x y : UInt8, W.cell? ⟨gd, k, none⟩ = some (vu8 x) ∧ W.frozen? ⟨gd, k, none⟩ = false ∧ IntKind.u8.wrap ((x.toNat : Int) + 1) = (y.toNat : Int) ∧ OwB (W.setCell ⟨gd, k, none⟩ (vu8 y)) (.slice (some ⟨gd, 0, none⟩) n c) (xs.set k y) := by
  subst hm
  obtain ⟨x, hx⟩ : ∃ x, xs[k]? = some x := ⟨_, List.getElem?_eq_getElem hk⟩
  refine ⟨x, x + 1, ?_, ?_, ?_, ?_⟩
  · obtain ⟨A9, c9, he9, _, _, hc9⟩ := h.rd
    injection he9 with e1 _ _
    subst e1
    obtain ⟨ad9, had9, hcell9⟩ := hc9 (by omega)
    injection had9 with had9
    subst had9
    have h9 := hcell9 k (vu8 x) (by rw [u8_cells, List.getElem?_map, hx]; rfl)
    rw [show (⟨gd, 0, none⟩ : Addr).add k = ⟨gd, k, none⟩ from by unfold Addr.add; split <;> simp_all] at h9
    exact h9
  · obtain ⟨cs, hcs⟩ := h.typed gd rfl
    exact blk_frozen hcs _
  · rw [IntKind.wrap_u8, UInt8.toNat_add]
    have := x.toNat_lt
    simp
  · have h1 := Ow.store (f := u8) h k 0 x (x + 1) (vu8 (x + 1)) hx rfl (by decide)
    rw [show k * u8.sz + 0 = k from Nat.mul_one k] at h1
    exact h1

set_option maxHeartbeats 8000000 in
set_option maxRecDepth 100000 in
theorem walk (v : Value) (d : List UInt8) (w : World) (hd0 : RdB w v d ∧ d.length ≤ reach) : Calls Try.prog 9 #[v] w fun e w' => e = .returned (.bool true) ∧ Fr No w w' := by
  obtain ⟨hv, _⟩ := hd0
  obtain ⟨A, c, rfl, _⟩ := id hv
  have HV := Aside0.mk hv
  clear hv
  go_enter Try.func9, Try.ntmps9
  go_wp2_with fail
  refine (tells_calls _).mono ?_
  rintro e w1 ⟨rfl, hf⟩
  have F1 : Aside0 (Fr No w w1) := ⟨hf⟩
  clear hf
  by_cases h1 : (200 : Int) < (d.length : Int)
  · go_wp2
    go_ret
    exact ⟨rfl, F1.out⟩
  have hdl : d.length ≤ 200 := by omega
  obtain ⟨k1, k2, k3, k4, k5⟩ := whole_ok d hdl
  have HK1 := Aside0.mk k1; have HK2 := Aside0.mk k2; have HK3 := Aside0.mk k3; have HK5 := Aside0.mk k5
  clear k1 k2 k3 k5
  go_wp2_with fail
  refine (make_ok (.slice none 0 0) [] 4 4 w1 (Rd.nil _ _) (by simp) (by omega) (by decide)).mono ?_
  rintro e w2 ⟨sl, rfl, hO, hf⟩
  have hO2 : OwS w2 w1.heap.size sl [] := hO
  have F2 : Aside0 (Fr No w w2) := ⟨F1.out.none hf⟩
  obtain ⟨As, cs, rfl⟩ := hO2.1.form
  have HO := Aside0.mk hO2
  clear hf hO hO2
  go_upto_region 6 with fail
  have XS : Aside0 ((w2.alloc (.cells (sgC 4 4 0 (.slice As 0 cs)) 27)).heap[w2.heap.size]? = some (.cells (sgC 4 4 0 (.slice As 0 cs)) 27 (0, 0))) := ⟨heap_alloc_new w2 _⟩
  have FB : Aside0 (Fr No w (w2.alloc (.cells (sgC 4 4 0 (.slice As 0 cs)) 27))) := ⟨F2.out.alloc _⟩
  have HVS : Aside0 (Rd (fBk .u32) (w2.alloc (.cells (sgC 4 4 0 (.slice As 0 cs)) 27)) (.slice As 0 cs) []) := ⟨HO.out.1.rd.no ((Fr.refl _ _).alloc _)⟩
  change Code.wp _ _ _ _ (w2.alloc (.cells (sgC 4 4 0 (.slice As 0 cs)) 27))
  generalize w2.alloc (.cells (sgC 4 4 0 (.slice As 0 cs)) 27) = w3 at XS FB HVS ⊢
  clear HO
  obtain ⟨g, hg⟩ : ∃ g, w2.heap.size = g := ⟨_, rfl⟩
  rw [hg] at XS ⊢
  clear hg
  have N0 : Aside0 (On w3 (w3.alloc (.cells #[] 5)) (.slice (some ⟨w3.heap.size, 0, none⟩) 0 0) []) := ⟨own_empty w3, fun q hq => Nat.le_of_eq (by simpa [Value.ownBlock] using hq), (Fr.refl _ _).alloc _⟩
  go_upto_region 7 with (at_builtin; refine apBs (.slice (some ⟨w3.heap.size, 0, none⟩) 0 0) [] (.slice A d.length c) d rfl (.tmp 24) (.tmp 25) rfl rfl rfl N0.out.own ((HV.out.no FB.out).no N0.out.fr) (by simp; omega) ?_; intro v1 w4 i1 i2 i3 i4; have N1 : Aside0 (On w3 w4 v1 ([] ++ d)) := ⟨N0.out.step i1 i2 i3⟩; clear i1 i2 i3 i4; rw [List.nil_append] at N1)
  obtain ⟨Am, cm, hmf⟩ := N1.out.own.form
  subst hmf
  have F4 : Aside0 (Fr No w w4) := ⟨FB.out.none N1.out.fr⟩
  have MN : Aside0 (∀ q, (Value.slice Am d.length cm).ownBlock = some q → w.heap.size ≤ q ∧ q < w4.heap.size) := ⟨fun q hq => ⟨Nat.le_trans FB.out.size (N1.out.new q hq), N1.out.own.lt q hq⟩⟩
  have LD := ld_all (P := Try.prog) (ty := 27) (N1.out.fr.heap XS.out id) Try.underlying27 rfl (by kernel_rfl)
  go_wp2_with (first
    | (refine ldG (.tmp 3) 27 _ _ rfl rfl (LD _ (Fr.refl _ _)) (by first | rfl | (go_simp; done)) ?_)
    | fail)
  have hdm := dmake_calls 4 4 0 (.slice As 0 cs) (.slice Am d.length cm) [] d w4 (HVS.out.no N1.out.fr) N1.out.own.rd (by omega) (by omega) (by omega)
  rw [tell_own, show chkE 4 4 0 [] = 0 from by decide] at hdm
  refine hdm.mono ?_
  rintro e w5 ⟨vo, rfl, ⟨fs, hT, hfs⟩, hf⟩
  have F45 : Aside0 (Fr No w4 w5) := ⟨hf⟩
  have HT := Aside0.mk hT; have HFS := Aside0.mk hfs
  obtain ⟨Ao, co, hof⟩ := hT.row.form
  subst hof
  clear hf hT hdm LD
  go_wp2_with fail
  refine (whole_calls (.slice Am d.length cm) d w5 (N1.out.own.rd.no F45.out) (by omega)).mono ?_
  rintro e w6 ⟨vw, rfl, ⟨fs2, hT2, hfs2⟩, hf⟩
  have F46 : Aside0 (Fr No w4 w6) := ⟨F45.out.none hf⟩
  have HT6 : Aside0 (Tks w6 w4.heap.size (.slice Ao fs.length co) fs) := ⟨HT.out.no hf⟩
  have HW := Aside0.mk hT2; have HFS2 := Aside0.mk hfs2
  clear hf hT2
  have hflen : fs.length ≤ 1 := by have := congrArg List.length hfs; rw [List.length_map] at this; omega
  have hflen2 : fs2.length ≤ 1 := by have := congrArg List.length hfs2; rw [List.length_map] at this; omega
  clear hfs hfs2
  go_wp2_with fail
  refine (bytes_calls (.slice Ao fs.length co) fs w6 HT6.out.row.rd (fun e he => (HT6.out.own e he).1.rd) (fun e he => HK5.out e.tok (by rw [← HFS.out]; exact List.mem_map_of_mem he)) (by omega)).mono ?_
  rw [HFS.out, HK1.out, HK2.out]
  rintro e w7 ⟨vb, rfl, hN⟩
  have F67 : Aside0 (Fr No w6 w7) := ⟨hN.fr⟩
  obtain ⟨X, hX⟩ : ∃ X, encL (wholeL d) = X := ⟨_, rfl⟩
  have hxlen := enc_len d hdl
  rw [hX] at hN hxlen
  have HX := Aside0.mk hX
  obtain ⟨Ab, cb, hbf⟩ := hN.own.form
  subst hbf
  have HN := Aside0.mk hN
  clear hN hX
  go_wp2_with fail
  refine (read_back (.slice Ab X.length cb) X (wholeL d) w7 HN.out.own.rd HX.out.symm (by omega) HK3.out HK5.out).mono ?_
  rintro e w8 ⟨vk, rfl, ⟨fs3, hT3, hfs3⟩, hf⟩
  have F78 : Aside0 (Fr No w7 w8) := ⟨hf⟩
  have HK := Aside0.mk hT3; have HFS3 := Aside0.mk hfs3
  have hflen3 : fs3.length ≤ 1 := by have := congrArg List.length hfs3; rw [List.length_map] at this; omega
  have OM8 : Aside0 (OwB w8 (.slice Am d.length cm) d) := ⟨(N1.out.own.no (F46.out.none F67.out)).no hf⟩
  have OB8 : Aside0 (OwB w8 (.slice Ab X.length cb) X) := ⟨HN.out.own.no hf⟩
  clear hf hT3 hfs3
  go_wp2_with fail
  go_loopw [47] (fun v47 wr => ∃ (i : Nat) (xs : List UInt8), v47 = .int .i64 (i : Int) ∧ i ≤ d.length ∧ xs.length = d.length ∧ Aside0 (OwB wr (.slice Am d.length cm) xs) ∧ Aside0 (Fr (blk (.slice Am d.length cm)) w8 wr)) (fun v47 _ => d.length - (intOf v47).toNat)
  case atStart => exact ⟨0, d, rfl, Nat.zero_le _, rfl, OM8, ⟨Fr.refl _ _⟩⟩
  case round =>
    obtain ⟨i, xs, rfl, hi, hxl, HO, HF⟩ := hrel
    by_cases hil : i < d.length
    · have hiI : (i : Int) < (d.length : Int) := by omega
      obtain ⟨gm, cc, he, _⟩ := HO.out.at_ (by omega)
      injection he with e1 e2 e3
      subst e1
      obtain ⟨x, y, y1, y2, y3, y4⟩ := inc_at HO.out hxl i hil
      have Y4 := Aside0.mk y4
      clear e2 e3 y4
      go_wp2
      go_roundw
      case rel => exact ⟨i + 1, xs.set i y, by go_num, by omega, by simp [hxl], Y4, ⟨HF.out.setCell (p := ⟨gm, i, none⟩) (.inl rfl) _⟩⟩
      case measure => simp [intOf]; omega
    · have hiI : ¬ (i : Int) < (d.length : Int) := by omega
      have OB9 : Aside0 (OwB wr (.slice Ab X.length cb) X) := ⟨OB8.out.fr HF.out (fun q hq hb => by have := (MN.out q hb).2; have := HN.out.new q hq; have := F46.out.size; omega)⟩
      have HFA := Aside0.mk HF.out
      clear hxl
      rename World => wo
      go_wp2_with fail
      go_loopw [59] (fun v59 wx => ∃ (i : Nat) (xs : List UInt8), v59 = .int .i64 (i : Int) ∧ i ≤ X.length ∧ xs.length = X.length ∧ Aside0 (OwB wx (.slice Ab X.length cb) xs) ∧ Aside0 (Fr (blk (.slice Ab X.length cb)) wo wx)) (fun v59 _ => X.length - (intOf v59).toNat)
      case atStart => exact ⟨0, X, rfl, Nat.zero_le _, rfl, OB9, ⟨Fr.refl _ _⟩⟩
      case round =>
        obtain ⟨k, zs, rfl, hk, hzl, HO2, HF2⟩ := hrel
        by_cases hkl : k < X.length
        · have hkI : (k : Int) < (X.length : Int) := by omega
          obtain ⟨gm, cc, he, _⟩ := HO2.out.at_ (by omega)
          injection he with e1 e2 e3
          subst e1
          obtain ⟨x, y, y1, y2, y3, y4⟩ := inc_at HO2.out hzl k hkl
          have Y4 := Aside0.mk y4
          clear e2 e3 y4
          go_wp2
          go_roundw
          case rel => exact ⟨k + 1, zs.set k y, by go_num, by omega, by simp [hzl], Y4, ⟨HF2.out.setCell (p := ⟨gm, k, none⟩) (.inl rfl) _⟩⟩
          case measure => simp [intOf]; omega
        · have hkI : ¬ (k : Int) < (X.length : Int) := by omega
          -- what was made stands as it was
          have FM : Aside0 (Fr (blk (.slice Am d.length cm)) w6 wr) := ⟨(((F67.out.none F78.out).mono (fun _ _ h => h.elim)).trans HFA.out (fun _ _ h => h)).trans HF2.out (fun q hq hb => absurd (HN.out.new q hb) (by omega))⟩
          have T1 : Aside0 (Tks wr w4.heap.size (.slice Ao fs.length co) fs) := ⟨HT6.out.fr FM.out (fun q hq hb => by have := (MN.out q hb).2; omega)⟩
          have T2 : Aside0 (Tks wr w5.heap.size vw fs2) := ⟨HW.out.fr FM.out (fun q hq hb => by have := (MN.out q hb).2; have := F45.out.size; omega)⟩
          have T3 : Aside0 (Tks wr w7.heap.size vk fs3) := ⟨(HK.out.fr HFA.out (fun q hq hb => by have := (MN.out q hb).2; have := F46.out.size; have := F67.out.size; omega)).fr HF2.out (fun q hq hb => by have := HN.out.own.lt q hb; omega)⟩
          have FE : Aside0 (Fr No w wr) := ⟨(F4.out.none F46.out).trans FM.out (fun q hq hb => by have := (MN.out q hb).1; omega)⟩
          clear hzl
          go_wp2_with fail
          refine (plain7_calls (.slice Ao fs.length co) fs wr T1.out.row.rd (fun e he => (T1.out.own e he).1.rd) (by omega)).mono ?_
          rintro e z1 ⟨p1, rfl, hP, hf⟩
          have G1 : Aside0 (Fr No wr z1) := ⟨hf⟩
          have P1 := Aside0.mk hP
          clear hf hP
          go_wp2_with fail
          refine (plain7_calls vw fs2 z1 (T2.out.no G1.out).row.rd (fun e he => ((T2.out.no G1.out).own e he).1.rd) (by omega)).mono ?_
          rintro e z2 ⟨p2, rfl, hP, hf⟩
          have G2 : Aside0 (Fr No wr z2) := ⟨G1.out.none hf⟩
          have P2 := Aside0.mk hP; have P12 := Aside0.mk (P1.out.no hf)
          clear hf hP
          go_wp2_with fail
          refine (same7_calls p1 p2 (wholeL d) z2 (by rw [← HFS.out]; exact P12.out.rd) (by rw [← HFS2.out]; exact P2.out.rd)).mono ?_
          rintro e z3 ⟨rfl, hf⟩
          have G3 : Aside0 (Fr No wr z3) := ⟨G2.out.none hf⟩
          clear hf
          go_wp2_with fail
          refine (plain7_calls vk fs3 z3 (T3.out.no G3.out).row.rd (fun e he => ((T3.out.no G3.out).own e he).1.rd) (by omega)).mono ?_
          rintro e z4 ⟨p3, rfl, hP, hf⟩
          have G4 : Aside0 (Fr No wr z4) := ⟨G3.out.none hf⟩
          have P3 := Aside0.mk hP
          clear hf hP
          go_wp2_with fail
          refine (plain7_calls (.slice Ao fs.length co) fs z4 (T1.out.no G4.out).row.rd (fun e he => ((T1.out.no G4.out).own e he).1.rd) (by omega)).mono ?_
          rintro e z5 ⟨p4, rfl, hP, hf⟩
          have G5 : Aside0 (Fr No wr z5) := ⟨G4.out.none hf⟩
          have P4 := Aside0.mk hP; have P35 := Aside0.mk (P3.out.no hf)
          clear hf hP
          go_wp2_with fail
          refine (same7_calls p3 p4 (wholeL d) z5 (by rw [← HFS3.out]; exact P35.out.rd) (by rw [← HFS.out]; exact P4.out.rd)).mono ?_
          rintro e z6 ⟨rfl, hf⟩
          have G6 : Aside0 (Fr No wr z6) := ⟨G5.out.none hf⟩
          clear hf
          have RV := Aside0.mk ((HV.out.no FE.out).no G6.out)
          have T6 := T1.out.no G6.out
          have hfsd := HFS.out
          by_cases hx : d.length = 0
          · have hxI : ((d.length : Int) == 0) = true := by rw [hx]; rfl
            clear hfsd T6 hx
            go_wp2_with fail
            refine Rg.start (fun _ x => Fr No z6 x) (by kernel_rfl) (by kernel_rfl) [] [] (by kernel_rfl) (.q 0 0 (.q 1 0 (.q 2 0 (.q 3 0 (.q 4 0 (.q 5 0 (.q 6 0 (.q 7 0 (.q 8 0 (.q 9 0 (.q 10 0 (.q 11 0 (.q 12 0 (.q 13 0 (.q 14 0 (.q 15 0 (.q 16 0 (.q 17 0 (.q 18 0 (.done)))))))))))))))))))) (by kernel_rfl) ?_ ?_
            · exact fun _ => (Fr.refl _ _).drew
            repeat (first
              | (refine Rg.q (o := ?_) (v := ?_) ?_ ?_ ?_ ?_ ?_
                 rotate_left 2
                 · (simp only [List.getElem?_toArray, List.getElem?_cons_succ, List.getElem?_cons_zero]; rfl)
                 · exact fun _ _ _ h => h
                 · first | rfl | (go_simp; done)
                 · (intro x_ hx; (try dsimp only at hx); (skip); go_simp; (try rw [if_neg (by omega)]); (try rw [if_pos (by omega)]); (try go_simp); try with_reducible rfl)
                 try simp only [Act.put, List.setIfInBounds_toArray, List.set_cons_zero, List.set_cons_succ])
              | (refine Rg.skip (o := ?_) ?_ ?_ ?_ ?_
                 rotate_left 1
                 · (simp only [List.getElem?_toArray, List.getElem?_cons_succ, List.getElem?_cons_zero]; rfl)
                 · exact fun _ _ _ h => h
                 · first | rfl | (go_simp; done)
                 try simp only [Act.put, List.setIfInBounds_toArray, List.set_cons_zero, List.set_cons_succ]))
            refine Rg.done ?_
            go_simp
            go_wp2
            go_ret
            exact ⟨rfl, (FE.out.none G6.out).drew⟩
          · have hxI : ((d.length : Int) == 0) = false := by rw [beq_eq_false_iff_ne]; omega
            unfold wholeL at hfsd
            rw [if_neg hx] at hfsd
            obtain ⟨e0, he0⟩ : ∃ e0, fs = [e0] := by
              rcases fs with _ | ⟨e0, _ | ⟨e1, fs⟩⟩
              · simp at hfsd
              · exact ⟨_, rfl⟩
              · simp at hfsd
            subst he0
            obtain ⟨f0, q0, A0, c0, x0⟩ := e0
            simp [TV.tok] at hfsd
            obtain ⟨rfl, rfl, rfl⟩ := hfsd
            obtain ⟨go, cc, hvo, _⟩ := T6.row.at_ (by simp)
            injection hvo with e1 e2 e3
            subst e1
            subst e3
            clear e2
            obtain ⟨A', c', he', _, _, hc⟩ := T6.row.rd
            injection he' with e4 _ e5
            subst e4
            subst e5
            obtain ⟨ad, had, hcell⟩ := hc (by simp)
            injection had with had
            subst had
            have k2 : z6.cell? ⟨go, 2, Option.none⟩ = some (.slice A0 x0.length c0) := hcell 2 _ rfl
            have RB := Aside0.mk (T6.own (⟨0, 0, A0, c0, x0⟩ : TV) (by simp)).1.rd
            clear T6 hc hcell hx
            go_wp2_with fail
            refine Rg.start (fun _ x => Fr No z6 x) (by kernel_rfl) (by kernel_rfl) [] [] (by kernel_rfl) (.q 0 0 (.q 1 0 (.q 2 0 (.q 3 0 (.q 4 0 (.q 5 0 (.q 6 0 (.q 7 0 (.q 8 0 (.q 9 0 (.q 10 0 (.q 11 0 (.q 12 0 (.q 13 0 (.q 14 0 (.q 15 0 (.q 16 0 (.q 17 0 (.q 18 0 (.done)))))))))))))))))))) (by kernel_rfl) ?_ ?_
            · exact fun _ => (Fr.refl _ _).drew
            repeat (first
              | (refine Rg.q (o := ?_) (v := ?_) ?_ ?_ ?_ ?_ ?_
                 rotate_left 2
                 · (simp only [List.getElem?_toArray, List.getElem?_cons_succ, List.getElem?_cons_zero]; rfl)
                 · exact fun _ _ _ h => h
                 · first | rfl | (go_simp; done)
                 · (intro x_ hx; (try dsimp only at hx); (have q2 := hx.cell k2 id; have q3 := str_of_rd (RV.out.no hx); have q4 : (convert 22 9 (.slice A0 x0.length c0)).run Try.prog _ = .ok (.string (bstr x0)) _ := str_of_rd (RB.out.no hx)); go_simp; (try rw [if_neg (by omega)]); (try rw [if_pos (by omega)]); (try go_simp); try with_reducible rfl)
                 try simp only [Act.put, List.setIfInBounds_toArray, List.set_cons_zero, List.set_cons_succ])
              | (refine Rg.skip (o := ?_) ?_ ?_ ?_ ?_
                 rotate_left 1
                 · (simp only [List.getElem?_toArray, List.getElem?_cons_succ, List.getElem?_cons_zero]; rfl)
                 · exact fun _ _ _ h => h
                 · first | rfl | (go_simp; done)
                 try simp only [Act.put, List.setIfInBounds_toArray, List.set_cons_zero, List.set_cons_succ]))
            refine Rg.done ?_
            go_simp
            go_wp2
            go_ret
            exact ⟨rfl, (FE.out.none G6.out).drew⟩
end Go.Proofs.Ytebgkmfecmlanaa.LDeltaOwn
