/- delta.Read of what was written: walked. -/
import Derived.Test.YtanbddaecojijaaDoorDelM
import Derived.Test.YtanbddaecojijaaDoorSpecTB
import Derived.Test.YtanbddaecojijaaDoorSpecRd
import Derived.Test.YtanbddaecojijaaDoorReader
import Derived.Test.YtanbddaecojijaaDoorMk
set_option linter.unusedVariables false
set_option linter.unusedSimpArgs false
namespace Go.Proofs.YtanbddaecojijaaDoor.Tk
open Go.RowKit Go.IntWalk Go.Proofs.YtanbddaecojijaaDoorW.PrintWords Go.Proofs.YtanbddaecojijaaDoor.B Go.Proofs.YtanbddaecojijaaDoor.PB Go.Proofs.YtanbddaecojijaaDoor.STell Go.Proofs.YtanbddaecojijaaDoor.STB Go.Proofs.YtanbddaecojijaaDoor.SCode Go.Proofs.YtanbddaecojijaaDoor.Blk Go.Proofs.YtanbddaecojijaaDoor.Bk

/-- Where the i-th token's bytes begin. -/
def atT (L : List Tok) (i : Nat) : Nat := (numI L.length ++ encZ (L.take i)).length
theorem enc_form {t : Tok} (h : okB t = true) (hx : t.2.2.length ≤ 5000) : ∃ (m1 m2 : Nat) (ys : List UInt8), encT t = numB m1 ++ (numB m2 ++ ys) ∧ m1 ≤ 1099511627776 ∧ m2 ≤ 1099511627776 ∧ ys.length ≤ 5000 ∧ ((0 < m1 ∧ t = ((m2 : Int), (m1 : Int), []) ∧ ys = []) ∨ (m1 = 0 ∧ 0 < m2 ∧ t = (0, 0, ys) ∧ ys.length = m2)) := by
  obtain ⟨f, c, xs⟩ := t
  unfold okB at h
  rw [Bool.or_eq_true] at h
  rcases h with h | h
  · obtain ⟨h1, h2, h3, h4, h5⟩ := of_decide_eq_true h
    simp only at h1 h2 h3 h4 h5
    subst h5
    refine ⟨c.toNat, f.toNat, [], ?_, by omega, by omega, by simp, .inl ⟨by omega, ?_, rfl⟩⟩
    · rw [(enc_blk (t := (f, c, [])) (of_decide_eq_true h)).2, List.append_nil]
      unfold numI
      rw [show clampN c = c.toNat from by unfold clampN; rw [if_neg (by omega), if_neg (by omega)], show clampN f = f.toNat from by unfold clampN; rw [if_neg (by omega), if_neg (by omega)]]
    · rw [Int.toNat_of_nonneg (by omega), Int.toNat_of_nonneg (by omega)]
  · obtain ⟨h1, h2, h3⟩ := of_decide_eq_true h
    simp only at h1 h2 h3 hx
    subst h1; subst h2
    have hl : 0 < xs.length := List.length_pos_iff.2 h3
    refine ⟨0, xs.length, xs, ?_, by omega, by omega, hx, .inr ⟨rfl, hl, rfl, rfl⟩⟩
    rw [(enc_raw (t := (0, 0, xs)) (of_decide_eq_true h)).2]
    unfold numI
    rw [clampN_nat xs.length (by omega)]
    rfl
theorem at_form (L : List Tok) (hok : ∀ t ∈ L, okB t = true) (hxs : ∀ t ∈ L, t.2.2.length ≤ 5000) (i : Nat) (t : Tok) (ht : L[i]? = some t) : ∃ (m1 m2 : Nat) (ys rest : List UInt8), (encL L).drop (atT L i) = numB m1 ++ (numB m2 ++ (ys ++ rest)) ∧ atT L (i + 1) = atT L i + (numB m1).length + (numB m2).length + ys.length ∧ m1 ≤ 1099511627776 ∧ m2 ≤ 1099511627776 ∧ ys.length ≤ 5000 ∧ ((0 < m1 ∧ t = ((m2 : Int), (m1 : Int), []) ∧ ys = []) ∨ (m1 = 0 ∧ 0 < m2 ∧ t = (0, 0, ys) ∧ ys.length = m2)) := by
  obtain ⟨m1, m2, ys, h1, h2, h3, h4, h5⟩ := enc_form (hok t (List.mem_of_getElem? ht)) (hxs t (List.mem_of_getElem? ht))
  obtain ⟨hi, hx⟩ := List.getElem?_eq_some_iff.1 ht
  refine ⟨m1, m2, ys, encZ (L.drop (i + 1)), ?_, ?_, h2, h3, h4, h5⟩
  · have e : encL L = (numI L.length ++ encZ (L.take i)) ++ (encT t ++ encZ (L.drop (i + 1))) := by
      unfold encL
      rw [List.append_assoc]
      congr 1
      conv => lhs; rw [← List.take_append_drop i L, List.drop_eq_getElem_cons hi, hx]
      unfold encZ
      simp
    unfold atT
    rw [e, List.drop_left, h1]
    simp only [List.append_assoc]
  · unfold atT
    rw [encZ_take L i t ht, h1]
    simp only [List.length_append]
    omega
theorem at_end (L : List Tok) : atT L L.length = (encL L).length := by unfold atT encL; rw [List.take_length]
theorem at_le (L : List Tok) (i : Nat) : atT L i ≤ (encL L).length := by
  unfold atT encL
  rw [List.length_append, List.length_append]
  have : encZ L = encZ (L.take i) ++ encZ (L.drop i) := by
    conv => lhs; rw [← List.take_append_drop i L]
    unfold encZ
    rw [List.map_append, List.flatten_append]
  rw [this, List.length_append]
  omega
theorem st_none {w : World} {g : Nat} {vb : Value} {b : List UInt8} {a : Nat} (hc : w.heap[g]? = some (.cells #[vb, .int .i64 (a : Int), .nilIface] 140 (0, 0))) (hb : RdB w vb b) (hap : 0 < b.length → ∀ k, vb.ownBlock = some k → k ≠ g) (hl : a ≤ b.length) : Rdr.St w g vb b ⟨a, none⟩ := ⟨⟨.nilIface, hc, rfl⟩, hb, hap, hl⟩
theorem st_cell {w : World} {g : Nat} {vb : Value} {b : List UInt8} {a : Nat} (h : Rdr.St w g vb b ⟨a, none⟩) : w.heap[g]? = some (.cells #[vb, .int .i64 (a : Int), .nilIface] 140 (0, 0)) := by
  obtain ⟨⟨ev, h1, h2⟩, _⟩ := h
  obtain rfl : ev = .nilIface := h2
  exact h1
/-- A row of bytes in a block of its own: a cell, a store. -/
theorem row_cell {W : World} {gd m : Nat} {xs : List UInt8} (h : OwB W (.slice (some ⟨gd, 0, none⟩) m m) xs) (hm : xs.length = m) (k : Nat) (x : UInt8) (hx : xs[k]? = some x) : W.cell? ⟨gd, k, none⟩ = some (vu8 x) ∧ W.frozen? ⟨gd, k, none⟩ = false := by
  subst hm
  have hk : k < xs.length := (List.getElem?_eq_some_iff.1 hx).1
  refine ⟨?_, ?_⟩
  · obtain ⟨A9, c9, he9, _, _, hc9⟩ := h.rd
    injection he9 with e1 _ _
    subst e1
    obtain ⟨ad9, had9, hcell9⟩ := hc9 (by omega)
    injection had9 with had9
    subst had9
    have h9 := hcell9 k (vu8 x) (by rw [u8_cells, List.getElem?_map, hx]; rfl)
    rw [show (⟨gd, 0, none⟩ : Addr).add k = ⟨gd, k, none⟩ from by unfold Addr.add; split <;> simp_all] at h9
    exact h9
  · obtain ⟨cs, hcs⟩ := h.typed gd rfl
    exact blk_frozen hcs _
theorem row_store {W : World} {gd m : Nat} {xs : List UInt8} (h : OwB W (.slice (some ⟨gd, 0, none⟩) m m) xs) (hm : xs.length = m) (k : Nat) (y : UInt8) (hk : k < m) : OwB (W.setCell ⟨gd, k, none⟩ (vu8 y)) (.slice (some ⟨gd, 0, none⟩) m m) (xs.set k y) := by
  subst hm
  obtain ⟨x, hx⟩ : ∃ x, xs[k]? = some x := ⟨_, List.getElem?_eq_getElem hk⟩
  have h1 := Ow.store (f := u8) h k 0 x y (vu8 y) hx rfl (by decide)
  rw [show k * u8.sz + 0 = k from Nat.mul_one k] at h1
  exact h1
/-- What the loop keeps. -/
def Rb (w wr : World) (g : Nat) (vb : Value) (L : List Tok) (vo : Value) (i : Nat) : Prop :=
  (∃ fs : List TV, Tks wr (g + 1) vo fs ∧ fs.map TV.tok = L.take i) ∧ wr.heap[g]? = some (.cells #[vb, .int .i64 (atT L i : Int), .nilIface] 140 (0, 0)) ∧ Fr No w wr

set_option maxHeartbeats 8000000 in
set_option maxRecDepth 100000 in
theorem read_back (vb : Value) (b : List UInt8) (L : List Tok) (w : World) (hb : RdB w vb b) (hbL : b = encL L) (hL : L.length ≤ 8192) (hok : ∀ t ∈ L, okB t = true) (hxs : ∀ t ∈ L, t.2.2.length ≤ 5000) :
    Calls Tryd.prog 16 #[vb] w fun e w' => ∃ vo, e = .returned (.tuple #[vo, .nilIface]) ∧ Tl w' w.heap.size vo L ∧ Fr No w w' := by
  obtain ⟨A, c, rfl, hbc, hbm, _⟩ := id hb
  have hform := at_form L hok hxs
  have hend := at_end L
  have hle := at_le L
  have hn0 : rNum b ⟨0, none⟩ = (⟨atT L 0, none⟩, L.length) := by
    have h1 := rNum_numB b (encZ L) L.length 0 (by rw [List.drop_zero, hbL]; unfold encL numI; rw [clampN_nat L.length (by omega)]) (by omega)
    rw [h1]
    have e : atT L 0 = (numB L.length).length := by unfold atT numI; rw [clampN_nat L.length (by omega)]; simp [encZ]
    rw [e, Nat.zero_add]
  rw [← hbL] at hform hend hle
  have HB := Aside0.mk hb; have HFORM := Aside0.mk hform; have HEND := Aside0.mk hend; have HLE := Aside0.mk hle; have HN0 := Aside0.mk hn0
  clear hb hform hend hle hn0 hbL hok hxs
  go_enter Tryd.func16, Tryd.ntmps16
  go_wp2_with fail
  refine (Rdr.read_calls HB.out).mono ?_
  rintro e w1 ⟨rfl, hS, hf⟩
  have F1 : Aside0 (Fr No w w1) := ⟨hf⟩
  have AP := Aside0.mk hS.apart
  have hs1 := Rdr.num_calls hS
  rw [HN0.out] at hs1
  obtain ⟨g, hg⟩ : ∃ g, w.heap.size = g := ⟨_, rfl⟩
  have HG := Aside0.mk hg
  rw [hg] at hs1 AP ⊢
  have HS1 := Aside0.mk hs1
  clear hS hf hs1 hg
  go_wp2_with fail
  refine HS1.out.mono ?_
  rintro e w2 ⟨rfl, hS, hf⟩
  have F2 : Aside0 (Fr No w w2) := ⟨F1.out.trans hf (fun q hq hb => by have e' : q = g := hb; have := HG.out; omega)⟩
  have HS2 := Aside0.mk hS
  clear hS hf
  go_wp2_with fail
  refine (Rdr.err_calls HS2.out).mono ?_
  rintro e w3 ⟨ev, he, rfl, hw⟩
  obtain rfl : ev = .nilIface := he
  subst hw
  have hn8 : ¬ (8192 : Int) < (L.length : Int) := by omega
  go_wp2_with fail
  clear hn8
  go_loopw [6, 7] (fun v6 v7 wr => ∃ i : Nat, v7 = .int .i64 (i : Int) ∧ i ≤ L.length ∧ Aside0 (Rb w wr g (.slice A b.length c) L v6 i)) (fun _ v7 _ => L.length - (intOf v7).toNat)
  case atStart => exact ⟨0, rfl, Nat.zero_le _, ⟨⟨[], ⟨Ow.nil _ _ _, fun q hq => (by cases hq), fun e he => (by cases he), fun i j a b _ h => by simp at h⟩, rfl⟩, st_cell HS2.out, F2.out⟩⟩
  case round =>
    obtain ⟨i, rfl, hi, HRB⟩ := hrel
    obtain ⟨⟨fs, hT, hfs⟩, hcell, hF⟩ := HRB.out
    have HT := Aside0.mk hT; have HFS := Aside0.mk hfs; have HF := Aside0.mk hF
    have HST : Aside0 (Rdr.St wr g (.slice A b.length c) b ⟨atT L i, none⟩) := ⟨st_none hcell (HB.out.no hF) AP.out (HLE.out i)⟩
    obtain ⟨Ao, co, hu⟩ := hT.row.form
    subst hu
    have hfl : fs.length = i := by have := congrArg List.length hfs; rw [List.length_map, List.length_take] at this; omega
    have HFL := Aside0.mk hfl
    have hgw : g < wr.heap.size := blk_lt hcell
    clear hT hfs hcell hF HRB hfl
    by_cases hil : i < L.length
    · have hiI : (i : Int) < (L.length : Int) := by omega
      obtain ⟨t, ht⟩ : ∃ t, L[i]? = some t := ⟨_, List.getElem?_eq_getElem hil⟩
      obtain ⟨m1, m2, ys, rest, e1, e2, e3, e4, e5, e6⟩ := HFORM.out i t ht
      have hle2 := HLE.out (i + 1)
      have hr1 := rNum_numB b (numB m2 ++ (ys ++ rest)) m1 (atT L i) e1 e3
      have hr2 := rNum_numB b (ys ++ rest) m2 (atT L i + (numB m1).length) (by rw [← List.drop_drop, e1, List.drop_left]) e4
      have hd3 : b.drop (atT L i + (numB m1).length + (numB m2).length) = ys ++ rest := by rw [← List.drop_drop, ← List.drop_drop, e1, List.drop_left, List.drop_left]
      have HR1 := Aside0.mk hr1; have HR2 := Aside0.mk hr2; have HD3 := Aside0.mk hd3; have HT2 := Aside0.mk e2; have HT0 := Aside0.mk ht
      clear hr1 hr2 hd3 e1 ht
      go_wp2_with fail
      refine (Rdr.err_calls HST.out).mono ?_
      rintro e w4 ⟨ev, he, rfl, hw⟩
      obtain rfl : ev = .nilIface := he
      subst hw
      go_wp2_with fail
      refine (Rdr.at_calls HST.out).mono ?_
      rintro e w4 ⟨rfl, hw⟩
      subst hw
      rename World => wo
      go_wp2_with fail
      have hc1 := Rdr.num_calls HST.out
      rw [HR1.out] at hc1
      refine hc1.mono ?_
      rintro e w4 ⟨rfl, hS, hf⟩
      have K4 : Aside0 (Fr (one g) wo w4) := ⟨hf⟩
      have HS4 := Aside0.mk hS
      clear hS hf hc1
      go_wp2_with fail
      have hc2 := Rdr.num_calls HS4.out
      rw [HR2.out] at hc2
      refine hc2.mono ?_
      rintro e w5 ⟨rfl, hS, hf⟩
      have K5 : Aside0 (Fr (one g) wo w5) := ⟨K4.out.trans hf (fun _ _ h => h)⟩
      have HS5 := Aside0.mk hS
      clear hS hf hc2
      dsimp only at *
      go_upto_region 11 with fail
      have XB0 := heap_alloc_new w5 (.cells #[.int .i64 (m2 : Int), .int .i64 (m1 : Int), .slice none 0 0] 117)
      have K6 : Aside0 (Fr (one g) wo (w5.alloc (.cells #[.int .i64 (m2 : Int), .int .i64 (m1 : Int), .slice none 0 0] 117))) := ⟨K5.out.alloc _⟩
      have HS6 : Aside0 (Rdr.St (w5.alloc (.cells #[.int .i64 (m2 : Int), .int .i64 (m1 : Int), .slice none 0 0] 117)) g (.slice A b.length c) b ⟨atT L i + (numB m1).length + (numB m2).length, none⟩) := ⟨HS5.out.no ((Fr.refl _ _).alloc _)⟩
      have hwo5 := K5.out.size
      change Code.wp _ _ _ _ (w5.alloc (.cells #[.int .i64 (m2 : Int), .int .i64 (m1 : Int), .slice none 0 0] 117))
      generalize w5.alloc (.cells #[.int .i64 (m2 : Int), .int .i64 (m1 : Int), .slice none 0 0] 117) = w6 at XB0 K6 HS6 ⊢
      obtain ⟨gt, hgt⟩ : ∃ gt, w5.heap.size = gt := ⟨_, rfl⟩
      rw [hgt] at XB0 hwo5 ⊢
      clear hgt
      have XB := Aside0.mk XB0
      have HWO5 := Aside0.mk hwo5
      clear hwo5
      go_wp2_with fail
      refine (Rdr.err_calls HS6.out).mono ?_
      rintro e w7 ⟨ev, he, rfl, hw⟩
      obtain rfl : ev = .nilIface := he
      subst hw
      have d1 : w6.cell? ⟨gt, 1, Option.none⟩ = some (.int .i64 (m1 : Int)) := by rw [blk_cell XB0]; rfl
      have d0 : w6.cell? ⟨gt, 0, Option.none⟩ = some (.int .i64 (m2 : Int)) := by rw [blk_cell XB0]; rfl
      clear XB0
      rcases e6 with ⟨h1, h2, h3⟩ | ⟨h1, h2, h3, h4⟩
      · have hm1 : ((m1 : Int) == 0) = false := by rw [beq_eq_false_iff_ne]; omega
        have HPOS : Aside0 (atT L (i + 1) = atT L i + (numB m1).length + (numB m2).length) := ⟨by rw [HT2.out, h3]; rfl⟩
        have HTT : Aside0 (L.take (i + 1) = (fs ++ [(⟨(m2 : Int), (m1 : Int), none, 0, []⟩ : TV)]).map TV.tok) := ⟨by rw [List.take_add_one, HT0.out, List.map_append, HFS.out, h2]; rfl⟩
        have LD := ld_all (P := Tryd.prog) (ty := 117) XB.out Tryd.underlying117 rfl (by kernel_rfl)
        have H2 : Aside0 (Tks (w6.alloc (.cells (tkC (m2 : Int) (m1 : Int) (.slice none 0 0)) 117)) (g + 1) (.slice Ao fs.length co) fs) := ⟨(HT.out.fr K6.out (fun q hq hb => by have e' : q = g := hb; omega)).no ((Fr.refl _ _).alloc _)⟩
        have hfb : fs.length ≤ 8192 := by rw [HFL.out]; omega
        clear h1 h2 h3 d0
        go_wp2_with (first
          | (at_builtin; (try simp only [Act.put, List.setIfInBounds_toArray, List.set_cons_zero, List.set_cons_succ]); go_loud (refine apN (f := fT) rfl (.tmp 93) (.tmp 95) _ _ (.agg #[.int .i64 0, .int .i64 0, .slice none 0 0]) 40 rfl Tryd.underlying44 infoT rfl (by decide) (by decide) (.slice Ao fs.length co) fs (.slice (some ⟨w6.heap.size, 0, none⟩) 1 1) [(⟨(m2 : Int), (m1 : Int), none, 0, []⟩ : TV)] rfl rfl H2.out.row (rd_one w6 (⟨(m2 : Int), (m1 : Int), none, 0, []⟩ : TV) _ rfl _) (by simp; omega) ?_; intro v9 w9 i1 i2 i3 i4; have I1 := Aside0.mk i1; have I2 := Aside0.mk i2; have I3 := Aside0.mk i3; clear i1 i2 i3 i4))
          | (refine ldG (.tmp 9) 117 _ _ rfl rfl (LD _ (Fr.refl _ _)) (by first | rfl | (go_simp; done)) ?_)
          | (refine lsX rfl (ex_buildSlice (oneT (m2 : Int) (m1 : Int) (.slice none 0 0) w6) rfl rfl) ?_))
        clear LD
        go_roundw
        case rel =>
          have hF9 : Fr No w w9 := ((HF.out.trans K6.out (fun q hq hb => by have e' : q = g := hb; have := HG.out; omega)).alloc (.cells (tkC (m2 : Int) (m1 : Int) (.slice none 0 0)) 117)).trans I2.out (fun q hq hb => by have := HT.out.new q hb; have := HG.out; omega)
          refine ⟨i + 1, by go_num, by omega, ⟨⟨fs ++ [(⟨(m2 : Int), (m1 : Int), none, 0, []⟩ : TV)], H2.out.snoc (by have := K6.out.size; simp; omega) (Ow.nil _ _ _) (fun q hq => by cases hq) (fun x hx q hq hb => by cases hb) I1.out I2.out I3.out, HTT.out.symm⟩, ?_, hF9⟩⟩
          rw [HPOS.out]
          exact I2.out.heap (((Fr.refl No w6).alloc (.cells (tkC (m2 : Int) (m1 : Int) (.slice none 0 0)) 117)).heap (st_cell HS6.out) id) (fun hb => by have := HT.out.new g hb; omega)
        case measure => simp [intOf]; omega
      · have hm1 : ((m1 : Int) == 0) = true := by rw [h1]; rfl
        have HTT : Aside0 (∀ D : Nat, L.take (i + 1) = (fs ++ [(⟨0, (m1 : Int), some ⟨D, 0, none⟩, m2, ys⟩ : TV)]).map TV.tok) := ⟨fun D => by rw [List.take_add_one, HT0.out, List.map_append, HFS.out, h3, h1]; rfl⟩
        obtain ⟨p2, hp2⟩ : ∃ p2, atT L i + (numB m1).length + (numB m2).length = p2 := ⟨_, rfl⟩
        rw [hp2] at HS6 HD3 HT2
        have hpb : p2 + m2 ≤ b.length := by have := HT2.out; omega
        have HYS := Aside0.mk h4
        have hm2 : ((m2 : Int) == 0) = false := by rw [beq_eq_false_iff_ne]; omega
        have hm25 : m2 ≤ 5000 := by omega
        have hwl : IntKind.i64.wrap ((b.length : Int) - (p2 : Int)) = (b.length : Int) - (p2 : Int) := by rw [i64_left]; exact wrap64_in _ (by have h9 := hbm; unfold maxLen at h9; omega)
        have hml : ¬ (b.length : Int) - (p2 : Int) < (m2 : Int) := by omega
        have f0 : w6.frozen? ⟨gt, 0, Option.none⟩ = false := blk_frozen XB.out _
        clear h1 h3 h4 hp2
        go_wp2_with fail
        have X7 : Aside0 ((w6.setCell ⟨gt, 0, none⟩ (.int .i64 0)).heap[gt]? = some (.cells #[.int .i64 0, .int .i64 (m1 : Int), .slice none 0 0] 117 (0, 0))) := ⟨by simpa using blk_set XB.out 0 (.int .i64 0)⟩
        have K7 : Aside0 (Fr (one g) wo (w6.setCell ⟨gt, 0, none⟩ (.int .i64 0))) := ⟨K6.out.setCell (p := ⟨gt, 0, none⟩) (.inr HWO5.out) _⟩
        have HS7 : Aside0 (Rdr.St (w6.setCell ⟨gt, 0, none⟩ (.int .i64 0)) g (.slice A b.length c) b ⟨p2, none⟩) := ⟨by
          have hgg : g ≠ gt := by have := HWO5.out; omega
          exact st_none ((fr_one_set w6 gt 0 _).heap (st_cell HS6.out) (fun e => hgg e)) (HB.out.no (HF.out.trans K7.out (fun q hq hb => by have e' : q = g := hb; have := HG.out; omega))) AP.out (by omega)⟩
        clear d0 d1 f0
        generalize w6.setCell ⟨gt, 0, none⟩ (.int .i64 0) = w7 at X7 K7 HS7 ⊢
        refine (Rdr.at_calls HS7.out).mono ?_
        rintro e w8 ⟨rfl, hw⟩
        subst hw
        obtain ⟨w8, hmk, hOw, hFr⟩ := make_u8 m2 (by omega) w7
        have X8 : Aside0 (w8.heap[gt]? = some (.cells #[.int .i64 0, .int .i64 (m1 : Int), .slice none 0 0] 117 (0, 0))) := ⟨hFr.heap X7.out id⟩
        have K8 : Aside0 (Fr (one g) wo w8) := ⟨K7.out.trans (hFr.mono (fun _ _ h => h.elim)) (fun _ _ h => h)⟩
        have HC8 : Aside0 (w8.heap[g]? = some (.cells #[.slice A b.length c, .int .i64 (p2 : Int), .nilIface] 140 (0, 0))) := ⟨hFr.heap (st_cell HS7.out) id⟩
        have hgd7 := K7.out.size
        have HOD := Aside0.mk hOw
        have y2 : w8.cell? ⟨gt, 2, Option.none⟩ = some (.slice none 0 0) := by rw [blk_cell X8.out]; rfl
        have z2 : w8.frozen? ⟨gt, 2, Option.none⟩ = false := blk_frozen X8.out _
        have hgt7 : gt < w7.heap.size := blk_lt X7.out
        obtain ⟨gd, hgd⟩ : ∃ gd, w7.heap.size = gd := ⟨_, rfl⟩
        rw [hgd] at hmk HOD hgd7 hgt7
        clear hOw hFr hgd
        go_upto_region 20 with (refine lsX rfl (ex_makeSlice hmk rfl rfl rfl) ?_)
        have X9 : Aside0 ((w8.setCell ⟨gt, 2, none⟩ (.slice (some ⟨gd, 0, none⟩) m2 m2)).heap[gt]? = some (.cells #[.int .i64 0, .int .i64 (m1 : Int), .slice (some ⟨gd, 0, none⟩) m2 m2] 117 (0, 0))) := ⟨by simpa using blk_set X8.out 2 (.slice (some ⟨gd, 0, none⟩) m2 m2)⟩
        have K9 : Aside0 (Fr (one g) wo (w8.setCell ⟨gt, 2, none⟩ (.slice (some ⟨gd, 0, none⟩) m2 m2))) := ⟨K8.out.setCell (p := ⟨gt, 2, none⟩) (.inr HWO5.out) _⟩
        have HC9 : Aside0 ((w8.setCell ⟨gt, 2, none⟩ (.slice (some ⟨gd, 0, none⟩) m2 m2)).heap[g]? = some (.cells #[.slice A b.length c, .int .i64 ((p2 + 0 : Nat) : Int), .nilIface] 140 (0, 0))) := ⟨(fr_one_set w8 gt 2 _).heap HC8.out (fun e => by have e' : g = gt := e; have := HWO5.out; omega)⟩
        have HO9 : Aside0 (OwB (w8.setCell ⟨gt, 2, none⟩ (.slice (some ⟨gd, 0, none⟩) m2 m2)) (.slice (some ⟨gd, 0, none⟩) m2 m2) (ys.take 0 ++ List.replicate (m2 - 0) 0)) := ⟨HOD.out.fr (fr_one_set w8 gt 2 _) (fun q hq hb => by
          have e' : q = gt := hb
          have e2 : gd = q := by simpa [Value.ownBlock] using hq
          omega)⟩
        have d2 : (w8.setCell ⟨gt, 2, none⟩ (.slice (some ⟨gd, 0, none⟩) m2 m2)).cell? ⟨gt, 2, Option.none⟩ = some (.slice (some ⟨gd, 0, none⟩) m2 m2) := by rw [blk_cell X9.out]; rfl
        clear y2 z2 hmk
        generalize w8.setCell ⟨gt, 2, none⟩ (.slice (some ⟨gd, 0, none⟩) m2 m2) = w9 at X9 K9 HC9 HO9 d2 ⊢
        go_wp2_with fail
        clear d2 hwl hml hm1 hm2
        go_loopw [83] (fun v83 wx => ∃ k : Nat, v83 = .int .i64 (k : Int) ∧ k ≤ m2 ∧ Aside0 (wx.heap[gt]? = some (.cells #[.int .i64 0, .int .i64 (m1 : Int), .slice (some ⟨gd, 0, none⟩) m2 m2] 117 (0, 0))) ∧ Aside0 (Fr (one g) wo wx) ∧ Aside0 (wx.heap[g]? = some (.cells #[.slice A b.length c, .int .i64 ((p2 + k : Nat) : Int), .nilIface] 140 (0, 0))) ∧ Aside0 (OwB wx (.slice (some ⟨gd, 0, none⟩) m2 m2) (ys.take k ++ List.replicate (m2 - k) 0))) (fun v83 _ => m2 - (intOf v83).toNat)
        case atStart => exact ⟨0, rfl, Nat.zero_le _, X9, K9, HC9, HO9⟩
        case round =>
          clear X9 K9 HC9 HO9
          obtain ⟨k, rfl, hk, X9, K9, HC9, HO9⟩ := hrel
          by_cases hkm : k < m2
          · have hkI : (k : Int) < (m2 : Int) := by omega
            obtain ⟨y, hy⟩ : ∃ y, ys[k]? = some y := ⟨_, List.getElem?_eq_getElem (by have := HYS.out; omega)⟩
            have hby : b[p2 + k]? = some y := by
              have h9 : (b.drop p2)[k]? = some y := by rw [HD3.out, List.getElem?_append_left (by have := HYS.out; omega)]; exact hy
              rw [List.getElem?_drop] at h9
              exact h9
            have hrb := rByte_ok b (p2 + k) y hby
            have HSX : Aside0 (Rdr.St wr g (.slice A b.length c) b ⟨p2 + k, none⟩) := ⟨st_none HC9.out (HB.out.no (HF.out.trans K9.out (fun q hq hb => by have e' : q = g := hb; have := HG.out; omega))) AP.out (by omega)⟩
            have hbc0 := Rdr.byte_calls HSX.out
            rw [hrb] at hbc0
            have HBC := Aside0.mk hbc0
            have HNX : Aside0 (ys.take (k + 1) ++ List.replicate (m2 - (k + 1)) 0 = (ys.take k ++ List.replicate (m2 - k) 0).set k y) := ⟨by
              have hl9 : (ys.take k).length = k := by rw [List.length_take]; have := HYS.out; omega
              rw [List.set_append_right _ _ (by omega), hl9, Nat.sub_self, show m2 - k = (m2 - (k + 1)) + 1 by omega, List.replicate_succ, List.set_cons_zero, List.take_add_one, hy]
              simp⟩
            have HLK : Aside0 ((ys.take k ++ List.replicate (m2 - k) (0 : UInt8))[k]? = some 0) := ⟨by
              rw [List.getElem?_append_right (by rw [List.length_take]; omega), List.length_take, Nat.min_eq_left (by have := HYS.out; omega), Nat.sub_self, List.getElem?_replicate, if_pos (by omega)]⟩
            have HLN : Aside0 ((ys.take k ++ List.replicate (m2 - k) (0 : UInt8)).length = m2) := ⟨by rw [List.length_append, List.length_take, List.length_replicate]; have := HYS.out; omega⟩
            have HCO := Aside0.mk (row_cell HO9.out HLN.out k 0 HLK.out)
            have HSTO := Aside0.mk (fun W h => row_store (W := W) (gd := gd) (m := m2) h HLN.out k y hkm)
            have HRB2 := Aside0.mk hrb
            clear hy hby hrb hbc0
            have d2 : wr.cell? ⟨gt, 2, Option.none⟩ = some (.slice (some ⟨gd, 0, none⟩) m2 m2) := by rw [blk_cell X9.out]; rfl
            go_wp2_with fail
            have hggt : g ≠ gt := by have := HWO5.out; omega
            have hggd : g ≠ gd := by omega
            have HGG := Aside0.mk (And.intro hggt hggd)
            clear hggt hggd
            refine Rg.start (fun k' x => k' ≤ 1 → x.cell? ⟨gt, 2, Option.none⟩ = some (.slice (some ⟨gd, 0, none⟩) m2 m2)) (by kernel_rfl) (by kernel_rfl) [4, 6] [[3, 4], [4, 3, 2, 0, 1, 5, 6]] (by kernel_rfl) (.q 0 1 (.q 1 1 (.q 2 1 (.q 3 0 (.e 4 1 (.q 5 1 (.e 6 2 (.done)))))))) (by kernel_rfl) ?_ ?_
            · exact fun _ _ => d2
            repeat (first
              | (refine Rg.q (o := ?_) (v := ?_) ?_ ?_ ?_ ?_ ?_
                 rotate_left 2
                 · (simp only [List.getElem?_toArray, List.getElem?_cons_succ, List.getElem?_cons_zero]; rfl)
                 · exact fun _ _ _ h => h
                 · first | rfl | (go_simp; done)
                 · (intro x_ hx; (try dsimp only at hx); (try (have q0 := hx (by decide))); go_simp; (try rw [if_neg (by omega)]); (try rw [if_pos (by omega)]); (try go_simp); try with_reducible rfl)
                 try simp only [Act.put, List.setIfInBounds_toArray, List.set_cons_zero, List.set_cons_succ])
              | (refine Rg.skip (o := ?_) ?_ ?_ ?_ ?_
                 rotate_left 1
                 · (simp only [List.getElem?_toArray, List.getElem?_cons_succ, List.getElem?_cons_zero]; rfl)
                 · exact fun _ _ _ h => h
                 · first | rfl | (go_simp; done)
                 try simp only [Act.put, List.setIfInBounds_toArray, List.set_cons_zero, List.set_cons_succ]))
            refine Rg.e (o := ?_) ?_ ?_
            rotate_left 1
            · (simp only [List.getElem?_toArray, List.getElem?_cons_succ, List.getElem?_cons_zero]; rfl)
            intro K hK
            go_simp
            have hbd := Rdr.byte_calls (HSX.out.no (Fr.refl No wr).drew)
            rw [HRB2.out] at hbd
            refine hbd.mono ?_
            rintro en x1 ⟨rfl, hS, hf⟩
            have J1 : Aside0 (Fr (one g) wr x1) := ⟨((Fr.refl (one g) wr).drew).trans hf (fun _ _ h => h)⟩
            have hC1 := st_cell hS
            have hO1 : OwB x1 (.slice (some ⟨gd, 0, none⟩) m2 m2) (ys.take k ++ List.replicate (m2 - k) 0) := HO9.out.fr J1.out (fun q hq hb => by
              have e' : q = g := hb
              have e2 : gd = q := by simpa [Value.ownBlock] using hq
              have := HGG.out.2; omega)
            have X1 : Aside0 (x1.heap[gt]? = some (.cells #[.int .i64 0, .int .i64 (m1 : Int), .slice (some ⟨gd, 0, none⟩) m2 m2] 117 (0, 0))) := ⟨J1.out.heap X9.out (fun e => by have e' : gt = g := e; have := HGG.out.1; omega)⟩
            obtain ⟨cc1, cc2⟩ := row_cell hO1 HLN.out k 0 HLK.out
            have e2' : x1.cell? ⟨gt, 2, Option.none⟩ = some (.slice (some ⟨gd, 0, none⟩) m2 m2) := by rw [blk_cell X1.out]; rfl
            have HO1 := Aside0.mk hO1; have HC1 := Aside0.mk hC1
            clear hS hf hC1 hO1 hbd d2
            go_simp
            refine hK.out _ _ (fun k' x => k' ≤ 1 → x.cell? ⟨gt, 2, Option.none⟩ = some (.slice (some ⟨gd, 0, none⟩) m2 m2)) (fun k x hk h => h) ?_ ?_
            · exact fun _ _ _ => e2'
            try simp only [Act.put, List.setIfInBounds_toArray, List.set_cons_zero, List.set_cons_succ]
            repeat (first
              | (refine Rg.q (o := ?_) (v := ?_) ?_ ?_ ?_ ?_ ?_
                 rotate_left 2
                 · (simp only [List.getElem?_toArray, List.getElem?_cons_succ, List.getElem?_cons_zero]; rfl)
                 · exact fun _ _ _ h => h
                 · first | rfl | (go_simp; done)
                 · (intro x_ hx; (try dsimp only at hx); (try (have q0 := hx (by decide))); go_simp; (try rw [if_neg (by omega)]); (try rw [if_pos (by omega)]); (try go_simp); try with_reducible rfl)
                 try simp only [Act.put, List.setIfInBounds_toArray, List.set_cons_zero, List.set_cons_succ])
              | (refine Rg.skip (o := ?_) ?_ ?_ ?_ ?_
                 rotate_left 1
                 · (simp only [List.getElem?_toArray, List.getElem?_cons_succ, List.getElem?_cons_zero]; rfl)
                 · exact fun _ _ _ h => h
                 · first | rfl | (go_simp; done)
                 try simp only [Act.put, List.setIfInBounds_toArray, List.set_cons_zero, List.set_cons_succ]))
            refine Rg.e (o := ?_) ?_ ?_
            rotate_left 1
            · (simp only [List.getElem?_toArray, List.getElem?_cons_succ, List.getElem?_cons_zero]; rfl)
            intro K hK
            go_simp
            clear cc1 cc2 e2'
            refine hK.out _ _ (fun _ _ => True) (fun k x hk h => fun h2 => absurd (Nat.le_trans hk h2) (by decide)) ?_ ?_
            · exact fun _ _ => trivial
            try simp only [Act.put, List.setIfInBounds_toArray, List.set_cons_zero, List.set_cons_succ]
            repeat (first
              | (refine Rg.q (o := ?_) (v := ?_) ?_ ?_ ?_ ?_ ?_
                 rotate_left 2
                 · (simp only [List.getElem?_toArray, List.getElem?_cons_succ, List.getElem?_cons_zero]; rfl)
                 · exact fun _ _ _ h => h
                 · first | rfl | (go_simp; done)
                 · (intro x_ hx; (try dsimp only at hx); (skip); go_simp; (try rw [if_neg (by omega)]); (try rw [if_pos (by omega)]); (try go_simp); try with_reducible rfl)
                 try simp only [Act.put, List.setIfInBounds_toArray, List.set_cons_zero, List.set_cons_succ])
              | (refine Rg.skip (o := ?_) ?_ ?_ ?_ ?_
                 rotate_left 1
                 · (simp only [List.getElem?_toArray, List.getElem?_cons_succ, List.getElem?_cons_zero]; rfl)
                 · exact fun _ _ _ h => h
                 · first | rfl | (go_simp; done)
                 try simp only [Act.put, List.setIfInBounds_toArray, List.set_cons_zero, List.set_cons_succ]))
            refine Rg.done ?_
            go_simp
            go_wp2
            go_roundw
            case rel =>
              refine ⟨k + 1, by go_num, by omega, ⟨(fr_one_set x1 gd k _).heap X1.out (fun e => by have e' : gt = gd := e; omega)⟩, ⟨(K9.out.trans J1.out (fun _ _ h => h)).setCell (p := ⟨gd, k, none⟩) (.inr hgd7) _⟩, ⟨(fr_one_set x1 gd k _).heap HC1.out (fun e => by have e' : g = gd := e; have := HGG.out.2; omega)⟩, ⟨by rw [HNX.out]; exact HSTO.out x1 HO1.out⟩⟩
            case measure => simp [intOf]; omega
          · have hkI : ¬ (k : Int) < (m2 : Int) := by omega
            obtain rfl : k = m2 := by omega
            have HOE : Aside0 (OwB wr (.slice (some ⟨gd, 0, none⟩) k k) ys) := ⟨by
              have := HO9.out
              rw [Nat.sub_self, List.replicate_zero, List.append_nil, List.take_of_length_le (by have := HYS.out; omega)] at this
              exact this⟩
            have LD := ld_all (P := Tryd.prog) (ty := 117) X9.out Tryd.underlying117 rfl (by kernel_rfl)
            have hlen : (0 : Nat) < k := by omega
            have hyk : ys.length = k := HYS.out
            have H2 : Aside0 (Tks (wr.alloc (.cells (tkC 0 (m1 : Int) (.slice (some ⟨gd, 0, none⟩) k k)) 117)) (g + 1) (.slice Ao fs.length co) fs) := ⟨(HT.out.fr K9.out (fun q hq hb => by have e' : q = g := hb; omega)).no ((Fr.refl _ _).alloc _)⟩
            have hfb : fs.length ≤ 8192 := by rw [HFL.out]; omega
            have HENC : Aside0 (tkC 0 (m1 : Int) (.slice (some ⟨gd, 0, none⟩) k k) = (fT.enc (⟨0, (m1 : Int), some ⟨gd, 0, none⟩, k, ys⟩ : TV)).toArray) := ⟨by
              show tkC 0 (m1 : Int) (.slice (some ⟨gd, 0, none⟩) k k) = #[.int .i64 0, .int .i64 (m1 : Int), .slice (some ⟨gd, 0, none⟩) ys.length k]
              rw [hyk]⟩
            clear hyk
            go_wp2_with (first
              | (at_builtin; (try simp only [Act.put, List.setIfInBounds_toArray, List.set_cons_zero, List.set_cons_succ]); go_loud (refine apN (f := fT) rfl (.tmp 93) (.tmp 95) _ _ (.agg #[.int .i64 0, .int .i64 0, .slice none 0 0]) 40 rfl Tryd.underlying44 infoT rfl (by decide) (by decide) (.slice Ao fs.length co) fs (.slice (some ⟨wr.heap.size, 0, none⟩) 1 1) [(⟨0, (m1 : Int), some ⟨gd, 0, none⟩, k, ys⟩ : TV)] rfl rfl H2.out.row (rd_one wr (⟨0, (m1 : Int), some ⟨gd, 0, none⟩, k, ys⟩ : TV) _ HENC.out _) (by simp; omega) ?_; intro v9 w9 i1 i2 i3 i4; have I1 := Aside0.mk i1; have I2 := Aside0.mk i2; have I3 := Aside0.mk i3; clear i1 i2 i3 i4))
              | (refine ldG (.tmp 9) 117 _ _ rfl rfl (LD _ (Fr.refl _ _)) (by first | rfl | (go_simp; done)) ?_)
              | (refine lsX rfl (ex_buildSlice (oneT 0 (m1 : Int) (.slice (some ⟨gd, 0, none⟩) k k) wr) rfl rfl) ?_))
            clear LD
            go_roundw
            case rel =>
              have hF9 : Fr No w w9 := ((HF.out.trans K9.out (fun q hq hb => by have e' : q = g := hb; have := HG.out; omega)).alloc (.cells (tkC 0 (m1 : Int) (.slice (some ⟨gd, 0, none⟩) k k)) 117)).trans I2.out (fun q hq hb => by have := HT.out.new q hb; have := HG.out; omega)
              have hdv : (⟨0, (m1 : Int), some ⟨gd, 0, none⟩, k, ys⟩ : TV).dv = .slice (some ⟨gd, 0, none⟩) k k := by
                show Value.slice (some ⟨gd, 0, none⟩) ys.length k = _
                rw [HYS.out]
              refine ⟨i + 1, by go_num, by omega, ⟨⟨fs ++ [(⟨0, (m1 : Int), some ⟨gd, 0, none⟩, k, ys⟩ : TV)], H2.out.snoc (by have := K9.out.size; simp; omega) (by rw [hdv]; exact HOE.out.no ((Fr.refl _ _).alloc _)) (fun q hq => by
                rw [hdv] at hq
                have e2 : gd = q := by simpa [Value.ownBlock] using hq
                omega) (fun x hx q hq hb => by
                rw [hdv] at hb
                have e2 : gd = q := by simpa [Value.ownBlock] using hb
                have h8 := (HT.out.own x hx).1.lt q hq
                omega) I1.out I2.out I3.out, (HTT.out gd).symm⟩, ?_, hF9⟩⟩
              rw [HT2.out, HYS.out]
              exact I2.out.heap (((Fr.refl No wr).alloc (.cells (tkC 0 (m1 : Int) (.slice (some ⟨gd, 0, none⟩) k k)) 117)).heap HC9.out id) (fun hb => by have := HT.out.new g hb; omega)
            case measure => simp [intOf]; omega
    · have hiI : ¬ (i : Int) < (L.length : Int) := by omega
      have hin : i = L.length := by omega
      have hre : rEnd b ⟨atT L i, none⟩ = ⟨atT L i, none⟩ := by
        unfold rEnd
        rw [hin, HEND.out]
        simp
      have hce := Rdr.end_calls HST.out
      rw [hre] at hce
      have HCE := Aside0.mk hce
      have HLL : Aside0 (fs.map TV.tok = L) := ⟨by rw [HFS.out, hin, List.take_length]⟩
      clear hre hce hin
      go_wp2_with fail
      refine HCE.out.mono ?_
      rintro e w4 ⟨⟨ev, he, rfl⟩, hS, hf⟩
      obtain rfl : ev = .nilIface := he
      have F4 : Aside0 (Fr No w w4) := ⟨HF.out.trans hf (fun q hq hb => by have e' : q = g := hb; have := HG.out; omega)⟩
      have HT4 : Aside0 (Tks w4 (g + 1) (.slice Ao fs.length co) fs) := ⟨HT.out.fr hf (fun q hq hb => by have e' : q = g := hb; omega)⟩
      clear hS hf
      go_wp2
      (try simp only [Exit.inBlock, Exit.then]); refine bodyPost_ret (results_list (rs := [.tmp 2, .tmp 3]) rfl (by simp) (.tmp (.tmp .nil))) rfl ?_
      exact ⟨_, rfl, Tl.down (n := g + 1) ⟨fs, HT4.out, HLL.out⟩ (by have := HG.out; omega), F4.out⟩
end Go.Proofs.YtanbddaecojijaaDoor.Tk
