/- delta.Make: walked. -/
import Derived.Test.YtanbddaecojijaaDoorDelU
import Derived.Test.YtanbddaecojijaaDoorSpecDel
import Derived.Test.YtanbddaecojijaaDoorFind
import Derived.Test.YtanbddaecojijaaDoorCutR
set_option linter.unusedVariables false
set_option linter.unusedSimpArgs false
namespace Go.Proofs.YtanbddaecojijaaDoor.Tk
open Go.RowKit Go.IntWalk Go.Proofs.YtanbddaecojijaaDoorW.PrintWords Go.Proofs.YtanbddaecojijaaDoor.B Go.Proofs.YtanbddaecojijaaDoor.PB Go.Proofs.YtanbddaecojijaaDoor.STell Go.Proofs.YtanbddaecojijaaDoor.Blk Go.Proofs.YtanbddaecojijaaDoor.Bk Go.Proofs.YtanbddaecojijaaDoor.SBlk Go.Proofs.YtanbddaecojijaaDoor.SWeak Go.Proofs.YtanbddaecojijaaDoor.Wk
attribute [local go_sem] B.max2_int B.min2_int B.max_two B.min_two

set_option maxHeartbeats 4000000 in
set_option maxRecDepth 100000 in
theorem dmake_bad (size cut len : Int) (sl : Value) (bs : List BK) (vd : Value) (w : World) (hv : Rd (fBk .u32) w sl bs) (hsz : size ≤ 9223372036854775807) (hln : len ≤ 9223372036854775807) (hE : chkE size cut len bs ≠ 0) :
    Calls Tryd.prog 47 #[.agg (sgC size cut len sl), vd] w fun e w' => e = .returned (.tuple #[.slice none 0 0, .int .i64 (chkE size cut len bs)]) ∧ Fr No w w' := by
  obtain ⟨A, c, rfl, hAc, hm, _⟩ := id hv
  obtain ⟨E, hEE⟩ : ∃ E, chkE size cut len bs = E := ⟨_, rfl⟩
  have hck := fun W hW => check_calls size cut len (.slice A bs.length c) bs W hW hsz hln
  rw [hEE] at hE hck ⊢
  have hE0 : (E == 0) = false := by rw [beq_eq_false_iff_ne]; exact hE
  have HV := Aside0.mk hv; have HCK := Aside0.mk hck
  clear hv hck hEE
  go_enter Tryd.func47, Tryd.ntmps47
  go_upto_region 1 with fail
  have hb := heap_alloc_new w (.cells (sgC size cut len (.slice A bs.length c)) 26)
  have F1 : Aside0 (Fr No w (w.alloc (.cells (sgC size cut len (.slice A bs.length c)) 26))) := ⟨(Fr.refl _ _).alloc _⟩
  change Code.wp _ _ _ _ (w.alloc (.cells (sgC size cut len (.slice A bs.length c)) 26))
  generalize w.alloc (.cells (sgC size cut len (.slice A bs.length c)) 26) = w1 at hb F1 ⊢
  have LD := ld_all (P := Tryd.prog) (ty := 26) hb Tryd.underlying26 rfl (by kernel_rfl)
  go_wp2_with (first
    | (refine ldG (.tmp 2) 26 _ _ rfl rfl (LD _ (Fr.refl _ _)) (by first | rfl | (go_simp; done)) ?_)
    | fail)
  refine (HCK.out w1 (HV.out.no F1.out)).mono ?_
  rintro e w2 ⟨rfl, hf⟩
  have F2 : Aside0 (Fr No w w2) := ⟨F1.out.none hf⟩
  clear hf LD hb
  go_wp2
  (try simp only [Exit.inBlock, Exit.then]); refine bodyPost_ret (results_list (rs := [.tmp 4, .tmp 5]) rfl (by simp) (.tmp (.tmp .nil))) rfl ?_
  exact ⟨rfl, F2.out⟩

/-- What the loop keeps. -/
def Dm (s : Nat) (f : List UInt8 → Option Nat) (nb : Nat) (d : List UInt8) (R : List Tok) (g : Nat) (w0 wr : World) (vo : Value) (k : Nat) : Prop :=
  ∃ (T : List Tok) (m : Nat), Tl wr (g + 1) vo T ∧ good nb T ∧ upto k T ∧ T.length ≤ k ∧ tell s f (d.drop k) T = R ∧ m ≤ min s (d.length - k) ∧ wr.heap[g]? = some (.cells (sc ((d.drop k).take m)) 89 (0, 0)) ∧ Fr No w0 wr
/-- How many bytes the window has. -/
def szOf (w : World) (g : Nat) : Nat := match w.cell? ⟨g, 2, none⟩ with | some (.int _ z) => z.toNat | _ => 0
theorem szOf_sc {w : World} {g : Nat} {l : List UInt8} (h : w.heap[g]? = some (.cells (sc l) 89 (0, 0))) : szOf w g = l.length := by
  unfold szOf
  rw [blk_cell h]
  rfl
theorem Tks.fr {P : Nat → Prop} {w w' : World} {n : Nat} {vo : Value} {fs : List TV} (h : Tks w n vo fs) (k : Fr P w w') (hP : ∀ q, n ≤ q → ¬ P q) : Tks w' n vo fs :=
  ⟨h.row.fr k (fun q hq hb => hP q (h.new q hq) hb), h.new, fun e he => ⟨(h.own e he).1.fr k (fun q hq hb => hP q ((h.own e he).2 q hq) hb), (h.own e he).2⟩, h.ap⟩
theorem Tl.fr {P : Nat → Prop} {w w' : World} {n : Nat} {vo : Value} {L : List Tok} (h : Tl w n vo L) (k : Fr P w w') (hP : ∀ q, n ≤ q → ¬ P q) : Tl w' n vo L := by
  obtain ⟨fs, h1, h2⟩ := h
  exact ⟨fs, h1.fr k hP, h2⟩
theorem Tl.down {w : World} {n m : Nat} {vo : Value} {L : List Tok} (h : Tl w n vo L) (hm : m ≤ n) : Tl w m vo L := by
  obtain ⟨fs, h1, h2⟩ := h
  exact ⟨fs, ⟨h1.row, fun q hq => Nat.le_trans hm (h1.new q hq), fun e he => ⟨(h1.own e he).1, fun q hq => Nat.le_trans hm ((h1.own e he).2 q hq)⟩, h1.ap⟩, h2⟩
theorem Tl.form {w : World} {n : Nat} {vo : Value} {L : List Tok} (h : Tl w n vo L) : ∃ A c, vo = .slice A L.length c := by
  obtain ⟨fs, h1, h2⟩ := h
  obtain ⟨A, c, e⟩ := h1.row.form
  exact ⟨A, c, by rw [e, ← h2, List.length_map]⟩
theorem min_or {s n k z : Nat} (hz : min s (n - k) = z) (hk : k < n) : (if (n : Int) - (k : Int) < (s : Int) then (n : Int) - (k : Int) else (s : Int)) = (z : Int) := by
  split <;> omega
theorem win_more (d : List UInt8) (k m : Nat) (x : UInt8) (h : d[k + m]? = some x) : (d.drop k).take m ++ [x] = (d.drop k).take (m + 1) := by
  rw [List.take_add_one, List.getElem?_drop, h]
  rfl
theorem win_len (d : List UInt8) (k m : Nat) (h : k + m ≤ d.length) : ((d.drop k).take m).length = m := by rw [List.length_take, List.length_drop]; omega
theorem win_out (d : List UInt8) (k m : Nat) (x : UInt8) (h : d[k]? = some x) (hm : 0 < m) : (d.drop k).take m = x :: (d.drop (k + 1)).take (m - 1) := by
  obtain ⟨m, rfl⟩ : ∃ m', m = m' + 1 := ⟨m - 1, by omega⟩
  obtain ⟨hk, hx⟩ := List.getElem?_eq_some_iff.1 h
  rw [List.drop_eq_getElem_cons hk, List.take_succ_cons, hx]
  rfl

theorem take_min (d : List UInt8) (k s m : Nat) (h : min s (d.length - k) = m) : (d.drop k).take s = (d.drop k).take m := by
  rcases Nat.le_total s (d.length - k) with h1 | h1
  · rw [← h, Nat.min_eq_left h1]
  · rw [← h, Nat.min_eq_right h1, List.take_of_length_le (by rw [List.length_drop]; omega), List.take_of_length_le (by rw [List.length_drop]; omega)]
theorem drop_min (d : List UInt8) (k s m : Nat) (h : min s (d.length - k) = m) : (d.drop k).drop s = d.drop (k + m) := by
  rw [List.drop_drop]
  rcases Nat.le_total s (d.length - k) with h1 | h1
  · rw [← h, Nat.min_eq_left h1]
  · rw [List.drop_eq_nil_of_le (by omega), List.drop_eq_nil_of_le (by omega)]
/-- One step on: a block. -/
theorem Dm.hit {s nb : Nat} {f : List UInt8 → Option Nat} {d : List UInt8} {R : List Tok} {g : Nat} {w0 w9 : World} {vo : Value} {k m i : Nat} {T : List Tok} (hs : 1 ≤ s) (hk : k < d.length) (hz : min s (d.length - k) = m) (hfi : f ((d.drop k).take m) = some i) (hi : i < nb)
    (hgd : good nb T) (hup : upto k T) (hTn : T.length ≤ k) (hR : tell s f (d.drop k) T = R) (hT : Tl w9 (g + 1) vo (addT T ((i : Int), 1, []))) (hc : w9.heap[g]? = some (.cells (sc []) 89 (0, 0))) (hf : Fr No w0 w9) : Dm s f nb d R g w0 w9 vo (k + m) := by
  refine ⟨addT T ((i : Int), 1, []), 0, hT, good_add hgd ⟨by simp, by simp, fun _ => ⟨rfl, by simp only; omega⟩, fun h9 => by simp at h9⟩ (.inr rfl), fun t ht => ?_, ?_, ?_, Nat.zero_le _, by simpa using hc, hf⟩
  · have := upto_add (t := ((i : Int), (1 : Int), ([] : List UInt8))) hup t ht
    simp at this
    omega
  · have := (addT_length T ((i : Int), 1, [])).1
    omega
  · rw [← hR, tell_hit T hs (fun h => ?_) (i := i) (by rw [take_min d k s m hz]; exact hfi), drop_min d k s m hz]
    have := congrArg List.length h
    rw [List.length_drop] at this
    simp at this
    omega
/-- One step on: a byte. -/
theorem Dm.miss {s nb : Nat} {f : List UInt8 → Option Nat} {d : List UInt8} {R : List Tok} {g : Nat} {w0 w9 : World} {vo : Value} {k m : Nat} {x : UInt8} {T : List Tok} (hk : d[k]? = some x) (hz : min s (d.length - k) = m) (hfi : f ((d.drop k).take m) = none)
    (hgd : good nb T) (hup : upto k T) (hTn : T.length ≤ k) (hR : tell s f (d.drop k) T = R) (hT : Tl w9 (g + 1) vo (addT T (0, 0, [x]))) (hc : w9.heap[g]? = some (.cells (sc ((d.drop (k + 1)).take (m - 1))) 89 (0, 0))) (hf : Fr No w0 w9) : Dm s f nb d R g w0 w9 vo (k + 1) := by
  obtain ⟨hkl, hx⟩ := List.getElem?_eq_some_iff.1 hk
  refine ⟨addT T (0, 0, [x]), m - 1, hT, good_add hgd ⟨by simp, by simp, fun h9 => by simp at h9, fun _ => ⟨rfl, by simp⟩⟩ (.inl rfl), fun t ht => ?_, ?_, ?_, by omega, hc, hf⟩
  · have := upto_add (t := ((0 : Int), (0 : Int), [x])) hup t ht
    simpa using this
  · have := (addT_length T (0, 0, [x])).1
    omega
  · have e : d.drop k = x :: d.drop (k + 1) := by rw [List.drop_eq_getElem_cons hkl, hx]
    rw [← hR, e, tell_miss T (by rw [← e, take_min d k s m hz]; exact hfi)]

set_option maxHeartbeats 8000000 in
set_option maxRecDepth 100000 in
theorem dmake_big (s c L : Nat) (sl vd : Value) (bs : List BK) (d : List UInt8) (w : World) (hv : Rd (fBk .u32) w sl bs) (hd : RdB w vd d) (hl : d.length ≤ 100000) (hT9 : (tell s (fB s L c bs) d []).length ≤ 8192) (hE : chkE s c L bs = 0) (hs1 : 1 ≤ s) (hs : s ≤ 4096) (hc : c ≤ 32) (hL : L ≤ 9223372036854775807) (hn : bs.length ≤ 4096) (hin : ∀ i, i < bs.length → i * s < L) :
    Calls Tryd.prog 47 #[.agg (sgC s c L sl), vd] w fun e w' => ∃ vo, e = .returned (.tuple #[vo, .int .i64 0]) ∧ Tl w' w.heap.size vo (tell s (fB s L c bs) d []) ∧ Fr No w w' := by
  obtain ⟨A, ca, rfl, _⟩ := id hv
  obtain ⟨A', c', rfl, hdc, hdm, hdcell⟩ := id hd
  have hck := fun W hW => check_calls (s : Int) (c : Int) (L : Int) (.slice A bs.length ca) bs W hW (by omega) (by omega)
  simp only [hE] at hck
  obtain ⟨R, hR⟩ : ∃ R, tell s (fB s L c bs) d [] = R := ⟨_, rfl⟩
  rw [hR] at hT9 ⊢
  have HT9 := Aside0.mk hT9
  clear hT9
  have HV := Aside0.mk hv; have HD := Aside0.mk hd; have HCK := Aside0.mk hck; have HIN := Aside0.mk hin; have HR := Aside0.mk hR; have HDC := Aside0.mk hdcell
  clear hv hd hck hin hR hE hdcell
  go_enter Tryd.func47, Tryd.ntmps47
  go_upto_region 1 with fail
  have hb := heap_alloc_new w (.cells (sgC s c L (.slice A bs.length ca)) 26)
  have F1 : Aside0 (Fr No w (w.alloc (.cells (sgC s c L (.slice A bs.length ca)) 26))) := ⟨(Fr.refl _ _).alloc _⟩
  change Code.wp _ _ _ _ (w.alloc (.cells (sgC s c L (.slice A bs.length ca)) 26))
  generalize w.alloc (.cells (sgC s c L (.slice A bs.length ca)) 26) = w1 at hb F1 ⊢
  have HB := Aside0.mk hb
  have LD := ld_all (P := Tryd.prog) (ty := 26) hb Tryd.underlying26 rfl (by kernel_rfl)
  clear hb
  go_wp2_with (first
    | (refine ldG (.tmp 2) 26 _ _ rfl rfl (LD _ (Fr.refl _ _)) (by first | rfl | (go_simp; done)) ?_)
    | fail)
  refine (HCK.out w1 (HV.out.no F1.out)).mono ?_
  rintro e w2 ⟨rfl, hf⟩
  have F2 : Aside0 (Fr No w w2) := ⟨F1.out.none hf⟩
  have LD2 := ld_all (P := Tryd.prog) (ty := 26) (hf.heap HB.out id) Tryd.underlying26 rfl (by kernel_rfl)
  have HB2 : Aside0 (w2.heap[w.heap.size]? = some (.cells (sgC s c L (.slice A bs.length ca)) 26 (0, 0))) := ⟨hf.heap HB.out id⟩
  clear hf LD
  go_wp2_with (first
    | (refine ldG (.tmp 2) 26 _ _ rfl rfl (LD2 _ (Fr.refl _ _)) (by first | rfl | (go_simp; done)) ?_)
    | fail)
  refine (index_calls s c L (.slice A bs.length ca) bs w2 (HV.out.no F2.out) (by omega)).mono ?_
  rintro e w3 ⟨pt, rfl, hT, hf⟩
  have F3 : Aside0 (Fr No w w3) := ⟨F2.out.none hf⟩
  have HB3 : Aside0 (w3.heap[w.heap.size]? = some (.cells (sgC s c L (.slice A bs.length ca)) 26 (0, 0))) := ⟨hf.heap HB2.out id⟩
  have HT := Aside0.mk hT
  obtain ⟨mb, hmb, rfl, _⟩ := id hT
  have hwm : w.heap.size < w3.heap.size := blk_lt HB3.out
  have hsz3 := F3.out.size
  clear hf hT LD2 hmb
  go_wp2_with fail
  obtain ⟨g, hg⟩ : ∃ g, w3.heap.size = g := ⟨_, rfl⟩
  have HG := Aside0.mk hg
  have D0 : Aside0 (Dm s (fB s L c bs) bs.length d R g w3 (w3.alloc (.cells (sc []) 89)) (.slice none 0 0) 0) := ⟨[], 0, Tl.nil _ _, good_nil _, (fun t ht => by cases ht), Nat.le_refl _, HR.out, Nat.zero_le _, by rw [← hg]; exact heap_alloc_new _ _, (Fr.refl _ _).alloc _⟩
  rw [hg]
  clear hg
  go_loopw [7, 9] (fun v7 v9 wr => ∃ k : Nat, v9 = .int .i64 (k : Int) ∧ k ≤ d.length ∧ Aside0 (Dm s (fB s L c bs) bs.length d R g w3 wr v7 k)) (fun _ v9 _ => d.length - (intOf v9).toNat)
  case atStart => exact ⟨0, rfl, Nat.zero_le _, D0⟩
  case round =>
    obtain ⟨k, rfl, hk, HDM⟩ := hrel
    by_cases hkl : k < d.length
    · have hkI : (k : Int) < (d.length : Int) := by omega
      obtain ⟨T, m, hTl, hgd, hup, hTn, hR, hm, hgc, hf⟩ := HDM.out
      obtain ⟨z, hz⟩ : ∃ z, min s (d.length - k) = z := ⟨_, rfl⟩
      have hzI := min_or hz hkl
      rw [hz] at hm
      have hz1 : 1 ≤ z := by omega
      have hzk : k + z ≤ d.length := by omega
      have hzs : z ≤ s := by omega
      have HTL := Aside0.mk hTl; have HGD := Aside0.mk hgd; have HUP := Aside0.mk hup; have HR1 := Aside0.mk hR; have HF := Aside0.mk hf
      have HZ := Aside0.mk hz
      have HGC := Aside0.mk hgc
      have c0 : wr.cell? ⟨w.heap.size, 0, Option.none⟩ = some (.int .i64 (s : Int)) := by rw [blk_cell (hf.heap HB3.out id)]; rfl
      clear hTl hgd hup hR hgc hf HDM hz
      go_wp2_with fail
      clear c0 hzI
      rename World => wo
      obtain ⟨ad, hA, _⟩ := HDC.out (by omega)
      have HA := Aside0.mk hA
      have HX : Aside0 (∀ x, Fr (one g) wo x → Fr No w3 x) := ⟨fun x hx => HF.out.trans hx (fun q hq hb => by have e' : q = g := hb; have := HG.out; omega)⟩
      clear hA
      go_loopw [] (fun wx => ∃ m : Nat, m ≤ z ∧ Aside0 (wx.heap[g]? = some (.cells (sc ((d.drop k).take m)) 89 (0, 0))) ∧ Aside0 (Fr (one g) wo wx)) (fun wx => z - szOf wx g)
      case atStart => exact ⟨m, hm, HGC, ⟨Fr.refl _ _⟩⟩
      case round =>
        clear HGC hm
        obtain ⟨m, hm, HGC, HF1⟩ := hrel
        have hml := win_len d k m (by omega)
        have HMORE : Aside0 (∀ x, d[k + m]? = some x → (d.drop k).take m ++ [x] = (d.drop k).take (m + 1)) := ⟨fun x hx => win_more d k m x hx⟩
        have HLWZ : Aside0 (m = z → (d.drop k).take m = (d.drop k).take z) := ⟨fun e => by rw [e]⟩
        obtain ⟨l, hlw⟩ : ∃ l, (d.drop k).take m = l := ⟨_, rfl⟩
        rw [hlw] at HGC hml HMORE HLWZ
        have HML := Aside0.mk hml
        have LD := ld_all (P := Tryd.prog) (ty := 89) HGC.out Tryd.underlying89 rfl (by kernel_rfl)
        clear hlw hml
        go_wp2_with (first
          | (refine ldG (.tmp 10) 89 _ _ rfl rfl (LD _ (Fr.refl _ _)) (by first | rfl | (go_simp; done)) ?_)
          | fail)
        refine (size_calls l wr (by have := HML.out; omega)).mono ?_
        rintro e w5 ⟨rfl, hf⟩
        rw [HML.out]
        have F5 : Aside0 (Fr No wr w5) := ⟨hf⟩
        clear hf LD
        by_cases hmz : m < z
        · have hmI : (m : Int) < (z : Int) := by omega
          have hkm : k + m < d.length := by omega
          have hwk : IntKind.i64.wrap ((k : Int) + (m : Int)) = (k : Int) + (m : Int) := by rw [i64_left]; exact wrap64_in _ (by omega)
          obtain ⟨x, hx0⟩ : ∃ x, d[k + m]? = some x := ⟨_, List.getElem?_eq_getElem hkm⟩
          obtain ⟨ad2, hA2, hcv⟩ := rd_elem (((HD.out.no F3.out).no (HX.out _ HF1.out)).no F5.out) (k + m) x hx0
          have k0 : w5.cell? (ad2.add (k + m)) = some (vu8 x) := by
            have := hcv 0 (vu8 x) rfl
            rw [add_add, Nat.add_zero, show (k + m) * u8.sz = k + m from Nat.mul_one _] at this
            exact this
          have HA2 := Aside0.mk hA2
          have HC5 : Aside0 (w5.heap[g]? = some (.cells (sc l) 89 (0, 0))) := ⟨F5.out.heap HGC.out id⟩
          have LD5 := ld_all (P := Tryd.prog) (ty := 89) HC5.out Tryd.underlying89 rfl (by kernel_rfl)
          have HXX := Aside0.mk (HMORE.out x hx0)
          clear hA2 hcv hx0 HMORE HLWZ
          go_wp2
          refine Rg.start (fun k' y => k' ≤ 2 → Fr No w5 y) (by kernel_rfl) (by kernel_rfl) [4, 8, 9] [[3, 4], [3, 4, 2, 5, 1, 6, 7, 0, 8], [3, 4, 2, 5, 1, 6, 7, 0, 8, 9]] (by kernel_rfl) (.q 0 1 (.q 1 1 (.q 2 1 (.q 3 0 (.e 4 1 (.q 5 1 (.q 6 1 (.q 7 1 (.e 8 2 (.e 9 3 (.done))))))))))) (by kernel_rfl) ?_ ?_
          · exact fun _ _ => (Fr.refl _ _).drew
          repeat (first
            | (refine Rg.q (o := ?_) (v := ?_) ?_ ?_ ?_ ?_ ?_
               rotate_left 2
               · (simp only [List.getElem?_toArray, List.getElem?_cons_succ, List.getElem?_cons_zero]; rfl)
               · exact fun _ _ _ h => h
               · first | rfl | (go_simp; done)
               · (intro x_ hx; (try dsimp only at hx); first | ((refine (ex_ix 22 5 1 _ _ ad2 A' d.length c' (k + m) _ Tryd.underlying22 (by kernel_rfl) rfl rfl HA2.out rfl (by omega) hkm).trans ?_; with_reducible rfl)) | ((refine (ex_ld rfl rfl (LD5 _ (hx (by decide)))).trans ?_; with_reducible rfl)) | (try (have q0 := (hx (by decide)).cell k0 id); (try clear hx); go_simp; (try rw [if_neg (by omega)]); (try rw [if_pos (by omega)]); (try go_simp); try with_reducible rfl))
               try simp only [Act.put, List.setIfInBounds_toArray, List.set_cons_zero, List.set_cons_succ])
            | (refine Rg.skip (o := ?_) ?_ ?_ ?_ ?_
               rotate_left 1
               · (simp only [List.getElem?_toArray, List.getElem?_cons_succ, List.getElem?_cons_zero]; rfl)
               · exact fun _ _ _ h => h
               · first | rfl | (go_simp; done)
               try simp only [Act.put, List.setIfInBounds_toArray, List.set_cons_zero, List.set_cons_succ]))
          refine Rg.e (o := ?_) ?_ ?_
          rotate_left 1
          · (simp only [List.getElem?_toArray, List.getElem?_cons_succ, List.getElem?_cons_zero]; rfl)
          intro K hK
          go_simp
          refine (size_calls l _ (by have := HML.out; omega)).mono ?_
          rintro en x1 ⟨rfl, hf⟩
          rw [HML.out]
          have K1 : Aside0 (Fr No w5 x1) := ⟨((Fr.refl No w5).drew).none hf⟩
          clear hf
          go_simp
          refine hK.out _ _ (fun k' y => k' ≤ 2 → Fr No w5 y) (fun k x hk h => h) ?_ ?_
          · exact fun _ _ _ => K1.out
          try simp only [Act.put, List.setIfInBounds_toArray, List.set_cons_zero, List.set_cons_succ]
          repeat (first
            | (refine Rg.q (o := ?_) (v := ?_) ?_ ?_ ?_ ?_ ?_
               rotate_left 2
               · (simp only [List.getElem?_toArray, List.getElem?_cons_succ, List.getElem?_cons_zero]; rfl)
               · exact fun _ _ _ h => h
               · first | rfl | (go_simp; done)
               · (intro x_ hx; (try dsimp only at hx); first | ((refine (ex_ix 22 5 1 _ _ ad2 A' d.length c' (k + m) _ Tryd.underlying22 (by kernel_rfl) rfl rfl HA2.out rfl (by omega) hkm).trans ?_; with_reducible rfl)) | ((refine (ex_ld rfl rfl (LD5 _ (hx (by decide)))).trans ?_; with_reducible rfl)) | (try (have q0 := (hx (by decide)).cell k0 id); (try clear hx); go_simp; (try rw [if_neg (by omega)]); (try rw [if_pos (by omega)]); (try go_simp); try with_reducible rfl))
               try simp only [Act.put, List.setIfInBounds_toArray, List.set_cons_zero, List.set_cons_succ])
            | (refine Rg.skip (o := ?_) ?_ ?_ ?_ ?_
               rotate_left 1
               · (simp only [List.getElem?_toArray, List.getElem?_cons_succ, List.getElem?_cons_zero]; rfl)
               · exact fun _ _ _ h => h
               · first | rfl | (go_simp; done)
               try simp only [Act.put, List.setIfInBounds_toArray, List.set_cons_zero, List.set_cons_succ]))
          refine Rg.e (o := ?_) ?_ ?_
          rotate_left 1
          · (simp only [List.getElem?_toArray, List.getElem?_cons_succ, List.getElem?_cons_zero]; rfl)
          intro K hK
          go_simp
          refine (in_calls l x _ (by have := HML.out; omega)).mono ?_
          rintro en x2 ⟨rfl, hf⟩
          rw [HXX.out]
          have K2 : Aside0 (Fr No w5 x2) := ⟨K1.out.none hf⟩
          clear hf
          go_simp
          refine hK.out _ _ (fun k' y => k' ≤ 2 → Fr No w5 y) (fun k x hk h => h) ?_ ?_
          · exact fun _ _ _ => K2.out
          try simp only [Act.put, List.setIfInBounds_toArray, List.set_cons_zero, List.set_cons_succ]
          repeat (first
            | (refine Rg.q (o := ?_) (v := ?_) ?_ ?_ ?_ ?_ ?_
               rotate_left 2
               · (simp only [List.getElem?_toArray, List.getElem?_cons_succ, List.getElem?_cons_zero]; rfl)
               · exact fun _ _ _ h => h
               · first | rfl | (go_simp; done)
               · (intro x_ hx; (try dsimp only at hx); first | ((refine (ex_ix 22 5 1 _ _ ad2 A' d.length c' (k + m) _ Tryd.underlying22 (by kernel_rfl) rfl rfl HA2.out rfl (by omega) hkm).trans ?_; with_reducible rfl)) | ((refine (ex_ld rfl rfl (LD5 _ (hx (by decide)))).trans ?_; with_reducible rfl)) | (try (have q0 := (hx (by decide)).cell k0 id); (try clear hx); go_simp; (try rw [if_neg (by omega)]); (try rw [if_pos (by omega)]); (try go_simp); try with_reducible rfl))
               try simp only [Act.put, List.setIfInBounds_toArray, List.set_cons_zero, List.set_cons_succ])
            | (refine Rg.skip (o := ?_) ?_ ?_ ?_ ?_
               rotate_left 1
               · (simp only [List.getElem?_toArray, List.getElem?_cons_succ, List.getElem?_cons_zero]; rfl)
               · exact fun _ _ _ h => h
               · first | rfl | (go_simp; done)
               try simp only [Act.put, List.setIfInBounds_toArray, List.set_cons_zero, List.set_cons_succ]))
          refine Rg.e (o := ?_) ?_ ?_
          rotate_left 1
          · (simp only [List.getElem?_toArray, List.getElem?_cons_succ, List.getElem?_cons_zero]; rfl)
          intro K hK
          rw [if_pos (by first | rfl | (go_simp; done))]
          have HZ2 : Aside0 (x2.heap[g]? = some (.cells (sc l) 89 (0, 0))) := ⟨K2.out.heap HC5.out id⟩
          refine PB.opStRow (.tmp 10) (.tmp 44) 89 g 89 _ (sc ((d.drop k).take (m + 1))) rfl rfl rfl HZ2.out (by kernel_rfl) rfl (by simp [Value.oneCell']) ?_
          refine hK.out _ _ (fun _ _ => True) (fun k x hk h => fun h2 => absurd (Nat.le_trans hk h2) (by decide)) ?_ ?_
          · exact fun _ _ => trivial
          try simp only [Act.put, List.setIfInBounds_toArray, List.set_cons_zero, List.set_cons_succ]
          repeat (first
            | (refine Rg.q (o := ?_) (v := ?_) ?_ ?_ ?_ ?_ ?_
               rotate_left 2
               · (simp only [List.getElem?_toArray, List.getElem?_cons_succ, List.getElem?_cons_zero]; rfl)
               · exact fun _ _ _ h => h
               · first | rfl | (go_simp; done)
               · (intro x_ hx; (try dsimp only at hx); (skip); go_simp; (try rw [if_neg (by omega)]); (try rw [if_pos (by omega)]); (try go_simp); try with_reducible rfl)
               try simp only [Act.put, List.setIfInBounds_toArray, List.set_cons_zero, List.set_cons_succ])
            | (refine Rg.skip (o := ?_) ?_ ?_ ?_ ?_
               rotate_left 1
               · (simp only [List.getElem?_toArray, List.getElem?_cons_succ, List.getElem?_cons_zero]; rfl)
               · exact fun _ _ _ h => h
               · first | rfl | (go_simp; done)
               try simp only [Act.put, List.setIfInBounds_toArray, List.set_cons_zero, List.set_cons_succ]))
          refine Rg.done ?_
          clear k0 LD5
          go_simp
          have HN : Aside0 ((x2.setRow g (sc ((d.drop k).take (m + 1)))).heap[g]? = some (.cells (sc ((d.drop k).take (m + 1))) 89 (0, 0))) := ⟨setRow_heap _ _ _ _ _ _ HZ2.out⟩
          go_wp2
          go_roundw
          case rel => exact ⟨m + 1, by omega, HN, ⟨fr_setRow (HF1.out.trans ((F5.out.none K2.out).mono (fun _ _ h => h.elim)) (fun _ _ h => h)) (.inl rfl) _⟩⟩
          case measure => rw [szOf_sc HN.out, szOf_sc HGC.out, win_len d k (m + 1) (by omega), HML.out]; omega
        · have hmI : ¬ (m : Int) < (z : Int) := by omega
          obtain rfl : m = z := by omega
          have HLW := Aside0.mk (HLWZ.out rfl)
          have HC5 : Aside0 (w5.heap[g]? = some (.cells (sc l) 89 (0, 0))) := ⟨F5.out.heap HGC.out id⟩
          have HF5 : Aside0 (Fr (one g) wo w5) := ⟨HF1.out.trans (F5.out.mono (fun _ _ h => h.elim)) (fun _ _ h => h)⟩
          clear HLWZ HMORE hmz
          go_wp2_with fail
          have hmm : ¬ (m : Int) < (m : Int) := by omega
          go_loopw [] (fun wx => Aside0 (wx.heap[g]? = some (.cells (sc l) 89 (0, 0))) ∧ Aside0 (Fr (one g) wo wx)) (fun _ => 0)
          case atStart => exact ⟨HC5, HF5⟩
          case round =>
            obtain ⟨HC6, HF6⟩ := hrel
            have LD6 := ld_all (P := Tryd.prog) (ty := 89) HC6.out Tryd.underlying89 rfl (by kernel_rfl)
            go_wp2_with (first
              | (refine ldG (.tmp 10) 89 _ _ rfl rfl (LD6 _ (Fr.refl _ _)) (by first | rfl | (go_simp; done)) ?_)
              | fail)
            refine (size_calls l wr (by have := HML.out; omega)).mono ?_
            rintro e w7 ⟨rfl, hf⟩
            rw [HML.out]
            have F7 : Aside0 (Fr No wr w7) := ⟨hf⟩
            have HC7 : Aside0 (w7.heap[g]? = some (.cells (sc l) 89 (0, 0))) := ⟨hf.heap HC6.out id⟩
            have HF7 : Aside0 (Fr (one g) wo w7) := ⟨HF6.out.trans (hf.mono (fun _ _ h => h.elim)) (fun _ _ h => h)⟩
            clear hf LD6 F7 HC6 HF6 F5 HC5 HF5 HF1 HGC
            obtain ⟨A2, hcut, hrd⟩ := cut_bytes A' d.length c' k m (by omega) hdc
            have HRD := Aside0.mk (hrd d _ (((HD.out.no F3.out)).no (HX.out _ HF7.out)))
            rw [← HLW.out] at HRD
            have hwkm : IntKind.i64.wrap ((k : Int) + (m : Int)) = (k : Int) + (m : Int) := by rw [i64_left]; exact wrap64_in _ (by omega)
            clear hrd
            go_wp2
            have LD7 := ld_all (P := Tryd.prog) (ty := 89) HC7.out Tryd.underlying89 rfl (by kernel_rfl)
            refine Rg.start (fun _ y => Fr No w7 y) (by kernel_rfl) (by kernel_rfl) [2, 9] [[1, 2], [6, 5, 7, 4, 3, 8, 1, 2, 0, 9]] (by kernel_rfl) (.q 0 1 (.q 1 0 (.q 3 1 (.q 4 1 (.q 5 1 (.q 6 1 (.q 7 1 (.q 8 1 (.e 2 1 (.e 9 2 (.q 10 2 (.q 11 2 (.q 12 2 (.q 13 2 (.q 14 2 (.done)))))))))))))))) (by kernel_rfl) ?_ ?_
            · exact fun _ => (Fr.refl _ _).drew
            repeat (first
              | (refine Rg.q (o := ?_) (v := ?_) ?_ ?_ ?_ ?_ ?_
                 rotate_left 2
                 · (simp only [List.getElem?_toArray, List.getElem?_cons_succ, List.getElem?_cons_zero]; rfl)
                 · exact fun _ _ _ h => h
                 · first | rfl | (go_simp; done)
                 · (intro x_ hx; (try dsimp only at hx); first | ((refine (ex_slice Tryd.underlying22 rfl (hcut _)).trans ?_; with_reducible rfl)) | ((refine (ex_ld rfl rfl (LD7 _ hx)).trans ?_; with_reducible rfl)) | (skip; (try clear hx); go_simp; (try rw [if_neg (by omega)]); (try rw [if_pos (by omega)]); (try go_simp); try with_reducible rfl))
                 try simp only [Act.put, List.setIfInBounds_toArray, List.set_cons_zero, List.set_cons_succ])
              | (refine Rg.skip (o := ?_) ?_ ?_ ?_ ?_
                 rotate_left 1
                 · (simp only [List.getElem?_toArray, List.getElem?_cons_succ, List.getElem?_cons_zero]; rfl)
                 · exact fun _ _ _ h => h
                 · first | rfl | (go_simp; done)
                 try simp only [Act.put, List.setIfInBounds_toArray, List.set_cons_zero, List.set_cons_succ]))
            refine Rg.e (o := ?_) ?_ ?_
            rotate_left 1
            · (simp only [List.getElem?_toArray, List.getElem?_cons_succ, List.getElem?_cons_zero]; rfl)
            intro K hK
            go_simp
            refine (value_calls l _).mono ?_
            rintro en x1 ⟨rfl, hf⟩
            have K1 : Aside0 (Fr No w7 x1) := ⟨((Fr.refl No w7).drew).none hf⟩
            clear hf
            go_simp
            refine hK.out _ _ (fun _ y => Fr No w7 y) (fun k x hk h => h) ?_ ?_
            · exact fun _ _ => K1.out
            try simp only [Act.put, List.setIfInBounds_toArray, List.set_cons_zero, List.set_cons_succ]
            repeat (first
              | (refine Rg.q (o := ?_) (v := ?_) ?_ ?_ ?_ ?_ ?_
                 rotate_left 2
                 · (simp only [List.getElem?_toArray, List.getElem?_cons_succ, List.getElem?_cons_zero]; rfl)
                 · exact fun _ _ _ h => h
                 · first | rfl | (go_simp; done)
                 · (intro x_ hx; (try dsimp only at hx); first | ((refine (ex_slice Tryd.underlying22 rfl (hcut _)).trans ?_; with_reducible rfl)) | ((refine (ex_ld rfl rfl (LD7 _ hx)).trans ?_; with_reducible rfl)) | (skip; (try clear hx); go_simp; (try rw [if_neg (by omega)]); (try rw [if_pos (by omega)]); (try go_simp); try with_reducible rfl))
                 try simp only [Act.put, List.setIfInBounds_toArray, List.set_cons_zero, List.set_cons_succ])
              | (refine Rg.skip (o := ?_) ?_ ?_ ?_ ?_
                 rotate_left 1
                 · (simp only [List.getElem?_toArray, List.getElem?_cons_succ, List.getElem?_cons_zero]; rfl)
                 · exact fun _ _ _ h => h
                 · first | rfl | (go_simp; done)
                 try simp only [Act.put, List.setIfInBounds_toArray, List.set_cons_zero, List.set_cons_succ]))
            refine Rg.e (o := ?_) ?_ ?_
            rotate_left 1
            · (simp only [List.getElem?_toArray, List.getElem?_cons_succ, List.getElem?_cons_zero]; rfl)
            intro K hK
            go_simp
            have F37 : Aside0 (Fr No w3 x1) := ⟨(HX.out _ HF7.out).none K1.out⟩
            refine (find_calls _ (.slice A bs.length ca) (.slice A2 m (c' - k)) _ (weak l) s L c bs l x1 (HT.out.no F37.out) ((HV.out.no F3.out).no F37.out) (by omega) (HRD.out.no K1.out) (by have := HML.out; omega) (weak_lt l) (by omega) (by omega) HIN.out (by omega) (by omega)).mono ?_
            obtain ⟨r, hr⟩ : ∃ r, fB s L c bs l = r := ⟨_, rfl⟩
            rw [show findL (hit s L ⟨weak l, Sha.cut c l, Sha.cut_length c l, weak_lt l⟩ l.length) 0 bs = r from hr]
            have HRR := Aside0.mk hr
            rintro en x2 ⟨rfl, hf⟩
            have K2 : Aside0 (Fr No w7 x2) := ⟨K1.out.none hf⟩
            clear hf hr hcut LD7
            go_simp
            refine hK.out _ _ (fun _ y => Fr No w7 y) (fun k x hk h => h) ?_ ?_
            · exact fun _ _ => K2.out
            try simp only [Act.put, List.setIfInBounds_toArray, List.set_cons_zero, List.set_cons_succ]
            repeat (first
              | (refine Rg.q (o := ?_) (v := ?_) ?_ ?_ ?_ ?_ ?_
                 rotate_left 2
                 · (simp only [List.getElem?_toArray, List.getElem?_cons_succ, List.getElem?_cons_zero]; rfl)
                 · exact fun _ _ _ h => h
                 · first | rfl | (go_simp; done)
                 · (intro x_ hx; (try dsimp only at hx); (skip); go_simp; (try rw [if_neg (by omega)]); (try rw [if_pos (by omega)]); (try go_simp); try with_reducible rfl)
                 try simp only [Act.put, List.setIfInBounds_toArray, List.set_cons_zero, List.set_cons_succ])
              | (refine Rg.skip (o := ?_) ?_ ?_ ?_ ?_
                 rotate_left 1
                 · (simp only [List.getElem?_toArray, List.getElem?_cons_succ, List.getElem?_cons_zero]; rfl)
                 · exact fun _ _ _ h => h
                 · first | rfl | (go_simp; done)
                 try simp only [Act.put, List.setIfInBounds_toArray, List.set_cons_zero, List.set_cons_succ]))
            refine Rg.done ?_
            go_simp
            have HCX : Aside0 (x2.heap[g]? = some (.cells (sc l) 89 (0, 0))) := ⟨K2.out.heap HC7.out id⟩
            have HFX : Aside0 (Fr (one g) wo x2) := ⟨HF7.out.trans (K2.out.mono (fun _ _ h => h.elim)) (fun _ _ h => h)⟩
            clear K1 K2 HC7 HF7 F37
            rcases r with _ | r
            · dsimp only [fnd]
              obtain ⟨x, hx0⟩ : ∃ x, d[k]? = some x := ⟨_, List.getElem?_eq_getElem hkl⟩
              have hwo := win_out d k m x hx0 (by omega)
              have HOUT : Aside0 (∀ W, Calls Tryd.prog 67 #[sv l, vu8 x] W fun e w' => e = .returned (sv ((d.drop (k + 1)).take (m - 1))) ∧ Fr No W w') := ⟨fun W => by
                rw [HLW.out, hwo]
                refine out_calls _ x W ?_
                rw [List.length_take, List.length_drop]; omega⟩
              obtain ⟨A3, hcut1, hrd1⟩ := cut_bytes A' d.length c' k 1 (by omega) hdc
              have hcut2 : ∀ W : World, (Instr.slice 22 (.slice A' d.length c') (some (.int .i64 (k : Int))) (some (.int .i64 ((k : Int) + 1))) none).run Tryd.prog W = .ok (.slice A3 1 (c' - k)) W := hcut1
              have hone : (d.drop k).take 1 = [x] := by
                obtain ⟨h1, h2⟩ := List.getElem?_eq_some_iff.1 hx0
                rw [List.drop_eq_getElem_cons h1, List.take_succ_cons, h2]; rfl
              have HRX := Aside0.mk (hrd1 d x2 ((HD.out.no F3.out).no (HX.out _ HFX.out)))
              rw [hone] at HRX
              have HX0 := Aside0.mk hx0
              clear hcut1 hrd1 hone hwo hx0
              go_wp2_with fail
              refine (add_calls (g + 1) u7 T 0 0 (.slice A3 1 (c' - k)) [x] x2 (HTL.out.fr HFX.out (fun q hq hb => by have e' : q = g := hb; omega)) (by have := blk_lt HCX.out; omega) (by omega) HRX.out (fun t ht => small_of (HGD.out.ok t ht) (by omega) (HUP.out t ht) (by omega)) ⟨by simp, by simp, by simp, by simp, by simp⟩ (fun t ht => by have := HUP.out t ht; simp only [List.length_cons, List.length_nil]; omega)).mono ?_
              rintro e w8 ⟨vo, rfl, hT8, hf8⟩
              have T8 := Aside0.mk hT8
              have HC8 : Aside0 (w8.heap[g]? = some (.cells (sc l) 89 (0, 0))) := ⟨hf8.heap HCX.out (fun hb => by have e' : g + 1 ≤ g := hb; omega)⟩
              have F8 : Aside0 (Fr No w3 w8) := ⟨(HX.out _ HFX.out).trans hf8 (fun q hq hb => by have e' : g + 1 ≤ q := hb; have := HG.out; omega)⟩
              clear hT8 hf8 hcut2
              go_wp2
              obtain ⟨ad2, hA2, hcv⟩ := rd_elem ((HD.out.no F3.out).no F8.out) k x HX0.out
              have k0 : w8.cell? (ad2.add k) = some (vu8 x) := by
                have := hcv 0 (vu8 x) rfl
                rw [add_add, Nat.add_zero, show k * u8.sz = k from Nat.mul_one _] at this
                exact this
              have HA2 := Aside0.mk hA2
              have LD8 := ld_all (P := Tryd.prog) (ty := 89) HC8.out Tryd.underlying89 rfl (by kernel_rfl)
              clear hA2 hcv
              refine Rg.start (fun k' y => k' ≤ 1 → Fr No w8 y) (by kernel_rfl) (by kernel_rfl) [5, 6] [[2, 1, 3, 4, 0, 5], [2, 1, 3, 4, 0, 5, 6]] (by kernel_rfl) (.q 0 0 (.q 1 0 (.q 2 0 (.q 3 0 (.q 4 0 (.e 5 1 (.e 6 2 (.done)))))))) (by kernel_rfl) ?_ ?_
              · exact fun _ _ => (Fr.refl _ _).drew
              repeat (first
                | (refine Rg.q (o := ?_) (v := ?_) ?_ ?_ ?_ ?_ ?_
                   rotate_left 2
                   · (simp only [List.getElem?_toArray, List.getElem?_cons_succ, List.getElem?_cons_zero]; rfl)
                   · exact fun _ _ _ h => h
                   · first | rfl | (go_simp; done)
                   · (intro x_ hx; (try dsimp only at hx); first | ((refine (ex_ix 22 5 1 _ _ ad2 A' d.length c' k _ Tryd.underlying22 (by kernel_rfl) rfl rfl HA2.out rfl rfl hkl).trans ?_; with_reducible rfl)) | ((refine (ex_ld rfl rfl (LD8 _ (hx (by decide)))).trans ?_; with_reducible rfl)) | (have q0 := (hx (by decide)).cell k0 id; (try clear hx); go_simp; (try rw [if_neg (by omega)]); (try rw [if_pos (by omega)]); (try go_simp); try with_reducible rfl))
                   try simp only [Act.put, List.setIfInBounds_toArray, List.set_cons_zero, List.set_cons_succ])
                | (refine Rg.skip (o := ?_) ?_ ?_ ?_ ?_
                   rotate_left 1
                   · (simp only [List.getElem?_toArray, List.getElem?_cons_succ, List.getElem?_cons_zero]; rfl)
                   · exact fun _ _ _ h => h
                   · first | rfl | (go_simp; done)
                   try simp only [Act.put, List.setIfInBounds_toArray, List.set_cons_zero, List.set_cons_succ]))
              refine Rg.e (o := ?_) ?_ ?_
              rotate_left 1
              · (simp only [List.getElem?_toArray, List.getElem?_cons_succ, List.getElem?_cons_zero]; rfl)
              intro K hK
              go_simp
              refine (HOUT.out _).mono ?_
              rintro en x3 ⟨rfl, hf⟩
              have K3 : Aside0 (Fr No w8 x3) := ⟨((Fr.refl No w8).drew).none hf⟩
              clear hf
              go_simp
              refine hK.out _ _ (fun k' y => k' ≤ 1 → Fr No w8 y) (fun k x hk h => h) ?_ ?_
              · exact fun _ _ _ => K3.out
              try simp only [Act.put, List.setIfInBounds_toArray, List.set_cons_zero, List.set_cons_succ]
              repeat (first
                | (refine Rg.q (o := ?_) (v := ?_) ?_ ?_ ?_ ?_ ?_
                   rotate_left 2
                   · (simp only [List.getElem?_toArray, List.getElem?_cons_succ, List.getElem?_cons_zero]; rfl)
                   · exact fun _ _ _ h => h
                   · first | rfl | (go_simp; done)
                   · (intro x_ hx; (try dsimp only at hx); (skip); go_simp; (try rw [if_neg (by omega)]); (try rw [if_pos (by omega)]); (try go_simp); try with_reducible rfl)
                   try simp only [Act.put, List.setIfInBounds_toArray, List.set_cons_zero, List.set_cons_succ])
                | (refine Rg.skip (o := ?_) ?_ ?_ ?_ ?_
                   rotate_left 1
                   · (simp only [List.getElem?_toArray, List.getElem?_cons_succ, List.getElem?_cons_zero]; rfl)
                   · exact fun _ _ _ h => h
                   · first | rfl | (go_simp; done)
                   try simp only [Act.put, List.setIfInBounds_toArray, List.set_cons_zero, List.set_cons_succ]))
              refine Rg.e (o := ?_) ?_ ?_
              rotate_left 1
              · (simp only [List.getElem?_toArray, List.getElem?_cons_succ, List.getElem?_cons_zero]; rfl)
              intro K hK
              rw [if_pos (by first | rfl | (go_simp; done))]
              have HC9 : Aside0 (x3.heap[g]? = some (.cells (sc l) 89 (0, 0))) := ⟨K3.out.heap HC8.out id⟩
              refine PB.opStRow (.tmp 10) (.tmp 90) 89 g 89 _ (sc ((d.drop (k + 1)).take (m - 1))) rfl rfl rfl HC9.out (by kernel_rfl) rfl (by simp [Value.oneCell']) ?_
              refine hK.out _ _ (fun _ _ => True) (fun k x hk h => fun h2 => absurd (Nat.le_trans hk h2) (by decide)) ?_ ?_
              · exact fun _ _ => trivial
              try simp only [Act.put, List.setIfInBounds_toArray, List.set_cons_zero, List.set_cons_succ]
              repeat (first
                | (refine Rg.q (o := ?_) (v := ?_) ?_ ?_ ?_ ?_ ?_
                   rotate_left 2
                   · (simp only [List.getElem?_toArray, List.getElem?_cons_succ, List.getElem?_cons_zero]; rfl)
                   · exact fun _ _ _ h => h
                   · first | rfl | (go_simp; done)
                   · (intro x_ hx; (try dsimp only at hx); (skip); go_simp; (try rw [if_neg (by omega)]); (try rw [if_pos (by omega)]); (try go_simp); try with_reducible rfl)
                   try simp only [Act.put, List.setIfInBounds_toArray, List.set_cons_zero, List.set_cons_succ])
                | (refine Rg.skip (o := ?_) ?_ ?_ ?_ ?_
                   rotate_left 1
                   · (simp only [List.getElem?_toArray, List.getElem?_cons_succ, List.getElem?_cons_zero]; rfl)
                   · exact fun _ _ _ h => h
                   · first | rfl | (go_simp; done)
                   try simp only [Act.put, List.setIfInBounds_toArray, List.set_cons_zero, List.set_cons_succ]))
              refine Rg.done ?_
              clear k0 LD8
              go_simp
              go_wp2
              go_roundw
              case rel =>
                refine ⟨k + 1, by go_num, by omega, ⟨Dm.miss HX0.out HZ.out (by rw [← HLW.out]; exact HRR.out) HGD.out HUP.out hTn HR1.out ((T8.out.no K3.out).fr (fr_one_row x3 g _) (fun q hq hb => by have e' : q = g := hb; omega)) (setRow_heap _ _ _ _ _ _ HC9.out) ?_⟩⟩
                exact (F8.out.none K3.out).trans (fr_one_row x3 g _) (fun q hq hb => by have e' : q = g := hb; have := HG.out; omega)
              case measure => simp [intOf]; omega
            · dsimp only [fnd]
              have hri := fB_lt HRR.out
              have HRI := Aside0.mk hri
              go_wp2_with fail
              refine (add_calls (g + 1) u7 T (r : Int) 1 (.slice none 0 0) [] x2 (HTL.out.fr HFX.out (fun q hq hb => by have e' : q = g := hb; omega)) (by have := blk_lt HCX.out; omega) (by omega) (Rd.nil _ _) (fun t ht => small_of (HGD.out.ok t ht) (by omega) (HUP.out t ht) (by omega)) ⟨by simp, by simp only; omega, by simp, by simp, by simp⟩ (fun t ht => by have := HUP.out t ht; simp only [List.length_nil]; omega)).mono ?_
              rintro e w8 ⟨vo, rfl, hT8, hf8⟩
              have T8 := Aside0.mk hT8
              have HC8 : Aside0 (w8.heap[g]? = some (.cells (sc l) 89 (0, 0))) := ⟨hf8.heap HCX.out (fun hb => by have e' : g + 1 ≤ g := hb; omega)⟩
              have F8 : Aside0 (Fr No w3 w8) := ⟨(HX.out _ HFX.out).trans hf8 (fun q hq hb => by have e' : g + 1 ≤ q := hb; have := HG.out; omega)⟩
              have hwk2 : IntKind.i64.wrap ((k : Int) + (m : Int)) = (k : Int) + (m : Int) := by rw [i64_left]; exact wrap64_in _ (by omega)
              clear hT8 hf8
              go_wp2_with (refine PB.stRow (.tmp 10) (.tmp 76) 89 g 89 _ (sc []) rfl rfl rfl rfl HC8.out (by kernel_rfl) rfl (by simp [Value.oneCell']) ?_)
              try simp only [Act.put]
              go_roundw
              case rel =>
                refine ⟨k + m, by go_num, by omega, ⟨Dm.hit hs1 hkl HZ.out (by rw [← HLW.out]; exact HRR.out) HRI.out HGD.out HUP.out hTn HR1.out (T8.out.fr (fr_one_row w8 g _) (fun q hq hb => by have e' : q = g := hb; omega)) (setRow_heap _ _ _ _ _ _ HC8.out) ?_⟩⟩
                exact F8.out.trans (fr_one_row w8 g _) (fun q hq hb => by have e' : q = g := hb; have := HG.out; omega)
              case measure => simp [intOf]; omega
    · have hkI : ¬ (k : Int) < (d.length : Int) := by omega
      obtain rfl : k = d.length := by omega
      obtain ⟨T, m, hTl, hgd, hup, hTn, hR, hm, hgc, hf⟩ := HDM.out
      rw [List.drop_length, tell_nil] at hR
      subst hR
      obtain ⟨A9, c9, rfl⟩ := hTl.form
      have hT8 : ¬ (8192 : Int) < (T.length : Int) := by have := HT9.out; omega
      have HTL := Aside0.mk hTl; have HF := Aside0.mk hf
      clear hTl hf hgd hup hgc HDM
      go_wp2
      (try simp only [Exit.inBlock, Exit.then]); refine bodyPost_ret (results_list (rs := [.tmp 4, .tmp 5]) rfl (by simp) (.tmp (.tmp .nil))) rfl ?_
      exact ⟨_, rfl, HTL.out.down (by have := HG.out; omega), F3.out.none HF.out⟩
theorem dmake_ok (s c L : Nat) (sl vd : Value) (bs : List BK) (d : List UInt8) (w : World) (hv : Rd (fBk .u32) w sl bs) (hd : RdB w vd d) (hl : d.length ≤ 8192) (hE : chkE s c L bs = 0) (hs1 : 1 ≤ s) (hs : s ≤ 4096) (hc : c ≤ 32) (hL : L ≤ 9223372036854775807) (hn : bs.length ≤ 4096) (hin : ∀ i, i < bs.length → i * s < L) :
    Calls Tryd.prog 47 #[.agg (sgC s c L sl), vd] w fun e w' => ∃ vo, e = .returned (.tuple #[vo, .int .i64 0]) ∧ Tl w' w.heap.size vo (tell s (fB s L c bs) d []) ∧ Fr No w w' :=
  dmake_big s c L sl vd bs d w hv hd (by omega) (by have := tell_length (s := s) hs1 (fB s L c bs) d []; rw [List.length_nil] at this; omega) hE hs1 hs hc hL hn hin
end Go.Proofs.YtanbddaecojijaaDoor.Tk
