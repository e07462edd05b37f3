/- The document's Make of tokens: walked. -/
import Derived.Test.YtnfneokmiopieaaDelQ
import Derived.Test.YtnfneokmiopieaaSpecDel
import Derived.Test.YtnfneokmiopieaaRef6
set_option linter.unusedVariables false
set_option linter.unusedSimpArgs false
namespace Go.Proofs.Ytnfneokmiopieaa.Tk
open Go.RowKit Go.IntWalk Go.Proofs.YtnfneokmiopieaaW.PrintWords Go.Proofs.Ytnfneokmiopieaa.B Go.Proofs.Ytnfneokmiopieaa.PB Go.Proofs.Ytnfneokmiopieaa.STell Go.Proofs.Ytnfneokmiopieaa.Blk Go.Proofs.Ytnfneokmiopieaa.Bk Go.Proofs.Ytnfneokmiopieaa.SBlk Go.Proofs.Ytnfneokmiopieaa.SWeak

set_option maxHeartbeats 4000000 in
set_option maxRecDepth 100000 in
theorem rmake_bad (size cut len : Int) (sl : Value) (bs : List BK) (d : List UInt8) (w : World) (hv : Rd (fBk .i64) w sl bs) (hsz : size ≤ 9223372036854775807) (hln : len ≤ 9223372036854775807) (hE : chkE size cut len bs ≠ 0) :
    Calls Try.prog 16 #[.agg (sgC size cut len sl), .string (bstr d)] w fun e w' => e = .returned (.tuple #[.slice none 0 0, .int .i64 (chkE size cut len bs)]) ∧ Fr No w w' := by
  obtain ⟨A, c, rfl, hAc, hm, _⟩ := id hv
  obtain ⟨E, hEE⟩ : ∃ E, chkE size cut len bs = E := ⟨_, rfl⟩
  have hck := fun W hW => Ref6.check_calls size cut len (.slice A bs.length c) bs W hW hsz hln
  rw [hEE] at hE hck ⊢
  have hE0 : (E == 0) = false := by rw [beq_eq_false_iff_ne]; exact hE
  have HV := Aside0.mk hv; have HCK := Aside0.mk hck
  clear hv hck hEE
  go_enter Try.func16, Try.ntmps16
  go_upto_region 1 with fail
  have hb := heap_alloc_new w (.cells (sgC size cut len (.slice A bs.length c)) 55)
  have F1 : Aside0 (Fr No w (w.alloc (.cells (sgC size cut len (.slice A bs.length c)) 55))) := ⟨(Fr.refl _ _).alloc _⟩
  change Code.wp _ _ _ _ (w.alloc (.cells (sgC size cut len (.slice A bs.length c)) 55))
  generalize w.alloc (.cells (sgC size cut len (.slice A bs.length c)) 55) = w1 at hb F1 ⊢
  have LD := ld_all (P := Try.prog) (ty := 55) hb Try.underlying55 rfl (by kernel_rfl)
  go_wp2_with (first
    | (refine ldG (.tmp 2) 55 _ _ rfl rfl (LD _ (Fr.refl _ _)) (by first | rfl | (go_simp; done)) ?_)
    | fail)
  refine (HCK.out w1 (HV.out.no F1.out)).mono ?_
  rintro e w2 ⟨rfl, hf⟩
  have F2 : Aside0 (Fr No w w2) := ⟨F1.out.none hf⟩
  clear hf LD hb
  go_wp2
  (try simp only [Exit.inBlock, Exit.then]); refine bodyPost_ret (results_list (rs := [.tmp 4, .tmp 5]) rfl (by simp) (.tmp (.tmp .nil))) rfl ?_
  exact ⟨rfl, F2.out⟩

/-- What the loop keeps. -/
def Rm (s : Nat) (f : List UInt8 → Option Nat) (nb : Nat) (d : List UInt8) (R : List Tok) (w0 wr : World) (vo : Value) (k : Nat) : Prop :=
  ∃ T : List Tok, Ow fD 81 wr vo T ∧ (∀ q, vo.ownBlock = some q → w0.heap.size ≤ q) ∧ good nb T ∧ upto k T ∧ T.length ≤ k ∧ tell s f (d.drop k) T = R ∧ Fr No w0 wr
theorem take_minR (d : List UInt8) (k s m : Nat) (h : min s (d.length - k) = m) : (d.drop k).take s = (d.drop k).take m := by
  rcases Nat.le_total s (d.length - k) with h1 | h1
  · rw [← h, Nat.min_eq_left h1]
  · rw [← h, Nat.min_eq_right h1, List.take_of_length_le (by rw [List.length_drop]; omega), List.take_of_length_le (by rw [List.length_drop]; omega)]
theorem drop_minR (d : List UInt8) (k s m : Nat) (h : min s (d.length - k) = m) : (d.drop k).drop s = d.drop (k + m) := by
  rw [List.drop_drop]
  rcases Nat.le_total s (d.length - k) with h1 | h1
  · rw [← h, Nat.min_eq_left h1]
  · rw [List.drop_eq_nil_of_le (by omega), List.drop_eq_nil_of_le (by omega)]
theorem Rm.hit {s nb : Nat} {f : List UInt8 → Option Nat} {d : List UInt8} {R : List Tok} {w0 w9 : World} {vo : Value} {k m i : Nat} {T : List Tok} (hs : 1 ≤ s) (hk : k < d.length) (hz : min s (d.length - k) = m) (hfi : f ((d.drop k).take m) = some i) (hi : i < nb)
    (hgd : good nb T) (hup : upto k T) (hTn : T.length ≤ k) (hR : tell s f (d.drop k) T = R) (hT : Ow fD 81 w9 vo (addT T ((i : Int), 1, []))) (hn : ∀ q, vo.ownBlock = some q → w0.heap.size ≤ q) (hf : Fr No w0 w9) : Rm s f nb d R w0 w9 vo (k + m) := by
  refine ⟨addT T ((i : Int), 1, []), hT, hn, good_add hgd ⟨by simp, by simp, fun _ => ⟨rfl, by simp only; omega⟩, fun h9 => by simp at h9⟩ (.inr rfl), fun t ht => ?_, ?_, ?_, hf⟩
  · have := upto_add (t := ((i : Int), (1 : Int), ([] : List UInt8))) hup t ht
    simp at this
    omega
  · have := (addT_length T ((i : Int), 1, [])).1
    omega
  · rw [← hR, tell_hit T hs (fun h => ?_) (i := i) (by rw [take_minR d k s m hz]; exact hfi), drop_minR d k s m hz]
    have := congrArg List.length h
    rw [List.length_drop] at this
    simp at this
    omega
theorem Rm.miss {s nb : Nat} {f : List UInt8 → Option Nat} {d : List UInt8} {R : List Tok} {w0 w9 : World} {vo : Value} {k m : Nat} {x : UInt8} {T : List Tok} (hk : d[k]? = some x) (hz : min s (d.length - k) = m) (hfi : f ((d.drop k).take m) = none)
    (hgd : good nb T) (hup : upto k T) (hTn : T.length ≤ k) (hR : tell s f (d.drop k) T = R) (hT : Ow fD 81 w9 vo (addT T (0, 0, [x]))) (hn : ∀ q, vo.ownBlock = some q → w0.heap.size ≤ q) (hf : Fr No w0 w9) : Rm s f nb d R w0 w9 vo (k + 1) := by
  obtain ⟨hkl, hx⟩ := List.getElem?_eq_some_iff.1 hk
  refine ⟨addT T (0, 0, [x]), hT, hn, good_add hgd ⟨by simp, by simp, fun h9 => by simp at h9, fun _ => ⟨rfl, by simp⟩⟩ (.inl rfl), fun t ht => ?_, ?_, ?_, hf⟩
  · have := upto_add (t := ((0 : Int), (0 : Int), [x])) hup t ht
    simpa using this
  · have := (addT_length T (0, 0, [x])).1
    omega
  · have e : d.drop k = x :: d.drop (k + 1) := by rw [List.drop_eq_getElem_cons hkl, hx]
    rw [← hR, e, tell_miss T (by rw [← e, take_minR d k s m hz]; exact hfi)]

set_option maxHeartbeats 8000000 in
set_option maxRecDepth 100000 in
theorem rmake_ok (s c L : Nat) (sl : Value) (bs : List BK) (d : List UInt8) (w : World) (hv : Rd (fBk .i64) w sl bs) (hl : d.length ≤ 8192) (hE : chkE s c L bs = 0) (hs1 : 1 ≤ s) (hs : s ≤ 4096) (hc : c ≤ 32) (hL : L ≤ 9223372036854775807) (hn : bs.length ≤ 4096) (hin : ∀ i, i < bs.length → i * s < L) :
    Calls Try.prog 16 #[.agg (sgC s c L sl), .string (bstr d)] w fun e w' => ∃ vo, e = .returned (.tuple #[vo, .int .i64 0]) ∧ Ow fD 81 w' vo (tell s (fB s L c bs) d []) ∧ Fr No w w' := by
  obtain ⟨A, ca, rfl, _⟩ := id hv
  have hck := fun W hW => Ref6.check_calls (s : Int) (c : Int) (L : Int) (.slice A bs.length ca) bs W hW (by omega) (by omega)
  simp only [hE] at hck
  have hdsz : (bstr d).size = d.length := bstr_size d
  obtain ⟨R, hR⟩ : ∃ R, tell s (fB s L c bs) d [] = R := ⟨_, rfl⟩
  rw [hR]
  have HV := Aside0.mk hv; have HCK := Aside0.mk hck; have HIN := Aside0.mk hin; have HR := Aside0.mk hR
  clear hv hck hin hR hE
  go_enter Try.func16, Try.ntmps16
  go_upto_region 1 with fail
  have hb := heap_alloc_new w (.cells (sgC s c L (.slice A bs.length ca)) 55)
  have F1 : Aside0 (Fr No w (w.alloc (.cells (sgC s c L (.slice A bs.length ca)) 55))) := ⟨(Fr.refl _ _).alloc _⟩
  change Code.wp _ _ _ _ (w.alloc (.cells (sgC s c L (.slice A bs.length ca)) 55))
  generalize w.alloc (.cells (sgC s c L (.slice A bs.length ca)) 55) = w1 at hb F1 ⊢
  have HB := Aside0.mk hb
  have LD := ld_all (P := Try.prog) (ty := 55) hb Try.underlying55 rfl (by kernel_rfl)
  clear hb
  go_wp2_with (first
    | (refine ldG (.tmp 2) 55 _ _ rfl rfl (LD _ (Fr.refl _ _)) (by first | rfl | (go_simp; done)) ?_)
    | fail)
  refine (HCK.out w1 (HV.out.no F1.out)).mono ?_
  rintro e w2 ⟨rfl, hf⟩
  have F2 : Aside0 (Fr No w w2) := ⟨F1.out.none hf⟩
  have HB2 : Aside0 (w2.heap[w.heap.size]? = some (.cells (sgC s c L (.slice A bs.length ca)) 55 (0, 0))) := ⟨hf.heap HB.out id⟩
  clear hf LD
  go_wp2_with fail
  have D0 : Aside0 (Rm s (fB s L c bs) bs.length d R w2 w2 (.slice none 0 0) 0) := ⟨[], Ow.nil _ _ _, (fun q hq => by cases hq), good_nil _, (fun t ht => by cases ht), Nat.le_refl _, HR.out, Fr.refl _ _⟩
  go_loopw [7, 8] (fun v7 v8 wr => ∃ k : Nat, v8 = .int .i64 (k : Int) ∧ k ≤ d.length ∧ Aside0 (Rm s (fB s L c bs) bs.length d R w2 wr v7 k)) (fun _ v8 _ => d.length - (intOf v8).toNat)
  case atStart => exact ⟨0, rfl, Nat.zero_le _, D0⟩
  case round =>
    obtain ⟨k, rfl, hk, HRM⟩ := hrel
    by_cases hkl : k < d.length
    · have hkI : (k : Int) < (d.length : Int) := by omega
      obtain ⟨T, hO, hOn, hgd, hup, hTn, hR, hf⟩ := HRM.out
      obtain ⟨z, hz⟩ : ∃ z, min s (d.length - k) = z := ⟨_, rfl⟩
      have hz1 : 1 ≤ z := by omega
      have hzk : k + z ≤ d.length := by omega
      have hzs : z ≤ s := by omega
      have HO := Aside0.mk hO; have HON := Aside0.mk hOn; have HGD := Aside0.mk hgd; have HUP := Aside0.mk hup; have HR1 := Aside0.mk hR; have HF := Aside0.mk hf
      have HZ := Aside0.mk hz
      have c0 : wr.cell? ⟨w.heap.size, 0, Option.none⟩ = some (.int .i64 (s : Int)) := by rw [blk_cell (hf.heap HB2.out id)]; rfl
      have hcut : ∀ W : World, (Instr.slice 9 (.string (bstr d)) (some (.int .i64 (k : Int))) (some (.int .i64 ((k : Int) + (z : Int)))) none).run Try.prog W = .ok (.string (bstr ((d.drop k).take z))) W := fun W => by
        rw [run_slice_string W 9 (bstr d) .i64 .i64 _ _ Try.underlying9 (by omega) (by omega) (by rw [bstr_size]; omega), bstr_extract, show ((k : Int) + (z : Int)).toNat = k + z by omega, Int.toNat_natCast, List.drop_take, Nat.add_sub_cancel_left]
      clear hO hOn hgd hup hR hf HRM
      have LDS := ld_all (P := Try.prog) (ty := 55) (HF.out.heap HB2.out id) Try.underlying55 rfl (by kernel_rfl)
      have hor : ((s : Int) < (d.length : Int) - (k : Int) ∧ s = z) ∨ (¬ (s : Int) < (d.length : Int) - (k : Int) ∧ (d.length : Int) = (k : Int) + (z : Int)) := by omega
      clear hz
      obtain ⟨x, hx0⟩ : ∃ x, d[k]? = some x := ⟨_, List.getElem?_eq_getElem hkl⟩
      have hone : (d.drop k).take 1 = [x] := by
        obtain ⟨h1, h2⟩ := List.getElem?_eq_some_iff.1 hx0
        rw [List.drop_eq_getElem_cons h1, List.take_succ_cons, h2]; rfl
      have HC1 : Aside0 (∀ W : World, (Instr.slice 9 (.string (bstr d)) (some (.int .i64 (k : Int))) (some (.int .i64 ((k : Int) + 1))) none).run Try.prog W = .ok (.string (bstr [x])) W) := ⟨fun W => by
        rw [run_slice_string W 9 (bstr d) .i64 .i64 _ _ Try.underlying9 (by omega) (by omega) (by rw [bstr_size]; omega), bstr_extract, show ((k : Int) + 1).toNat = k + 1 by omega, Int.toNat_natCast, List.drop_take, Nat.add_sub_cancel_left, hone]⟩
      have HX0 := Aside0.mk hx0
      obtain ⟨l, hlw⟩ : ∃ l, (d.drop k).take z = l := ⟨_, rfl⟩
      have hll : l.length = z := by rw [← hlw, List.length_take, List.length_drop]; omega
      rw [hlw] at hcut
      obtain ⟨r, hr⟩ : ∃ r, fB s L c bs l = r := ⟨_, rfl⟩
      have hfind := fun v W hv => Ref6.find_calls s L c v bs l W hv (by omega) (by omega) hL HIN.out (by omega) (by omega)
      rw [show findL (hit s L (sums c l) l.length) 0 bs = r from hr] at hfind
      have HFND := Aside0.mk hfind; have HLW := Aside0.mk hlw; have HRR := Aside0.mk hr
      clear hone hx0 hlw hll hfind hr
      rcases hor with ⟨h1, h2⟩ | ⟨h1, h2⟩
      case' inl =>
        have hcutX := hcut
        rw [← h2] at hcutX
        have HTO : Aside0 (Value.int .i64 ((k : Int) + (s : Int)) = Value.int .i64 ((k + z : Nat) : Int)) := ⟨by rw [← h2]; rfl⟩
        have hws : IntKind.i64.wrap ((k : Int) + (s : Int)) = (k : Int) + (s : Int) := by rw [i64_left]; exact wrap64_in _ (by omega)
        clear h2 hcut
        go_upto_region 10 with fail
      case' inr =>
        have hcutX := hcut
        rw [← h2] at hcutX
        have HTO : Aside0 (Value.int .i64 (d.length : Int) = Value.int .i64 ((k + z : Nat) : Int)) := ⟨by rw [h2]; rfl⟩
        clear h2 hcut
        go_upto_region 10 with fail
      all_goals
        clear c0
        refine Rg.start (fun _ y => Fr No wr y) (by kernel_rfl) (by kernel_rfl) [5] [[3, 2, 1, 4, 0, 5]] (by kernel_rfl) (.q 0 0 (.q 1 0 (.q 2 0 (.q 3 0 (.q 4 0 (.e 5 1 (.q 6 1 (.done)))))))) (by kernel_rfl) ?_ ?_
        · exact fun _ => (Fr.refl _ _).drew
        repeat (first
          | (refine Rg.q (o := ?_) (v := ?_) ?_ ?_ ?_ ?_ ?_
             rotate_left 2
             · (simp only [List.getElem?_toArray, List.getElem?_cons_succ, List.getElem?_cons_zero]; rfl)
             · exact fun _ _ _ h => h
             · first | rfl | (go_simp; done)
             · (intro x_ hx; (try dsimp only at hx); first | ((refine (ex_ld rfl rfl (LDS _ hx)).trans ?_; with_reducible rfl)) | (fail) | (skip; (try clear hx); go_simp; (try rw [if_neg (by omega)]); (try rw [if_pos (by omega)]); (try go_simp); try with_reducible rfl))
             try simp only [Act.put, List.setIfInBounds_toArray, List.set_cons_zero, List.set_cons_succ])
          | (refine Rg.skip (o := ?_) ?_ ?_ ?_ ?_
             rotate_left 1
             · (simp only [List.getElem?_toArray, List.getElem?_cons_succ, List.getElem?_cons_zero]; rfl)
             · exact fun _ _ _ h => h
             · first | rfl | (go_simp; done)
             try simp only [Act.put, List.setIfInBounds_toArray, List.set_cons_zero, List.set_cons_succ]))
        refine Rg.e (o := ?_) ?_ ?_
        rotate_left 1
        · (simp only [List.getElem?_toArray, List.getElem?_cons_succ, List.getElem?_cons_zero]; rfl)
        intro K hK
        go_simp
        refine (HFND.out _ _ (((HV.out.no F2.out).no HF.out).no (Fr.refl _ _).drew)).mono ?_
        rintro en x2 ⟨rfl, hf⟩
        have K2 : Aside0 (Fr No wr x2) := ⟨((Fr.refl No wr).drew).none hf⟩
        clear hf hcutX LDS
        go_simp
        refine hK.out _ _ (fun _ y => Fr No wr y) (fun k x hk h => h) ?_ ?_
        · exact fun _ _ => K2.out
        try simp only [Act.put, List.setIfInBounds_toArray, List.set_cons_zero, List.set_cons_succ]
        repeat (first
          | (refine Rg.q (o := ?_) (v := ?_) ?_ ?_ ?_ ?_ ?_
             rotate_left 2
             · (simp only [List.getElem?_toArray, List.getElem?_cons_succ, List.getElem?_cons_zero]; rfl)
             · exact fun _ _ _ h => h
             · first | rfl | (go_simp; done)
             · (intro x_ hx; (try dsimp only at hx); (skip); go_simp; (try rw [if_neg (by omega)]); (try rw [if_pos (by omega)]); (try go_simp); try with_reducible rfl)
             try simp only [Act.put, List.setIfInBounds_toArray, List.set_cons_zero, List.set_cons_succ])
          | (refine Rg.skip (o := ?_) ?_ ?_ ?_ ?_
             rotate_left 1
             · (simp only [List.getElem?_toArray, List.getElem?_cons_succ, List.getElem?_cons_zero]; rfl)
             · exact fun _ _ _ h => h
             · first | rfl | (go_simp; done)
             try simp only [Act.put, List.setIfInBounds_toArray, List.set_cons_zero, List.set_cons_succ]))
        refine Rg.done ?_
        go_simp
        have F22 : Aside0 (Fr No w2 x2) := ⟨HF.out.none K2.out⟩
        rcases r with _ | r
        · dsimp only [Ref6.fndZ]
          have hcut1 := HC1.out
          go_wp2_with fail
          refine (refadd_calls u7 T 0 0 [x] x2 (HO.out.no K2.out).rd (by omega) (fun t ht => ?_) (by omega) (by omega) (by simp)).mono ?_
          · have h9 := small_of (HGD.out.ok t ht) (by omega) (HUP.out t ht) (by omega)
            have := HUP.out t ht
            exact ⟨h9.1, h9.2.1, h9.2.2.1, h9.2.2.2.1, by omega⟩
          rintro e w8 ⟨vo, rfl, hT8, hn8, hf8⟩
          have T8 := Aside0.mk hT8
          have F8 : Aside0 (Fr No w2 w8) := ⟨F22.out.none hf8⟩
          have N8 : Aside0 (∀ q, vo.ownBlock = some q → w2.heap.size ≤ q) := ⟨fun q hq => Nat.le_trans F22.out.size (hn8 q hq)⟩
          clear hT8 hn8 hf8 hcut1
          go_wp2
          go_roundw
          case rel => exact ⟨k + 1, by go_num, by omega, ⟨Rm.miss HX0.out HZ.out (by rw [HLW.out]; exact HRR.out) HGD.out HUP.out hTn HR1.out T8.out N8.out F8.out⟩⟩
          case measure => simp [intOf]; omega
        · dsimp only [Ref6.fndZ]
          have hri := fB_lt HRR.out
          have HRI := Aside0.mk hri
          have hrI : (0 : Int) ≤ (r : Int) := by omega
          go_wp2_with fail
          refine (refadd_calls u7 T (r : Int) 1 [] x2 (HO.out.no K2.out).rd (by omega) (fun t ht => ?_) (by omega) (by omega) (by simp)).mono ?_
          · have h9 := small_of (HGD.out.ok t ht) (by omega) (HUP.out t ht) (by omega)
            have := HUP.out t ht
            exact ⟨h9.1, h9.2.1, h9.2.2.1, h9.2.2.2.1, by omega⟩
          rintro e w8 ⟨vo, rfl, hT8, hn8, hf8⟩
          have T8 := Aside0.mk hT8
          have F8 : Aside0 (Fr No w2 w8) := ⟨F22.out.none hf8⟩
          have N8 : Aside0 (∀ q, vo.ownBlock = some q → w2.heap.size ≤ q) := ⟨fun q hq => Nat.le_trans F22.out.size (hn8 q hq)⟩
          clear hT8 hn8 hf8
          go_wp2
          go_roundw
          case rel => exact ⟨k + z, HTO.out, by omega, ⟨Rm.hit hs1 hkl HZ.out (by rw [HLW.out]; exact HRR.out) HRI.out HGD.out HUP.out hTn HR1.out T8.out N8.out F8.out⟩⟩
          case measure => simp [intOf]; omega
    · have hkI : ¬ (k : Int) < (d.length : Int) := by omega
      obtain rfl : k = d.length := by omega
      obtain ⟨T, hO, hOn, hgd, hup, hTn, hR, hf⟩ := HRM.out
      rw [List.drop_length, tell_nil] at hR
      subst hR
      obtain ⟨A9, c9, rfl⟩ := hO.form
      have hT8 : ¬ (8192 : Int) < (T.length : Int) := by omega
      have HO := Aside0.mk hO; have HF := Aside0.mk hf
      clear hO hf hgd hup HRM
      go_wp2
      (try simp only [Exit.inBlock, Exit.then]); refine bodyPost_ret (results_list (rs := [.tmp 4, .tmp 5]) rfl (by simp) (.tmp (.tmp .nil))) rfl ?_
      exact ⟨_, rfl, HO.out, F2.out.none HF.out⟩
end Go.Proofs.Ytnfneokmiopieaa.Tk
