/- The walk of the law CodeReads. -/
import Derived.Test.YtdicjcpcohclaaaDoorErrW
import Derived.Test.YtdicjcpcohclaaaDoorCodeP
import Derived.Test.YtdicjcpcohclaaaDoorReader
import Derived.Test.YtdicjcpcohclaaaDoorReadT
import Derived.Test.YtdicjcpcohclaaaDoorReadS
import Derived.Test.YtdicjcpcohclaaaDoorRef3T
import Derived.Test.YtdicjcpcohclaaaDoorInts
import Derived.OpenShut
set_option linter.unusedVariables false
set_option linter.unusedSimpArgs false
namespace Go.Proofs.YtdicjcpcohclaaaDoor.LCodeReads
open Go.ChangeShapes Go.RowKit Go.Proofs.YtdicjcpcohclaaaDoorW.PrintWords Go.Proofs.YtdicjcpcohclaaaDoor.B Go.Proofs.YtdicjcpcohclaaaDoor.PB Go.Proofs.YtdicjcpcohclaaaDoor.Err Go.Proofs.YtdicjcpcohclaaaDoor.Rdr Go.Proofs.YtdicjcpcohclaaaDoor.SCode Go.Proofs.YtdicjcpcohclaaaDoor.Ref3

set_option maxHeartbeats 8000000 in
set_option maxRecDepth 100000 in
theorem walk_out (vb : Value) (b : List UInt8) (vk : Value) (l : List Int) (w : World) (hb : RdB w vb b) (hk : RdI w vk l) (h : 6000 < b.length ∨ 60 < l.length) : Calls Tryd.prog 6 #[vb, vk] w fun e w' => e = .returned (.bool true) ∧ Fr No w w' := by
  obtain ⟨A, c, rfl, _⟩ := id hb
  obtain ⟨A', c', rfl, _⟩ := id hk
  clear hb hk
  have hc : (6000 : Int) < (b.length : Int) ∨ (¬ (6000 : Int) < (b.length : Int) ∧ (60 : Int) < (l.length : Int)) := by omega
  clear h
  rcases hc with h1 | ⟨h1, h2⟩
  all_goals
    go_enter Tryd.func6, Tryd.ntmps6
    go_wp2_with fail
    refine (CodeR.reads_calls w).mono ?_
    rintro e w1 ⟨rfl, hf⟩
    have F1 := Aside0.mk hf; clear hf
    go_wp2
    go_ret
    exact ⟨rfl, F1.out⟩

/-- The program's reader stands, whatever else is written. -/
theorem St.far {w w' : World} {g : Nat} {v : Value} {b : List UInt8} {r : R} {S : Nat → Prop} (h : St w g v b r) (k : Fr S w w') (h1 : ¬ S g) (h2 : 0 < b.length → ∀ q, v.ownBlock = some q → ¬ S q) (h3 : ∀ q cs, w.heap[q]? = some (.cells cs 55 (0, 0)) → ¬ S q) : St w' g v b r := by
  obtain ⟨⟨ev, e1, e2⟩, e3, e4, e5⟩ := h
  exact ⟨⟨ev, k.heap e1 h1, e2.fr k h3⟩, e3.fr k h2, e4, e5⟩
/-- The reader of the document, as it lies. -/
def At3 (w : World) (g : Nat) (b : List UInt8) (r : R) : Prop := w.heap[g]? = some (.cells (rc b (r.at_ : Int) (cd r : Int) (bd r : Int)) 44 (0, 0))

theorem at3_cell1 {w : World} {g : Nat} {b : List UInt8} {r : R} (h : At3 w g b r) : w.cell? ⟨g, 1, none⟩ = some (.int .i64 (r.at_ : Int)) := by rw [blk_cell h]; rfl
theorem at3_cell2 {w : World} {g : Nat} {b : List UInt8} {r : R} (h : At3 w g b r) : w.cell? ⟨g, 2, none⟩ = some (.int .i64 (cd r : Int)) := by rw [blk_cell h]; rfl
theorem at3_cell3 {w : World} {g : Nat} {b : List UInt8} {r : R} (h : At3 w g b r) : w.cell? ⟨g, 3, none⟩ = some (.int .i64 (bd r : Int)) := by rw [blk_cell h]; rfl
theorem noE_cd (r : R) : noE r.err = cd r := by
  obtain ⟨a, er⟩ := r
  cases er <;> rfl
theorem rSum_length (b : List UInt8) (r : R) : (rSum b r).2.length = 32 := by
  unfold rSum
  split
  · simp
  · split
    · simp
    · rename_i h; simp; omega
theorem ok_sum {b : List UInt8} {r : R} (h : ok b r) : ok b (rSum b r).1 := by
  unfold rSum
  split
  · exact h
  · split
    · exact ok_fail h _ _ (by decide)
    · rename_i h2; exact ⟨by dsimp only; have := h.1; omega, h.2.1, h.2.2⟩
theorem ok_end {b : List UInt8} {r : R} (h : ok b r) : ok b (rEnd b r) := by
  unfold rEnd
  split
  · exact h
  · split
    · exact ok_fail h _ _ (by decide)
    · exact h
theorem ok_text {b : List UInt8} {r : R} (h : ok b r) : ok b (rText b r).1 := by
  have hn := ok_num h
  unfold rText
  dsimp only
  split
  · exact hn
  · split
    · exact ok_fail hn _ _ (by decide)
    · split
      · exact ok_fail hn _ _ (by decide)
      · rename_i h2 h3; exact ⟨by dsimp only; have := hn.1; omega, hn.2.1, hn.2.2⟩
set_option maxHeartbeats 16000000 in
set_option maxRecDepth 100000 in
theorem walk_ok (vb : Value) (b : List UInt8) (vk : Value) (l : List Int) (w : World) (hg : Gl w) (hb : RdB w vb b) (hk : RdI w vk l) (hbl : b.length ≤ 6000) (hll : l.length ≤ 60) : Calls Tryd.prog 6 #[vb, vk] w fun e w' => e = .returned (.bool true) ∧ Fr No w w' := by
  obtain ⟨A, c, rfl, _⟩ := id hb
  obtain ⟨A', c', rfl, _, _, hcell⟩ := id hk
  have HB := Aside0.mk hb
  have HG := Aside0.mk hg; clear hg
  have HC : Aside0 (∀ j n, l[j]? = some n → ∃ ad, A' = some ad ∧ ∀ x, Fr No w x → x.cell? (ad.add j) = some (.int .i64 n)) := ⟨fun j n hj => by
    have hjl := (List.getElem?_eq_some_iff.1 hj).1
    obtain ⟨ad, h1, h2⟩ := hcell (by omega)
    exact ⟨ad, h1, fun x hx => hx.cell (h2 j (.int .i64 n) (by rw [fI_cells, List.getElem?_map, hj]; rfl)) id⟩⟩
  have HBL : Aside0 (0 < b.length → ∀ q, (Value.slice A b.length c).ownBlock = some q → q < w.heap.size) := ⟨fun hn q hq => Rd.lt (by decide) hb hn q hq⟩
  clear hb hk hcell
  have g1 : ¬ (6000 : Int) < (b.length : Int) := by omega
  have g2 : ¬ (60 : Int) < (l.length : Int) := by omega
  go_enter Tryd.func6, Tryd.ntmps6
  go_wp2_with fail
  refine (CodeR.reads_calls w).mono ?_
  rintro e w1 ⟨rfl, hf⟩
  have F1 := Aside0.mk hf; clear hf
  go_wp2_with fail
  refine (read_calls (HB.out.no F1.out)).mono ?_
  rintro e w2 ⟨rfl, hs, hf⟩
  obtain ⟨g, hgg⟩ : ∃ g, w1.heap.size = g := ⟨_, rfl⟩
  have HGS : Aside0 (w.heap.size ≤ g) := ⟨by rw [← hgg]; exact F1.out.size⟩
  rw [hgg] at hs ⊢
  have HS2 := Aside0.mk hs
  have F2 : Aside0 (Fr No w w2) := ⟨F1.out.none hf⟩
  have hstr := str_of_rd (HB.out.no F2.out)
  clear hs hf hgg
  go_upto_region 7 with fail
  have HS3 : Aside0 (St (w2.alloc (.cells (rc b 0 0 0) 44)) g (.slice A b.length c) b ⟨0, none⟩) := ⟨HS2.out.no ((Fr.refl _ _).alloc _)⟩
  have HW3 : Aside0 (At3 (w2.alloc (.cells (rc b 0 0 0) 44)) w2.heap.size b ⟨0, none⟩) := ⟨heap_alloc_new w2 _⟩
  have F3 := Aside0.mk (F2.out.alloc (.cells (rc b 0 0 0) 44))
  obtain ⟨h, hhh⟩ : ∃ h, w2.heap.size = h := ⟨_, rfl⟩
  have HHS : Aside0 (w.heap.size ≤ h ∧ h ≠ g) := ⟨by have := F2.out.size; have := HS2.out.open_.choose_spec.2.2.2.2.2.2.2; omega⟩
  change Code.wp _ _ _ _ (w2.alloc (.cells (rc b 0 0 0) 44))
  rw [hhh] at HW3 ⊢
  generalize w2.alloc (.cells (rc b 0 0 0) 44) = w3 at HS3 HW3 F3 ⊢
  clear hstr hhh
  go_wp2
  go_loopw [36] (fun v36 wr => ∃ (j : Nat) (rr : R), v36 = .int .i64 (j : Int) ∧ j ≤ l.length ∧ Aside0 (St wr g (.slice A b.length c) b rr) ∧ Aside0 (At3 wr h b rr) ∧ Aside0 (ok b rr) ∧ Aside0 (Fr No w wr)) (fun v36 _ => l.length - (intOf v36).toNat)
  case atStart => exact ⟨0, ⟨0, none⟩, rfl, by omega, HS3, HW3, ⟨⟨Nat.zero_le _, by show b.length ≤ _; omega, fun q h => by cases h⟩⟩, F3⟩
  case round =>
    obtain ⟨j, rr, rfl, hj, JS, JW, JO, JF⟩ := hrel
    by_cases hjl : j < l.length
    · have hjI : (j : Int) < (l.length : Int) := by omega
      obtain ⟨n, hn⟩ : ∃ n, l[j]? = some n := ⟨_, List.getElem?_eq_getElem hjl⟩
      obtain ⟨ad, hA, hcj⟩ := HC.out j n hn
      have hcl := hcj _ JF.out
      have HA := Aside0.mk hA
      clear hcj hn hA
      have LD := ld_all (P := Tryd.prog) (ty := 44) JW.out Tryd.underlying44 rfl (by kernel_rfl)
      have hcase : n = 0 ∨ n = 1 ∨ n = 2 ∨ n = 3 ∨ n = 4 ∨ (n ≠ 0 ∧ n ≠ 1 ∧ n ≠ 2 ∧ n ≠ 3 ∧ n ≠ 4) := by omega
      rcases hcase with rfl | rfl | rfl | rfl | rfl | ⟨n0, n1, n2, n3, n4⟩
      -- CASES
      case' inl =>
        go_wp2_with (first
          | (refine ixI (.tmp 34) (.tmp 36) ad A' l.length c' j rfl rfl rfl HA.out rfl hjl ?_)
          | (refine ldG (.tmp 6) 44 _ _ rfl rfl (LD _ (Fr.refl _ _)) (by first | rfl | (go_simp; done)) ?_))
        obtain ⟨⟨r1, x⟩, hq⟩ : ∃ q, rByte b rr = q := ⟨_, rfl⟩
        have HQ := Aside0.mk hq
        have KO : Aside0 (ok b r1) := ⟨by have := ok_byte JO.out; rw [hq] at this; exact this⟩
        refine (Ref3.byte_calls b rr JO.out _).mono ?_
        rw [hq]
        rintro e w4 ⟨rfl, hf⟩
        have G4 : Aside0 (Fr No w (w4.alloc (.cells (rc b (r1.at_ : Int) (cd r1 : Int) (bd r1 : Int)) 44))) := ⟨(JF.out.none hf).alloc _⟩
        have S4 : Aside0 (St (w4.alloc (.cells (rc b (r1.at_ : Int) (cd r1 : Int) (bd r1 : Int)) 44)) g (.slice A b.length c) b rr) := ⟨(JS.out.no hf).no ((Fr.refl _ _).alloc _)⟩
        have W4 : Aside0 (At3 (w4.alloc (.cells (rc b (r1.at_ : Int) (cd r1 : Int) (bd r1 : Int)) 44)) h b rr) := ⟨blk_alloc (hf.heap JW.out id) _⟩
        have hT0 := heap_alloc_new w4 (.cells (rc b (r1.at_ : Int) (cd r1 : Int) (bd r1 : Int)) 44)
        have HMH : Aside0 (w4.heap.size ≠ g ∧ w4.heap.size ≠ h) := ⟨by have := JS.out.open_.choose_spec.2.2.2.2.2.2.2; have := blk_lt JW.out; have := hf.size; omega⟩
        unfold rv
        clear hq hf LD
        have hwx : IntKind.i64.wrap (x.toNat : Int) = (x.toNat : Int) := by have := x.toNat_lt; rw [IntKind.wrap_i64]; omega
        have hwy : wrap64 (x.toNat : Int) = (x.toNat : Int) := wrap_u8 x
        go_wp2_with (refine PB.stRow (.tmp 9) (.tmp 46) 44 w4.heap.size 44 _ (rc b (r1.at_ : Int) (cd r1 : Int) (bd r1 : Int)) rfl rfl rfl rfl hT0 (by kernel_rfl) rfl (by simp [Value.oneCell']) ?_; rw [World.setRow_alloc_new])
        refine (Rdr.byte_calls S4.out).mono ?_
        rw [HQ.out]
        rintro e w5 ⟨rfl, hs, hf⟩
        have KS5 := Aside0.mk hs
        have G5 : Aside0 (Fr No w w5) := ⟨G4.out.trans hf (fun k hk e => by have e' : k = g := e; have := HGS.out; omega)⟩
        have W5 : Aside0 (At3 w5 h b rr) := ⟨hf.heap W4.out (fun e => HHS.out.2 e)⟩
        have hT5 := hf.heap hT0 (fun e => HMH.out.1 e)
        have LT5 := ld_all (P := Tryd.prog) (ty := 44) hT5 Tryd.underlying44 rfl (by kernel_rfl)
        clear hs hf hT0 hT5 W4 S4 G4
        go_upto_region 36 with (first
          | (refine ldG (.tmp 9) 44 _ _ rfl rfl (LT5 _ (Fr.refl _ _)) (by first | rfl | (go_simp; done)) ?_)
          | (refine PB.stRow (.tmp 6) (.tmp 53) 44 h 44 _ (rc b (r1.at_ : Int) (cd r1 : Int) (bd r1 : Int)) rfl rfl rfl rfl W5.out (by kernel_rfl) rfl (by simp [Value.oneCell']) ?_))
        have hfr : Fr (one h) w5 (w5.setRow h (rc b (r1.at_ : Int) (cd r1 : Int) (bd r1 : Int))) := fr_one_row _ _ _
        have KS : Aside0 (St (w5.setRow h (rc b (r1.at_ : Int) (cd r1 : Int) (bd r1 : Int))) g (.slice A b.length c) b r1) := ⟨St.far KS5.out hfr (fun e => HHS.out.2 (Eq.symm e)) (fun hn q hq e => by have e' : q = h := e; have := HHS.out; have := HBL.out hn q hq; omega) (fun q cs hq e => by have e' : q = h := e; subst e'; rw [W5.out] at hq; injection hq with hq; injection hq with _ ht; exact absurd ht (by decide))⟩
        have KW : Aside0 (At3 (w5.setRow h (rc b (r1.at_ : Int) (cd r1 : Int) (bd r1 : Int))) h b r1) := ⟨setRow_heap _ _ _ _ _ _ W5.out⟩
        have KF : Aside0 (Fr No w (w5.setRow h (rc b (r1.at_ : Int) (cd r1 : Int) (bd r1 : Int)))) := ⟨fr_setRow G5.out (.inr HHS.out.1) _⟩
        generalize w5.setRow h (rc b (r1.at_ : Int) (cd r1 : Int) (bd r1 : Int)) = w7 at KS KW KF ⊢
        clear LT5 KS5 G5 W5 hfr
      case' inr.inl =>
        go_wp2_with (first
          | (refine ixI (.tmp 34) (.tmp 36) ad A' l.length c' j rfl rfl rfl HA.out rfl hjl ?_)
          | (refine ldG (.tmp 6) 44 _ _ rfl rfl (LD _ (Fr.refl _ _)) (by first | rfl | (go_simp; done)) ?_))
        obtain ⟨⟨r1, x⟩, hq⟩ : ∃ q, rNum b rr = q := ⟨_, rfl⟩
        have HQ := Aside0.mk hq
        have KO : Aside0 (ok b r1) := ⟨by have := ok_num JO.out; rw [hq] at this; exact this⟩
        refine (Ref3.number_calls b rr JO.out _).mono ?_
        rw [hq]
        rintro e w4 ⟨rfl, hf⟩
        have G4 : Aside0 (Fr No w (w4.alloc (.cells (rc b (r1.at_ : Int) (cd r1 : Int) (bd r1 : Int)) 44))) := ⟨(JF.out.none hf).alloc _⟩
        have S4 : Aside0 (St (w4.alloc (.cells (rc b (r1.at_ : Int) (cd r1 : Int) (bd r1 : Int)) 44)) g (.slice A b.length c) b rr) := ⟨(JS.out.no hf).no ((Fr.refl _ _).alloc _)⟩
        have W4 : Aside0 (At3 (w4.alloc (.cells (rc b (r1.at_ : Int) (cd r1 : Int) (bd r1 : Int)) 44)) h b rr) := ⟨blk_alloc (hf.heap JW.out id) _⟩
        have hT0 := heap_alloc_new w4 (.cells (rc b (r1.at_ : Int) (cd r1 : Int) (bd r1 : Int)) 44)
        have HMH : Aside0 (w4.heap.size ≠ g ∧ w4.heap.size ≠ h) := ⟨by have := JS.out.open_.choose_spec.2.2.2.2.2.2.2; have := blk_lt JW.out; have := hf.size; omega⟩
        unfold rv
        clear hq hf LD
        go_wp2_with (refine PB.stRow (.tmp 11) (.tmp 59) 44 w4.heap.size 44 _ (rc b (r1.at_ : Int) (cd r1 : Int) (bd r1 : Int)) rfl rfl rfl rfl hT0 (by kernel_rfl) rfl (by simp [Value.oneCell']) ?_; rw [World.setRow_alloc_new])
        refine (Rdr.num_calls S4.out).mono ?_
        rw [HQ.out]
        rintro e w5 ⟨rfl, hs, hf⟩
        have KS5 := Aside0.mk hs
        have G5 : Aside0 (Fr No w w5) := ⟨G4.out.trans hf (fun k hk e => by have e' : k = g := e; have := HGS.out; omega)⟩
        have W5 : Aside0 (At3 w5 h b rr) := ⟨hf.heap W4.out (fun e => HHS.out.2 e)⟩
        have hT5 := hf.heap hT0 (fun e => HMH.out.1 e)
        have LT5 := ld_all (P := Tryd.prog) (ty := 44) hT5 Tryd.underlying44 rfl (by kernel_rfl)
        clear hs hf hT0 hT5 W4 S4 G4
        go_upto_region 36 with (first
          | (refine ldG (.tmp 11) 44 _ _ rfl rfl (LT5 _ (Fr.refl _ _)) (by first | rfl | (go_simp; done)) ?_)
          | (refine PB.stRow (.tmp 6) (.tmp 65) 44 h 44 _ (rc b (r1.at_ : Int) (cd r1 : Int) (bd r1 : Int)) rfl rfl rfl rfl W5.out (by kernel_rfl) rfl (by simp [Value.oneCell']) ?_))
        have hfr : Fr (one h) w5 (w5.setRow h (rc b (r1.at_ : Int) (cd r1 : Int) (bd r1 : Int))) := fr_one_row _ _ _
        have KS : Aside0 (St (w5.setRow h (rc b (r1.at_ : Int) (cd r1 : Int) (bd r1 : Int))) g (.slice A b.length c) b r1) := ⟨St.far KS5.out hfr (fun e => HHS.out.2 (Eq.symm e)) (fun hn q hq e => by have e' : q = h := e; have := HHS.out; have := HBL.out hn q hq; omega) (fun q cs hq e => by have e' : q = h := e; subst e'; rw [W5.out] at hq; injection hq with hq; injection hq with _ ht; exact absurd ht (by decide))⟩
        have KW : Aside0 (At3 (w5.setRow h (rc b (r1.at_ : Int) (cd r1 : Int) (bd r1 : Int))) h b r1) := ⟨setRow_heap _ _ _ _ _ _ W5.out⟩
        have KF : Aside0 (Fr No w (w5.setRow h (rc b (r1.at_ : Int) (cd r1 : Int) (bd r1 : Int)))) := ⟨fr_setRow G5.out (.inr HHS.out.1) _⟩
        generalize w5.setRow h (rc b (r1.at_ : Int) (cd r1 : Int) (bd r1 : Int)) = w7 at KS KW KF ⊢
        clear LT5 KS5 G5 W5 hfr
      case' inr.inr.inl =>
        go_wp2_with (first
          | (refine ixI (.tmp 34) (.tmp 36) ad A' l.length c' j rfl rfl rfl HA.out rfl hjl ?_)
          | (refine ldG (.tmp 6) 44 _ _ rfl rfl (LD _ (Fr.refl _ _)) (by first | rfl | (go_simp; done)) ?_))
        obtain ⟨⟨r1, x⟩, hq⟩ : ∃ q, rText b rr = q := ⟨_, rfl⟩
        have HQ := Aside0.mk hq
        have KO : Aside0 (ok b r1) := ⟨by have := ok_text JO.out; rw [hq] at this; exact this⟩
        refine (Ref3.piece_calls b rr JO.out _).mono ?_
        rw [hq]
        rintro e w4 ⟨rfl, hf⟩
        have G4 : Aside0 (Fr No w (w4.alloc (.cells (rc b (r1.at_ : Int) (cd r1 : Int) (bd r1 : Int)) 44))) := ⟨(JF.out.none hf).alloc _⟩
        have S4 : Aside0 (St (w4.alloc (.cells (rc b (r1.at_ : Int) (cd r1 : Int) (bd r1 : Int)) 44)) g (.slice A b.length c) b rr) := ⟨(JS.out.no hf).no ((Fr.refl _ _).alloc _)⟩
        have W4 : Aside0 (At3 (w4.alloc (.cells (rc b (r1.at_ : Int) (cd r1 : Int) (bd r1 : Int)) 44)) h b rr) := ⟨blk_alloc (hf.heap JW.out id) _⟩
        have hT0 := heap_alloc_new w4 (.cells (rc b (r1.at_ : Int) (cd r1 : Int) (bd r1 : Int)) 44)
        have HMH : Aside0 (w4.heap.size ≠ g ∧ w4.heap.size ≠ h) := ⟨by have := JS.out.open_.choose_spec.2.2.2.2.2.2.2; have := blk_lt JW.out; have := hf.size; omega⟩
        unfold rv
        clear hq hf LD
        go_wp2_with (refine PB.stRow (.tmp 13) (.tmp 71) 44 w4.heap.size 44 _ (rc b (r1.at_ : Int) (cd r1 : Int) (bd r1 : Int)) rfl rfl rfl rfl hT0 (by kernel_rfl) rfl (by simp [Value.oneCell']) ?_; rw [World.setRow_alloc_new])
        refine (Rdr.text_calls S4.out (by omega)).mono ?_
        rw [HQ.out]
        rintro e w5 ⟨d, rfl, ho, hs, hf, -⟩
        have KS5 := Aside0.mk hs
        have G5 : Aside0 (Fr No w w5) := ⟨G4.out.trans hf (fun k hk e => by have e' : k = g := e; have := HGS.out; omega)⟩
        have W5 : Aside0 (At3 w5 h b rr) := ⟨hf.heap W4.out (fun e => HHS.out.2 e)⟩
        have hT5 := hf.heap hT0 (fun e => HMH.out.1 e)
        have LT5 := ld_all (P := Tryd.prog) (ty := 44) hT5 Tryd.underlying44 rfl (by kernel_rfl)
        have hsd := str_of_rd ho.rd
        clear ho
        clear hs hf hT0 hT5 W4 S4 G4
        go_upto_region 36 with (first
          | (refine ldG (.tmp 13) 44 _ _ rfl rfl (LT5 _ (Fr.refl _ _)) (by first | rfl | (go_simp; done)) ?_)
          | (refine PB.stRow (.tmp 6) (.tmp 78) 44 h 44 _ (rc b (r1.at_ : Int) (cd r1 : Int) (bd r1 : Int)) rfl rfl rfl rfl W5.out (by kernel_rfl) rfl (by simp [Value.oneCell']) ?_))
        have hfr : Fr (one h) w5 (w5.setRow h (rc b (r1.at_ : Int) (cd r1 : Int) (bd r1 : Int))) := fr_one_row _ _ _
        have KS : Aside0 (St (w5.setRow h (rc b (r1.at_ : Int) (cd r1 : Int) (bd r1 : Int))) g (.slice A b.length c) b r1) := ⟨St.far KS5.out hfr (fun e => HHS.out.2 (Eq.symm e)) (fun hn q hq e => by have e' : q = h := e; have := HHS.out; have := HBL.out hn q hq; omega) (fun q cs hq e => by have e' : q = h := e; subst e'; rw [W5.out] at hq; injection hq with hq; injection hq with _ ht; exact absurd ht (by decide))⟩
        have KW : Aside0 (At3 (w5.setRow h (rc b (r1.at_ : Int) (cd r1 : Int) (bd r1 : Int))) h b r1) := ⟨setRow_heap _ _ _ _ _ _ W5.out⟩
        have KF : Aside0 (Fr No w (w5.setRow h (rc b (r1.at_ : Int) (cd r1 : Int) (bd r1 : Int)))) := ⟨fr_setRow G5.out (.inr HHS.out.1) _⟩
        generalize w5.setRow h (rc b (r1.at_ : Int) (cd r1 : Int) (bd r1 : Int)) = w7 at KS KW KF ⊢
        clear LT5 KS5 G5 W5 hfr
      case' inr.inr.inr.inl =>
        go_wp2_with (first
          | (refine ixI (.tmp 34) (.tmp 36) ad A' l.length c' j rfl rfl rfl HA.out rfl hjl ?_)
          | (refine ldG (.tmp 6) 44 _ _ rfl rfl (LD _ (Fr.refl _ _)) (by first | rfl | (go_simp; done)) ?_))
        obtain ⟨⟨r1, x⟩, hq⟩ : ∃ q, rSum b rr = q := ⟨_, rfl⟩
        have HQ := Aside0.mk hq
        have KO : Aside0 (ok b r1) := ⟨by have := ok_sum JO.out; rw [hq] at this; exact this⟩
        refine (Ref3.sum_calls b rr JO.out _).mono ?_
        rw [hq]
        rintro e w4 ⟨rfl, hf⟩
        have hxl : x.length = 32 := by have := rSum_length b rr; rw [hq] at this; exact this
        have HXL : Aside0 (x.length = 32) := ⟨hxl⟩
        have HXS : Aside0 ((x.map vu8).toArray.size = 32) := ⟨by simp [hxl]⟩
        obtain ⟨vx, hvx⟩ : ∃ vx, (x.map vu8).toArray = vx := ⟨_, rfl⟩
        rw [hvx] at HXS
        have HVX : Aside0 ((x.map vu8).toArray = vx) := ⟨hvx⟩
        rw [hvx]
        have hT0 := heap_alloc_new w4 (.cells (rc b (r1.at_ : Int) (cd r1 : Int) (bd r1 : Int)) 44)
        have hU0 := heap_alloc_new (w4.alloc (.cells (rc b (r1.at_ : Int) (cd r1 : Int) (bd r1 : Int)) 44)) (.cells vx 41)
        have hT1 : ((w4.alloc (.cells (rc b (r1.at_ : Int) (cd r1 : Int) (bd r1 : Int)) 44)).alloc (.cells vx 41)).heap[w4.heap.size]? = _ := blk_alloc hT0 _
        have hsz : (w4.alloc (.cells (rc b (r1.at_ : Int) (cd r1 : Int) (bd r1 : Int)) 44)).heap.size = w4.heap.size + 1 := by simp
        rw [hsz] at hU0
        have G4 : Aside0 (Fr No w ((w4.alloc (.cells (rc b (r1.at_ : Int) (cd r1 : Int) (bd r1 : Int)) 44)).alloc (.cells vx 41))) := ⟨((JF.out.none hf).alloc _).alloc _⟩
        have S4 : Aside0 (St ((w4.alloc (.cells (rc b (r1.at_ : Int) (cd r1 : Int) (bd r1 : Int)) 44)).alloc (.cells vx 41)) g (.slice A b.length c) b rr) := ⟨(JS.out.no hf).no (((Fr.refl _ _).alloc _).alloc _)⟩
        have W4 : Aside0 (At3 ((w4.alloc (.cells (rc b (r1.at_ : Int) (cd r1 : Int) (bd r1 : Int)) 44)).alloc (.cells vx 41)) h b rr) := ⟨blk_alloc (blk_alloc (hf.heap JW.out id) _) _⟩
        have HMH : Aside0 (w4.heap.size ≠ g ∧ w4.heap.size ≠ h ∧ w4.heap.size + 1 ≠ g) := ⟨by have := JS.out.open_.choose_spec.2.2.2.2.2.2.2; have := blk_lt JW.out; have := hf.size; omega⟩
        unfold rv
        have hU00 : ∀ Y, ((w4.alloc (.cells (rc b (r1.at_ : Int) (cd r1 : Int) (bd r1 : Int)) 44)).alloc (.cells Y 41)).heap[w4.heap.size + 1]? = some (.cells Y 41 (0, 0)) := fun Y => by rw [← hsz]; exact heap_alloc_new _ _
        have hset : ∀ Y, ((w4.alloc (.cells (rc b (r1.at_ : Int) (cd r1 : Int) (bd r1 : Int)) 44)).alloc (.cells Y 41)).setRow (w4.heap.size + 1) vx = (w4.alloc (.cells (rc b (r1.at_ : Int) (cd r1 : Int) (bd r1 : Int)) 44)).alloc (.cells vx 41) := fun Y => by
          have h := World.setRow_alloc_new (w4.alloc (.cells (rc b (r1.at_ : Int) (cd r1 : Int) (bd r1 : Int)) 44)) Y vx 41
          rw [hsz] at h
          exact h
        have HU := Aside0.mk hU00; have HSE := Aside0.mk hset
        have HU0 := Aside0.mk hU0; have HT1 := Aside0.mk hT1
        clear hq hf LD hvx hxl hU00 hset hU0 hT1 hT0 hsz
        go_upto_region 28 with (refine PB.stRow (.tmp 16) (.tmp 85) 41 (w4.heap.size + 1) 41 _ vx rfl rfl rfl rfl (HU.out _) (by rw [HXS.out]; kernel_rfl) (by rw [HXS.out]; kernel_rfl) (by rw [← HVX.out, Array.all_eq_true]; intro i hi; simp [Value.oneCell']) ?_; rw [HSE.out])
        generalize (w4.alloc (.cells (rc b (r1.at_ : Int) (cd r1 : Int) (bd r1 : Int)) 44)).alloc (.cells vx 41) = wv at S4 W4 G4 HU0 HT1 ⊢
        clear HU HSE
        have LU : ∀ x, Fr (one g) wv x → _ := fun x hx => ld_all (P := Tryd.prog) (ty := 41) (hx.heap HU0.out (fun e => HMH.out.2.2 e)) Tryd.underlying41 rfl (by rw [HXS.out]; kernel_rfl) x (Fr.refl _ _)
        have qn : ∀ W, (binOp .neq 41 (.agg vx) (.agg vx)).run Tryd.prog W = .ok (.bool false) W := fun W => by
          have := Arr.run_neq Tryd.underlying41 W x x HXL.out HXL.out
          unfold Arr.av at this
          rw [HVX.out] at this
          simpa using this
        have qg := fun x y W => run_eqGuard_agg (P := Tryd.prog) W .neq 41 x y vx vx (by kernel_rfl)
        refine Rg.start (fun _ x => Fr (one g) wv x) (by kernel_rfl) (by kernel_rfl) [1] [[0, 1]] (by kernel_rfl) (.q 0 0 (.q 2 1 (.e 1 1 (.q 3 1 (.done))))) (by kernel_rfl) ?_ ?_
        · exact fun _ => (Fr.refl _ _).drew
        repeat (first
          | (refine Rg.q (o := ?_) (v := ?_) ?_ ?_ ?_ ?_ ?_
             rotate_left 2
             · (simp only [List.getElem?_toArray, List.getElem?_cons_succ, List.getElem?_cons_zero]; rfl)
             · exact fun _ _ _ h => h
             · first | rfl | (go_simp; done)
             · (intro x_ hx; (try dsimp only at hx); first | (refine (ex_ld rfl rfl (LU _ hx)).trans ?_; with_reducible rfl) | (refine (ex_ld rfl rfl (LU _ hx)).trans ?_; with_reducible rfl) | (refine (ex_ld rfl rfl (fail _ hx)).trans ?_; with_reducible rfl) | (refine (ex_ld rfl rfl (fail _ hx)).trans ?_; with_reducible rfl) | (skip; (try clear hx); go_simp; (try rw [if_neg (by omega)]); (try rw [if_pos (by omega)]); (try go_simp); try with_reducible rfl))
             try simp only [Act.put, List.setIfInBounds_toArray, List.set_cons_zero, List.set_cons_succ])
          | (refine Rg.skip (o := ?_) ?_ ?_ ?_ ?_
             rotate_left 1
             · (simp only [List.getElem?_toArray, List.getElem?_cons_succ, List.getElem?_cons_zero]; rfl)
             · exact fun _ _ _ h => h
             · first | rfl | (go_simp; done)
             try simp only [Act.put, List.setIfInBounds_toArray, List.set_cons_zero, List.set_cons_succ]))
        refine Rg.e (o := ?_) ?_ ?_
        rotate_left 1
        · (simp only [List.getElem?_toArray, List.getElem?_cons_succ, List.getElem?_cons_zero]; rfl)
        intro K hK
        go_simp
        refine (Rdr.sum_calls (S4.out.no ((Fr.refl _ _).drew)) (by omega)).mono ?_
        rw [HQ.out]
        dsimp only
        rw [HVX.out]
        rintro e w5 ⟨rfl, hs, hf⟩
        have KS5 := Aside0.mk hs
        have F5 : Aside0 (Fr (one g) wv w5) := ⟨((Fr.refl (one g) wv).drew).trans hf (fun _ _ h => h)⟩
        have G5 : Aside0 (Fr No w w5) := ⟨G4.out.trans F5.out (fun k hk e => by have e' : k = g := e; have := HGS.out; omega)⟩
        have W5 : Aside0 (At3 w5 h b rr) := ⟨F5.out.heap W4.out (fun e => HHS.out.2 e)⟩
        have hT5 := F5.out.heap HT1.out (fun e => HMH.out.1 e)
        have LT5 := ld_all (P := Tryd.prog) (ty := 44) hT5 Tryd.underlying44 rfl (by kernel_rfl)
        clear hs hf hT5 W4 S4 G4
        go_simp
        refine hK.out _ _ (fun _ x => Fr (one g) wv x) (fun k x hk h => h) ?_ ?_
        · exact fun _ _ => F5.out
        try simp only [Act.put, List.setIfInBounds_toArray, List.set_cons_zero, List.set_cons_succ]
        repeat (first
          | (refine Rg.q (o := ?_) (v := ?_) ?_ ?_ ?_ ?_ ?_
             rotate_left 2
             · (simp only [List.getElem?_toArray, List.getElem?_cons_succ, List.getElem?_cons_zero]; rfl)
             · exact fun _ _ _ h => h
             · first | rfl | (go_simp; done)
             · (intro x_ hx; (try dsimp only at hx); first | (refine (ex_ld rfl rfl (LU _ hx)).trans ?_; with_reducible rfl) | (refine (ex_ld rfl rfl (LU _ hx)).trans ?_; with_reducible rfl) | (refine (ex_ld rfl rfl (fail _ hx)).trans ?_; with_reducible rfl) | (refine (ex_ld rfl rfl (fail _ hx)).trans ?_; with_reducible rfl) | (skip; (try clear hx); go_simp; (try rw [if_neg (by omega)]); (try rw [if_pos (by omega)]); (try go_simp); try with_reducible rfl))
             try simp only [Act.put, List.setIfInBounds_toArray, List.set_cons_zero, List.set_cons_succ])
          | (refine Rg.skip (o := ?_) ?_ ?_ ?_ ?_
             rotate_left 1
             · (simp only [List.getElem?_toArray, List.getElem?_cons_succ, List.getElem?_cons_zero]; rfl)
             · exact fun _ _ _ h => h
             · first | rfl | (go_simp; done)
             try simp only [Act.put, List.setIfInBounds_toArray, List.set_cons_zero, List.set_cons_succ]))
        refine Rg.done ?_
        go_simp
        clear qn qg LU
        go_upto_region 36 with (first
          | (refine ldG (.tmp 15) 44 _ _ rfl rfl (LT5 _ (Fr.refl _ _)) (by first | rfl | (go_simp; done)) ?_)
          | (refine PB.stRow (.tmp 6) (.tmp 90) 44 h 44 _ (rc b (r1.at_ : Int) (cd r1 : Int) (bd r1 : Int)) rfl rfl rfl rfl W5.out (by kernel_rfl) rfl (by simp [Value.oneCell']) ?_))
        have hfr : Fr (one h) w5 (w5.setRow h (rc b (r1.at_ : Int) (cd r1 : Int) (bd r1 : Int))) := fr_one_row _ _ _
        have KS : Aside0 (St (w5.setRow h (rc b (r1.at_ : Int) (cd r1 : Int) (bd r1 : Int))) g (.slice A b.length c) b r1) := ⟨St.far KS5.out hfr (fun e => HHS.out.2 (Eq.symm e)) (fun hn q hq e => by have e' : q = h := e; have := HHS.out; have := HBL.out hn q hq; omega) (fun q cs hq e => by have e' : q = h := e; subst e'; rw [W5.out] at hq; injection hq with hq; injection hq with _ ht; exact absurd ht (by decide))⟩
        have KW : Aside0 (At3 (w5.setRow h (rc b (r1.at_ : Int) (cd r1 : Int) (bd r1 : Int))) h b r1) := ⟨setRow_heap _ _ _ _ _ _ W5.out⟩
        have KF : Aside0 (Fr No w (w5.setRow h (rc b (r1.at_ : Int) (cd r1 : Int) (bd r1 : Int)))) := ⟨fr_setRow G5.out (.inr HHS.out.1) _⟩
        generalize w5.setRow h (rc b (r1.at_ : Int) (cd r1 : Int) (bd r1 : Int)) = w7 at KS KW KF ⊢
        clear LT5 KS5 G5 W5 hfr
      case' inr.inr.inr.inr.inl =>
        go_wp2_with (first
          | (refine ixI (.tmp 34) (.tmp 36) ad A' l.length c' j rfl rfl rfl HA.out rfl hjl ?_)
          | (refine ldG (.tmp 6) 44 _ _ rfl rfl (LD _ (Fr.refl _ _)) (by first | rfl | (go_simp; done)) ?_))
        obtain ⟨r1, hq⟩ : ∃ q, rEnd b rr = q := ⟨_, rfl⟩
        have HQ := Aside0.mk hq
        have KO : Aside0 (ok b r1) := ⟨by have := ok_end JO.out; rw [hq] at this; exact this⟩
        refine (Ref3.end_calls b rr JO.out _).mono ?_
        rw [hq]
        rintro e w4 ⟨rfl, hf⟩
        have W4 : Aside0 (At3 w4 h b rr) := ⟨hf.heap JW.out id⟩
        have KS5 := Aside0.mk (JS.out.no hf)
        have W5 := W4
        have G5 : Aside0 (Fr No w w4) := ⟨JF.out.none hf⟩
        unfold rv
        clear hq hf LD
        go_upto_region 33 with (refine PB.stRow (.tmp 6) (.tmp 94) 44 h 44 _ (rc b (r1.at_ : Int) (cd r1 : Int) (bd r1 : Int)) rfl rfl rfl rfl W4.out (by kernel_rfl) rfl (by simp [Value.oneCell']) ?_)
        have hfr : Fr (one h) w4 (w4.setRow h (rc b (r1.at_ : Int) (cd r1 : Int) (bd r1 : Int))) := fr_one_row _ _ _
        have S6 : Aside0 (St (w4.setRow h (rc b (r1.at_ : Int) (cd r1 : Int) (bd r1 : Int))) g (.slice A b.length c) b rr) := ⟨St.far KS5.out hfr (fun e => HHS.out.2 (Eq.symm e)) (fun hn q hq e => by have e' : q = h := e; have := HHS.out; have := HBL.out hn q hq; omega) (fun q cs hq e => by have e' : q = h := e; subst e'; rw [W5.out] at hq; injection hq with hq; injection hq with _ ht; exact absurd ht (by decide))⟩
        have W6 : Aside0 (At3 (w4.setRow h (rc b (r1.at_ : Int) (cd r1 : Int) (bd r1 : Int))) h b r1) := ⟨setRow_heap _ _ _ _ _ _ W5.out⟩
        have G6 : Aside0 (Fr No w (w4.setRow h (rc b (r1.at_ : Int) (cd r1 : Int) (bd r1 : Int)))) := ⟨fr_setRow G5.out (.inr HHS.out.1) _⟩
        change Code.wp _ _ _ _ (w4.setRow h (rc b (r1.at_ : Int) (cd r1 : Int) (bd r1 : Int)))
        generalize w4.setRow h (rc b (r1.at_ : Int) (cd r1 : Int) (bd r1 : Int)) = w6 at S6 W6 G6 ⊢
        clear KS5 W5 G5 W4 hfr
        go_wp2_with fail
        refine (Rdr.end_calls S6.out).mono ?_
        rw [HQ.out]
        rintro e w7 ⟨⟨ev, he, rfl⟩, hs, hf⟩
        have KS := Aside0.mk hs
        have KW : Aside0 (At3 w7 h b r1) := ⟨hf.heap W6.out (fun e => HHS.out.2 e)⟩
        have KF : Aside0 (Fr No w w7) := ⟨G6.out.trans hf (fun k hk e => by have e' : k = g := e; have := HGS.out; omega)⟩
        have HE7 := Aside0.mk he
        have c2 : w7.cell? ⟨h, 2, Option.none⟩ = some (.int .i64 (cd r1 : Int)) := by rw [blk_cell KW.out]; rfl
        clear hs hf he
        go_wp2
        refine Rg.start (fun _ x => Fr No w7 x) (by kernel_rfl) (by kernel_rfl) [1] [[0, 1]] (by kernel_rfl) (.q 0 0 (.q 2 1 (.q 3 1 (.e 1 1 (.q 4 1 (.done)))))) (by kernel_rfl) ?_ ?_
        · exact fun _ => (Fr.refl _ _).drew
        repeat (first
          | (refine Rg.q (o := ?_) (v := ?_) ?_ ?_ ?_ ?_ ?_
             rotate_left 2
             · (simp only [List.getElem?_toArray, List.getElem?_cons_succ, List.getElem?_cons_zero]; rfl)
             · exact fun _ _ _ h => h
             · first | rfl | (go_simp; done)
             · (intro x_ hx; (try dsimp only at hx); (have q0 := hx.cell c2 id); go_simp; (try rw [if_neg (by omega)]); (try rw [if_pos (by omega)]); (try go_simp); try with_reducible rfl)
             try simp only [Act.put, List.setIfInBounds_toArray, List.set_cons_zero, List.set_cons_succ])
          | (refine Rg.skip (o := ?_) ?_ ?_ ?_ ?_
             rotate_left 1
             · (simp only [List.getElem?_toArray, List.getElem?_cons_succ, List.getElem?_cons_zero]; rfl)
             · exact fun _ _ _ h => h
             · first | rfl | (go_simp; done)
             try simp only [Act.put, List.setIfInBounds_toArray, List.set_cons_zero, List.set_cons_succ]))
        refine Rg.e (o := ?_) ?_ ?_
        rotate_left 1
        · (simp only [List.getElem?_toArray, List.getElem?_cons_succ, List.getElem?_cons_zero]; rfl)
        intro K hK
        go_simp
        refine (number_calls (HG.out.no (KF.out.drew)) (HE7.out.fr ((Fr.refl No w7).drew) (fun _ _ _ => id))).mono ?_
        rw [noE_cd]
        rintro e w8 ⟨rfl, hf⟩
        have F8 : Aside0 (Fr No w7 w8) := ⟨((Fr.refl _ _).drew).none hf⟩
        clear hf
        go_simp
        refine hK.out _ _ (fun _ x => Fr No w7 x) (fun k x hk h => h) ?_ ?_
        · exact fun _ _ => F8.out
        try simp only [Act.put, List.setIfInBounds_toArray, List.set_cons_zero, List.set_cons_succ]
        repeat (first
          | (refine Rg.q (o := ?_) (v := ?_) ?_ ?_ ?_ ?_ ?_
             rotate_left 2
             · (simp only [List.getElem?_toArray, List.getElem?_cons_succ, List.getElem?_cons_zero]; rfl)
             · exact fun _ _ _ h => h
             · first | rfl | (go_simp; done)
             · (intro x_ hx; (try dsimp only at hx); (have q0 := hx.cell c2 id); go_simp; (try rw [if_neg (by omega)]); (try rw [if_pos (by omega)]); (try go_simp); try with_reducible rfl)
             try simp only [Act.put, List.setIfInBounds_toArray, List.set_cons_zero, List.set_cons_succ])
          | (refine Rg.skip (o := ?_) ?_ ?_ ?_ ?_
             rotate_left 1
             · (simp only [List.getElem?_toArray, List.getElem?_cons_succ, List.getElem?_cons_zero]; rfl)
             · exact fun _ _ _ h => h
             · first | rfl | (go_simp; done)
             try simp only [Act.put, List.setIfInBounds_toArray, List.set_cons_zero, List.set_cons_succ]))
        refine Rg.done ?_
        go_simp
        go_upto_region 36 with fail
        replace KS := Aside0.mk (KS.out.no F8.out)
        replace KW : Aside0 (At3 w8 h b r1) := ⟨F8.out.heap KW.out id⟩
        replace KF := Aside0.mk (KF.out.none F8.out)
        clear c2 HE7 F8 S6 W6 G6
      case' inr.inr.inr.inr.inr =>
        obtain ⟨r1, hq⟩ : ∃ q, rr = q := ⟨_, rfl⟩
        have KO := JO; have KS := JS; have KW := JW; have KF := JF
        rw [hq] at KO KS KW
        have b0 : (n == 0) = false := by rw [beq_eq_false_iff_ne]; exact n0
        have b1 : (n == 1) = false := by rw [beq_eq_false_iff_ne]; exact n1
        have b2 : (n == 2) = false := by rw [beq_eq_false_iff_ne]; exact n2
        have b3 : (n == 3) = false := by rw [beq_eq_false_iff_ne]; exact n3
        have b4 : (n == 4) = false := by rw [beq_eq_false_iff_ne]; exact n4
        clear hq LD
        go_upto_region 36 with (refine ixI (.tmp 34) (.tmp 36) ad A' l.length c' j rfl rfl rfl HA.out rfl hjl ?_)
        clear b0 b1 b2 b3 b4
      -- END
      all_goals
        go_wp2_with fail
        refine (err_calls KS.out).mono ?_
        rintro e w9 ⟨ev9, he, rfl, hw9⟩
        have hw9' := hw9.symm
        clear hw9
        subst hw9'
        have HE9 := Aside0.mk he
        clear he
        obtain ⟨a1, er⟩ := r1
        have FD : Aside0 (Fr No w9 w9.drew) := ⟨(Fr.refl _ _).drew⟩
        rcases er with _ | ⟨p, e⟩
        · have c1 : w9.cell? ⟨h, 1, none⟩ = some (.int .i64 (a1 : Int)) := at3_cell1 KW.out
          have c2 : w9.cell? ⟨h, 2, none⟩ = some (.int .i64 0) := at3_cell2 KW.out
          have c3 : w9.cell? ⟨h, 3, none⟩ = some (.int .i64 0) := at3_cell3 KW.out
          go_wp2
          refine Rg.start (fun _ x => Fr No w9 x) (by kernel_rfl) (by kernel_rfl) [1, 11, 23, 35] [[0, 1], [2, 3, 0, 1, 4, 5, 6, 7, 8, 9, 10, 11], [12, 13, 10, 11, 14, 6, 7, 8, 9, 15, 2, 3, 0, 1, 4, 5, 16, 17, 18, 19, 20, 21, 22, 23], [24, 25, 22, 23, 26, 18, 19, 20, 21, 27, 12, 13, 10, 11, 14, 6, 7, 8, 9, 15, 2, 3, 0, 1, 4, 5, 16, 17, 28, 29, 30, 31, 32, 33, 34, 35]] (by kernel_rfl) (.q 0 0 (.q 2 1 (.q 3 1 (.e 1 1 (.q 4 1 (.q 5 1 (.q 6 1 (.q 7 1 (.q 8 1 (.q 9 1 (.q 10 1 (.q 12 2 (.q 13 2 (.e 11 2 (.q 14 2 (.q 15 2 (.q 16 2 (.q 17 2 (.q 18 2 (.q 19 2 (.q 20 2 (.q 21 2 (.q 22 2 (.q 24 3 (.q 25 3 (.e 23 3 (.q 26 3 (.q 27 3 (.q 28 3 (.q 29 3 (.q 30 3 (.q 31 3 (.q 32 3 (.q 33 3 (.q 34 3 (.e 35 4 (.q 36 4 (.q 37 4 (.q 38 4 (.done)))))))))))))))))))))))))))))))))))))))) (by kernel_rfl) ?_ ?_
          · exact fun _ => FD.out
          repeat (first
            | (refine Rg.q (o := ?_) (v := ?_) ?_ ?_ ?_ ?_ ?_
               rotate_left 2
               · (simp only [List.getElem?_toArray, List.getElem?_cons_succ, List.getElem?_cons_zero]; rfl)
               · exact fun _ _ _ h => h
               · first | rfl | (go_simp; done)
               · (intro x_ hx; (try dsimp only at hx); (have q1 := hx.cell c1 id; have q2 := hx.cell c2 id; have q3 := hx.cell c3 id); go_simp; (try rw [if_neg (by omega)]); (try rw [if_pos (by omega)]); (try go_simp); try with_reducible rfl)
               try simp only [Act.put, List.setIfInBounds_toArray, List.set_cons_zero, List.set_cons_succ])
            | (refine Rg.skip (o := ?_) ?_ ?_ ?_ ?_
               rotate_left 1
               · (simp only [List.getElem?_toArray, List.getElem?_cons_succ, List.getElem?_cons_zero]; rfl)
               · exact fun _ _ _ h => h
               · first | rfl | (go_simp; done)
               try simp only [Act.put, List.setIfInBounds_toArray, List.set_cons_zero, List.set_cons_succ]))
          refine Rg.e (o := ?_) ?_ ?_
          rotate_left 1
          · (simp only [List.getElem?_toArray, List.getElem?_cons_succ, List.getElem?_cons_zero]; rfl)
          intro K hK
          go_simp
          refine (number_calls (HG.out.no (KF.out.none FD.out)) (HE9.out.no FD.out)).mono ?_
          rw [show noE none = 0 from rfl]
          rintro en x1 ⟨rfl, hf⟩
          have F1 : Aside0 (Fr No w9 x1) := ⟨FD.out.none hf⟩
          clear hf
          go_simp
          refine hK.out _ _ (fun _ x => Fr No w9 x) (fun k x hk h => h) ?_ ?_
          · exact fun _ _ => F1.out
          try simp only [Act.put, List.setIfInBounds_toArray, List.set_cons_zero, List.set_cons_succ]
          repeat (first
            | (refine Rg.q (o := ?_) (v := ?_) ?_ ?_ ?_ ?_ ?_
               rotate_left 2
               · (simp only [List.getElem?_toArray, List.getElem?_cons_succ, List.getElem?_cons_zero]; rfl)
               · exact fun _ _ _ h => h
               · first | rfl | (go_simp; done)
               · (intro x_ hx; (try dsimp only at hx); (have q1 := hx.cell c1 id; have q2 := hx.cell c2 id; have q3 := hx.cell c3 id); go_simp; (try rw [if_neg (by omega)]); (try rw [if_pos (by omega)]); (try go_simp); try with_reducible rfl)
               try simp only [Act.put, List.setIfInBounds_toArray, List.set_cons_zero, List.set_cons_succ])
            | (refine Rg.skip (o := ?_) ?_ ?_ ?_ ?_
               rotate_left 1
               · (simp only [List.getElem?_toArray, List.getElem?_cons_succ, List.getElem?_cons_zero]; rfl)
               · exact fun _ _ _ h => h
               · first | rfl | (go_simp; done)
               try simp only [Act.put, List.setIfInBounds_toArray, List.set_cons_zero, List.set_cons_succ]))
          refine Rg.e (o := ?_) ?_ ?_
          rotate_left 1
          · (simp only [List.getElem?_toArray, List.getElem?_cons_succ, List.getElem?_cons_zero]; rfl)
          intro K hK
          go_simp
          refine (at_calls (KS.out.no F1.out)).mono ?_
          rintro en x2 ⟨rfl, hx2⟩
          subst hx2
          go_simp
          refine hK.out _ _ (fun _ x => Fr No w9 x) (fun k x hk h => h) ?_ ?_
          · exact fun _ _ => F1.out
          try simp only [Act.put, List.setIfInBounds_toArray, List.set_cons_zero, List.set_cons_succ]
          repeat (first
            | (refine Rg.q (o := ?_) (v := ?_) ?_ ?_ ?_ ?_ ?_
               rotate_left 2
               · (simp only [List.getElem?_toArray, List.getElem?_cons_succ, List.getElem?_cons_zero]; rfl)
               · exact fun _ _ _ h => h
               · first | rfl | (go_simp; done)
               · (intro x_ hx; (try dsimp only at hx); (have q1 := hx.cell c1 id; have q2 := hx.cell c2 id; have q3 := hx.cell c3 id); go_simp; (try rw [if_neg (by omega)]); (try rw [if_pos (by omega)]); (try go_simp); try with_reducible rfl)
               try simp only [Act.put, List.setIfInBounds_toArray, List.set_cons_zero, List.set_cons_succ])
            | (refine Rg.skip (o := ?_) ?_ ?_ ?_ ?_
               rotate_left 1
               · (simp only [List.getElem?_toArray, List.getElem?_cons_succ, List.getElem?_cons_zero]; rfl)
               · exact fun _ _ _ h => h
               · first | rfl | (go_simp; done)
               try simp only [Act.put, List.setIfInBounds_toArray, List.set_cons_zero, List.set_cons_succ]))
          refine Rg.e (o := ?_) ?_ ?_
          rotate_left 1
          · (simp only [List.getElem?_toArray, List.getElem?_cons_succ, List.getElem?_cons_zero]; rfl)
          intro K hK
          go_simp
          refine hK.out _ _ (fun _ x => Fr No w9 x) (fun k x hk h => h) ?_ ?_
          · exact fun _ _ => F1.out
          try simp only [Act.put, List.setIfInBounds_toArray, List.set_cons_zero, List.set_cons_succ]
          repeat (first
            | (refine Rg.q (o := ?_) (v := ?_) ?_ ?_ ?_ ?_ ?_
               rotate_left 2
               · (simp only [List.getElem?_toArray, List.getElem?_cons_succ, List.getElem?_cons_zero]; rfl)
               · exact fun _ _ _ h => h
               · first | rfl | (go_simp; done)
               · (intro x_ hx; (try dsimp only at hx); (have q1 := hx.cell c1 id; have q2 := hx.cell c2 id; have q3 := hx.cell c3 id); go_simp; (try rw [if_neg (by omega)]); (try rw [if_pos (by omega)]); (try go_simp); try with_reducible rfl)
               try simp only [Act.put, List.setIfInBounds_toArray, List.set_cons_zero, List.set_cons_succ])
            | (refine Rg.skip (o := ?_) ?_ ?_ ?_ ?_
               rotate_left 1
               · (simp only [List.getElem?_toArray, List.getElem?_cons_succ, List.getElem?_cons_zero]; rfl)
               · exact fun _ _ _ h => h
               · first | rfl | (go_simp; done)
               try simp only [Act.put, List.setIfInBounds_toArray, List.set_cons_zero, List.set_cons_succ]))
          refine Rg.e (o := ?_) ?_ ?_
          rotate_left 1
          · (simp only [List.getElem?_toArray, List.getElem?_cons_succ, List.getElem?_cons_zero]; rfl)
          intro K hK
          go_simp
          refine (place_calls (HG.out.no (KF.out.none F1.out)) (HE9.out.no F1.out)).mono ?_
          rw [show plE none = -1 from rfl]
          rintro en x2 ⟨rfl, hf⟩
          have F2 : Aside0 (Fr No w9 x2) := ⟨F1.out.none hf⟩
          clear hf
          go_simp
          refine hK.out _ _ (fun _ x => Fr No w9 x) (fun k x hk h => h) ?_ ?_
          · exact fun _ _ => F2.out
          try simp only [Act.put, List.setIfInBounds_toArray, List.set_cons_zero, List.set_cons_succ]
          repeat (first
            | (refine Rg.q (o := ?_) (v := ?_) ?_ ?_ ?_ ?_ ?_
               rotate_left 2
               · (simp only [List.getElem?_toArray, List.getElem?_cons_succ, List.getElem?_cons_zero]; rfl)
               · exact fun _ _ _ h => h
               · first | rfl | (go_simp; done)
               · (intro x_ hx; (try dsimp only at hx); (have q1 := hx.cell c1 id; have q2 := hx.cell c2 id; have q3 := hx.cell c3 id); go_simp; (try rw [if_neg (by omega)]); (try rw [if_pos (by omega)]); (try go_simp); try with_reducible rfl)
               try simp only [Act.put, List.setIfInBounds_toArray, List.set_cons_zero, List.set_cons_succ])
            | (refine Rg.skip (o := ?_) ?_ ?_ ?_ ?_
               rotate_left 1
               · (simp only [List.getElem?_toArray, List.getElem?_cons_succ, List.getElem?_cons_zero]; rfl)
               · exact fun _ _ _ h => h
               · first | rfl | (go_simp; done)
               try simp only [Act.put, List.setIfInBounds_toArray, List.set_cons_zero, List.set_cons_succ]))
          refine Rg.done ?_
          go_simp
          go_wp2
          go_roundw
          case rel => exact ⟨j + 1, ⟨a1, none⟩, by go_num, by omega, ⟨KS.out.no F2.out⟩, ⟨F2.out.heap KW.out id⟩, KO, ⟨KF.out.none F2.out⟩⟩
          case measure => simp [intOf]; omega
        · have he0 : 0 < e := KO.out.2.2 _ rfl
          have heA : ((e : Int) == 0) = false := by rw [beq_eq_false_iff_ne]; omega
          have heB : ((e : Int) != 0) = true := by rw [bne_iff_ne]; omega
          clear he0
          have c1 : w9.cell? ⟨h, 1, none⟩ = some (.int .i64 (a1 : Int)) := at3_cell1 KW.out
          have c2 : w9.cell? ⟨h, 2, none⟩ = some (.int .i64 (e : Int)) := at3_cell2 KW.out
          have c3 : w9.cell? ⟨h, 3, none⟩ = some (.int .i64 (p : Int)) := at3_cell3 KW.out
          go_wp2
          refine Rg.start (fun _ x => Fr No w9 x) (by kernel_rfl) (by kernel_rfl) [1, 11, 23, 35] [[0, 1], [2, 3, 0, 1, 4, 5, 6, 7, 8, 9, 10, 11], [12, 13, 10, 11, 14, 6, 7, 8, 9, 15, 2, 3, 0, 1, 4, 5, 16, 17, 18, 19, 20, 21, 22, 23], [24, 25, 22, 23, 26, 18, 19, 20, 21, 27, 12, 13, 10, 11, 14, 6, 7, 8, 9, 15, 2, 3, 0, 1, 4, 5, 16, 17, 28, 29, 30, 31, 32, 33, 34, 35]] (by kernel_rfl) (.q 0 0 (.q 2 1 (.q 3 1 (.e 1 1 (.q 4 1 (.q 5 1 (.q 6 1 (.q 7 1 (.q 8 1 (.q 9 1 (.q 10 1 (.q 12 2 (.q 13 2 (.e 11 2 (.q 14 2 (.q 15 2 (.q 16 2 (.q 17 2 (.q 18 2 (.q 19 2 (.q 20 2 (.q 21 2 (.q 22 2 (.q 24 3 (.q 25 3 (.e 23 3 (.q 26 3 (.q 27 3 (.q 28 3 (.q 29 3 (.q 30 3 (.q 31 3 (.q 32 3 (.q 33 3 (.q 34 3 (.e 35 4 (.q 36 4 (.q 37 4 (.q 38 4 (.done)))))))))))))))))))))))))))))))))))))))) (by kernel_rfl) ?_ ?_
          · exact fun _ => FD.out
          repeat (first
            | (refine Rg.q (o := ?_) (v := ?_) ?_ ?_ ?_ ?_ ?_
               rotate_left 2
               · (simp only [List.getElem?_toArray, List.getElem?_cons_succ, List.getElem?_cons_zero]; rfl)
               · exact fun _ _ _ h => h
               · first | rfl | (go_simp; done)
               · (intro x_ hx; (try dsimp only at hx); (have q1 := hx.cell c1 id; have q2 := hx.cell c2 id; have q3 := hx.cell c3 id); go_simp; (try rw [if_neg (by omega)]); (try rw [if_pos (by omega)]); (try go_simp); try with_reducible rfl)
               try simp only [Act.put, List.setIfInBounds_toArray, List.set_cons_zero, List.set_cons_succ])
            | (refine Rg.skip (o := ?_) ?_ ?_ ?_ ?_
               rotate_left 1
               · (simp only [List.getElem?_toArray, List.getElem?_cons_succ, List.getElem?_cons_zero]; rfl)
               · exact fun _ _ _ h => h
               · first | rfl | (go_simp; done)
               try simp only [Act.put, List.setIfInBounds_toArray, List.set_cons_zero, List.set_cons_succ]))
          refine Rg.e (o := ?_) ?_ ?_
          rotate_left 1
          · (simp only [List.getElem?_toArray, List.getElem?_cons_succ, List.getElem?_cons_zero]; rfl)
          intro K hK
          go_simp
          refine (number_calls (HG.out.no (KF.out.none FD.out)) (HE9.out.no FD.out)).mono ?_
          rw [show noE (some (p, e)) = e from rfl]
          rintro en x1 ⟨rfl, hf⟩
          have F1 : Aside0 (Fr No w9 x1) := ⟨FD.out.none hf⟩
          clear hf
          go_simp
          refine hK.out _ _ (fun _ x => Fr No w9 x) (fun k x hk h => h) ?_ ?_
          · exact fun _ _ => F1.out
          try simp only [Act.put, List.setIfInBounds_toArray, List.set_cons_zero, List.set_cons_succ]
          repeat (first
            | (refine Rg.q (o := ?_) (v := ?_) ?_ ?_ ?_ ?_ ?_
               rotate_left 2
               · (simp only [List.getElem?_toArray, List.getElem?_cons_succ, List.getElem?_cons_zero]; rfl)
               · exact fun _ _ _ h => h
               · first | rfl | (go_simp; done)
               · (intro x_ hx; (try dsimp only at hx); (have q1 := hx.cell c1 id; have q2 := hx.cell c2 id; have q3 := hx.cell c3 id); go_simp; (try rw [if_neg (by omega)]); (try rw [if_pos (by omega)]); (try go_simp); try with_reducible rfl)
               try simp only [Act.put, List.setIfInBounds_toArray, List.set_cons_zero, List.set_cons_succ])
            | (refine Rg.skip (o := ?_) ?_ ?_ ?_ ?_
               rotate_left 1
               · (simp only [List.getElem?_toArray, List.getElem?_cons_succ, List.getElem?_cons_zero]; rfl)
               · exact fun _ _ _ h => h
               · first | rfl | (go_simp; done)
               try simp only [Act.put, List.setIfInBounds_toArray, List.set_cons_zero, List.set_cons_succ]))
          refine Rg.e (o := ?_) ?_ ?_
          rotate_left 1
          · (simp only [List.getElem?_toArray, List.getElem?_cons_succ, List.getElem?_cons_zero]; rfl)
          intro K hK
          go_simp
          refine hK.out _ _ (fun _ x => Fr No w9 x) (fun k x hk h => h) ?_ ?_
          · exact fun _ _ => F1.out
          try simp only [Act.put, List.setIfInBounds_toArray, List.set_cons_zero, List.set_cons_succ]
          repeat (first
            | (refine Rg.q (o := ?_) (v := ?_) ?_ ?_ ?_ ?_ ?_
               rotate_left 2
               · (simp only [List.getElem?_toArray, List.getElem?_cons_succ, List.getElem?_cons_zero]; rfl)
               · exact fun _ _ _ h => h
               · first | rfl | (go_simp; done)
               · (intro x_ hx; (try dsimp only at hx); (have q1 := hx.cell c1 id; have q2 := hx.cell c2 id; have q3 := hx.cell c3 id); go_simp; (try rw [if_neg (by omega)]); (try rw [if_pos (by omega)]); (try go_simp); try with_reducible rfl)
               try simp only [Act.put, List.setIfInBounds_toArray, List.set_cons_zero, List.set_cons_succ])
            | (refine Rg.skip (o := ?_) ?_ ?_ ?_ ?_
               rotate_left 1
               · (simp only [List.getElem?_toArray, List.getElem?_cons_succ, List.getElem?_cons_zero]; rfl)
               · exact fun _ _ _ h => h
               · first | rfl | (go_simp; done)
               try simp only [Act.put, List.setIfInBounds_toArray, List.set_cons_zero, List.set_cons_succ]))
          refine Rg.e (o := ?_) ?_ ?_
          rotate_left 1
          · (simp only [List.getElem?_toArray, List.getElem?_cons_succ, List.getElem?_cons_zero]; rfl)
          intro K hK
          go_simp
          refine (place_calls (HG.out.no (KF.out.none F1.out)) (HE9.out.no F1.out)).mono ?_
          rw [show plE (some (p, e)) = (p : Int) from rfl]
          rintro en x2 ⟨rfl, hf⟩
          have F2 : Aside0 (Fr No w9 x2) := ⟨F1.out.none hf⟩
          clear hf
          go_simp
          refine hK.out _ _ (fun _ x => Fr No w9 x) (fun k x hk h => h) ?_ ?_
          · exact fun _ _ => F2.out
          try simp only [Act.put, List.setIfInBounds_toArray, List.set_cons_zero, List.set_cons_succ]
          repeat (first
            | (refine Rg.q (o := ?_) (v := ?_) ?_ ?_ ?_ ?_ ?_
               rotate_left 2
               · (simp only [List.getElem?_toArray, List.getElem?_cons_succ, List.getElem?_cons_zero]; rfl)
               · exact fun _ _ _ h => h
               · first | rfl | (go_simp; done)
               · (intro x_ hx; (try dsimp only at hx); (have q1 := hx.cell c1 id; have q2 := hx.cell c2 id; have q3 := hx.cell c3 id); go_simp; (try rw [if_neg (by omega)]); (try rw [if_pos (by omega)]); (try go_simp); try with_reducible rfl)
               try simp only [Act.put, List.setIfInBounds_toArray, List.set_cons_zero, List.set_cons_succ])
            | (refine Rg.skip (o := ?_) ?_ ?_ ?_ ?_
               rotate_left 1
               · (simp only [List.getElem?_toArray, List.getElem?_cons_succ, List.getElem?_cons_zero]; rfl)
               · exact fun _ _ _ h => h
               · first | rfl | (go_simp; done)
               try simp only [Act.put, List.setIfInBounds_toArray, List.set_cons_zero, List.set_cons_succ]))
          refine Rg.e (o := ?_) ?_ ?_
          rotate_left 1
          · (simp only [List.getElem?_toArray, List.getElem?_cons_succ, List.getElem?_cons_zero]; rfl)
          intro K hK
          go_simp
          refine hK.out _ _ (fun _ x => Fr No w9 x) (fun k x hk h => h) ?_ ?_
          · exact fun _ _ => F2.out
          try simp only [Act.put, List.setIfInBounds_toArray, List.set_cons_zero, List.set_cons_succ]
          repeat (first
            | (refine Rg.q (o := ?_) (v := ?_) ?_ ?_ ?_ ?_ ?_
               rotate_left 2
               · (simp only [List.getElem?_toArray, List.getElem?_cons_succ, List.getElem?_cons_zero]; rfl)
               · exact fun _ _ _ h => h
               · first | rfl | (go_simp; done)
               · (intro x_ hx; (try dsimp only at hx); (have q1 := hx.cell c1 id; have q2 := hx.cell c2 id; have q3 := hx.cell c3 id); go_simp; (try rw [if_neg (by omega)]); (try rw [if_pos (by omega)]); (try go_simp); try with_reducible rfl)
               try simp only [Act.put, List.setIfInBounds_toArray, List.set_cons_zero, List.set_cons_succ])
            | (refine Rg.skip (o := ?_) ?_ ?_ ?_ ?_
               rotate_left 1
               · (simp only [List.getElem?_toArray, List.getElem?_cons_succ, List.getElem?_cons_zero]; rfl)
               · exact fun _ _ _ h => h
               · first | rfl | (go_simp; done)
               try simp only [Act.put, List.setIfInBounds_toArray, List.set_cons_zero, List.set_cons_succ]))
          refine Rg.done ?_
          go_simp
          go_wp2
          go_roundw
          case rel => exact ⟨j + 1, ⟨a1, some (p, e)⟩, by go_num, by omega, ⟨KS.out.no F2.out⟩, ⟨F2.out.heap KW.out id⟩, KO, ⟨KF.out.none F2.out⟩⟩
          case measure => simp [intOf]; omega
    · have hjI : ¬ (j : Int) < (l.length : Int) := by omega
      go_wp2
      go_ret
      exact ⟨rfl, JF.out⟩
theorem walk (vb : Value) (b : List UInt8) (vk : Value) (l : List Int) (w : World) (hg : Gl w) (hb : RdB w vb b ∧ b.length ≤ reach) (hk : RdI w vk l ∧ ∀ x ∈ l, (Lit.int .i64 x).wf = true) : Calls Tryd.prog 6 #[vb, vk] w fun e w' => e = .returned (.bool true) ∧ Fr No w w' := by
  by_cases h : 6000 < b.length ∨ 60 < l.length
  · exact walk_out vb b vk l w hb.1 hk.1 h
  · exact walk_ok vb b vk l w hg hb.1 hk.1 (by omega) (by omega)
end Go.Proofs.YtdicjcpcohclaaaDoor.LCodeReads
