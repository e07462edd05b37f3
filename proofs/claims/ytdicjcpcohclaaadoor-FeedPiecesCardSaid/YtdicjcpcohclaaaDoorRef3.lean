/- The document's reader (chapter 03): fail, Byte, Number, Piece, Sum, End. -/
import Derived.Test.YtdicjcpcohclaaaDoorPB
import Derived.Test.YtdicjcpcohclaaaDoorReader
import Derived.Test.YtdicjcpcohclaaaDoorRegion
import Derived.Test.YtdicjcpcohclaaaDoorLd
import Derived.Test.YtdicjcpcohclaaaDoorArr
set_option linter.unusedVariables false
set_option linter.unusedSimpArgs false
namespace Go.Proofs.YtdicjcpcohclaaaDoor.Ref3
open Go.RowKit Go.Proofs.YtdicjcpcohclaaaDoorW.PrintWords Go.Proofs.YtdicjcpcohclaaaDoor.B Go.Proofs.YtdicjcpcohclaaaDoor.PB Go.Proofs.YtdicjcpcohclaaaDoor.SCode

/-- A reader, as a value. -/
abbrev rr (b : List UInt8) (a c d : Int) : Value := .agg #[.string (bstr b), .int .i64 a, .int .i64 c, .int .i64 d]
def cd (r : R) : Nat := match r.err with | none => 0 | some (_, e) => e
def bd (r : R) : Nat := match r.err with | none => 0 | some (a, _) => a
def rv (b : List UInt8) (r : R) : Value := rr b (r.at_ : Int) (cd r : Int) (bd r : Int)
/-- What went wrong has a number; the reader is within its bytes. -/
def ok (b : List UInt8) (r : R) : Prop := r.at_ ≤ b.length ∧ b.length ≤ 4611686018427387904 ∧ ∀ q, r.err = some q → 0 < q.2

theorem fail_calls (b : List UInt8) (a c d p e : Int) (w : World) : Calls Tryd.prog 52 #[rr b a c d, .int .i64 p, .int .i64 e] w fun en w' => en = .returned (rr b a e p) ∧ Fr No w w' := by
  go_enter Tryd.func52, Tryd.ntmps52
  go_wp2
  (try simp only [Exit.inBlock, Exit.then]); refine bodyPost_ret (results_single (r := .cell 6 44) rfl (.cell (w.heap.size + 1) 44 #[.string (bstr b), .int .i64 a, .int .i64 e, .int .i64 p] (0, 0) _ rfl (heap_alloc2_new w _ _) Tryd.underlying44 rfl (by kernel_rfl) .nil)) rfl ?_
  exact ⟨rfl, ((Fr.refl _ _).alloc _).alloc _⟩
/-- A reader's cells. -/
abbrev rc (b : List UInt8) (a c d : Int) : Array Value := #[.string (bstr b), .int .i64 a, .int .i64 c, .int .i64 d]
theorem bstr_get (b : List UInt8) (i : Nat) (x : UInt8) (h : b[i]? = some x) (hi : i < (bstr b).size) : (bstr b)[i] = x := by
  obtain ⟨h1, h2⟩ := List.getElem?_eq_some_iff.1 h
  exact h2
theorem wrap_u8 (x : UInt8) : wrap64 (x.toNat : Int) = (x.toNat : Int) := by
  have := x.toNat_lt
  unfold wrap64; omega
set_option maxHeartbeats 4000000 in
set_option maxRecDepth 100000 in
theorem byte_calls (b : List UInt8) (r : R) (h : ok b r) (w : World) : Calls Tryd.prog 30 #[rv b r] w fun en w' => en = .returned (.tuple #[rv b (rByte b r).1, .int .i64 ((rByte b r).2.toNat : Int)]) ∧ Fr No w w' := by
  obtain ⟨a, er⟩ := r
  obtain ⟨ha, hb, he⟩ := h
  cases er with
  | some q =>
    obtain ⟨p, e⟩ := q
    have he0 := he _ rfl
    have e1 : rByte b ⟨a, some (p, e)⟩ = (⟨a, some (p, e)⟩, 0) := rfl
    have hne : ((e : Int) != 0) = true := by rw [bne_iff_ne]; dsimp only at he0; omega
    rw [e1]
    unfold rv cd bd
    dsimp only
    clear he he0 e1
    go_enter Tryd.func30, Tryd.ntmps30
    go_wp2
    (try simp only [Exit.inBlock, Exit.then]); refine bodyPost_ret (results_list (rs := [.cell 2 44, .tmp 3]) rfl (by simp) (.cell (w.heap.size + 1) 44 (rc b a e p) (0, 0) _ rfl (heap_alloc2_new w _ _) Tryd.underlying44 rfl (by kernel_rfl) (.tmp .nil))) rfl ?_
    exact ⟨rfl, ((Fr.refl _ _).alloc _).alloc _⟩
  | none =>
    by_cases hl : a < b.length
    · have hlI : ¬ (b.length : Int) ≤ (a : Int) := by omega
      obtain ⟨x, hx⟩ : ∃ x, b[a]? = some x := ⟨_, List.getElem?_eq_getElem hl⟩
      have e1 : rByte b ⟨a, none⟩ = (⟨a + 1, none⟩, x) := by
        have := (List.getElem?_eq_some_iff.1 hx).2
        simp [rByte, hl, this]
      rw [e1]
      unfold rv cd bd
      dsimp only
      clear he e1
      go_enter Tryd.func30, Tryd.ntmps30
      go_wp2
      (try simp only [Exit.inBlock, Exit.then]); refine bodyPost_ret (results_list (rs := [.cell 2 44, .tmp 3]) rfl (by simp) (.cell (w.heap.size + 1) 44 (rc b (a + 1) 0 0) (0, 0) _ rfl (heap_alloc2_new w _ _) Tryd.underlying44 rfl (by kernel_rfl) (.tmp .nil))) rfl ?_
      refine ⟨?_, ((Fr.refl _ _).alloc _).alloc _⟩
      have hw := wrap_u8 x
      simp only [bstr_get b a x hx, hw]
      rfl
    · have hlI : (b.length : Int) ≤ (a : Int) := by omega
      have e1 : rByte b ⟨a, none⟩ = (⟨a, some (a, 30)⟩, 0) := by simp [rByte, hl]
      rw [e1]
      unfold rv cd bd
      dsimp only
      clear he e1
      go_enter Tryd.func30, Tryd.ntmps30
      go_wp2_with fail
      refine (fail_calls b a 0 0 a 30 _).mono ?_
      rintro e w1 ⟨rfl, hf⟩
      have hz := hf.heap (heap_alloc2_new w _ _) id
      have F1 : Fr No w w1 := (((Fr.refl _ _).alloc _).alloc _).none hf
      go_wp2_with (refine PB.stRow (.tmp 2) (.tmp 18) 44 (w.heap.size + 1) 44 _ (rc b a 30 a) rfl rfl rfl rfl hz (by kernel_rfl) rfl (by simp [Value.oneCell']) ?_)
      (try simp only [Exit.inBlock, Exit.then]); refine bodyPost_ret (results_list (rs := [.cell 2 44, .tmp 3]) rfl (by simp) (.cell (w.heap.size + 1) 44 (rc b a 30 a) (0, 0) _ rfl (setRow_heap _ _ _ _ _ _ hz) Tryd.underlying44 rfl (by kernel_rfl) (.tmp .nil))) rfl ?_
      exact ⟨rfl, fr_setRow F1 (.inr (by omega)) _⟩
theorem ok_byte {b : List UInt8} {r : R} (h : ok b r) : ok b (rByte b r).1 := by
  obtain ⟨a, er⟩ := r
  obtain ⟨h1, h2, h3⟩ := h
  dsimp only at h1 h3
  cases er with
  | some q => exact ⟨h1, h2, h3⟩
  | none =>
    unfold rByte
    dsimp only
    split
    · exact ⟨by dsimp only; omega, h2, fun q hq => by cases hq⟩
    · exact ⟨by dsimp only; omega, h2, fun q hq => by injection hq with hq; subst hq; show 0 < 30; decide⟩
theorem ok_fail {b : List UInt8} {r : R} (h : ok b r) (a e : Nat) (he : 0 < e) : ok b (r.fail a e) := by
  obtain ⟨ra, er⟩ := r
  obtain ⟨h1, h2, h3⟩ := h
  unfold R.fail
  cases er with
  | some q => exact ⟨h1, h2, h3⟩
  | none => exact ⟨h1, h2, fun q hq => by injection hq with hq; subst hq; exact he⟩
set_option maxHeartbeats 4000000 in
set_option maxRecDepth 100000 in
theorem number_calls (b : List UInt8) (r : R) (h : ok b r) (w : World) : Calls Tryd.prog 31 #[rv b r] w fun en w' => en = .returned (.tuple #[rv b (rNum b r).1, .int .i64 ((rNum b r).2 : Int)]) ∧ Fr No w w' := by
  have hres : rNum b r = Rdr.numRes b r.at_ 0 0 r := by unfold rNum Rdr.numRes; cases r.err <;> rfl
  obtain ⟨a, er⟩ := r
  cases er with
  | some q =>
    obtain ⟨p, e⟩ := q
    have he0 := h.2.2 _ rfl
    have e1 : rNum b ⟨a, some (p, e)⟩ = (⟨a, some (p, e)⟩, 0) := rfl
    have hne : ((e : Int) != 0) = true := by rw [bne_iff_ne]; dsimp only at he0; omega
    rw [e1]
    unfold rv cd bd
    dsimp only
    clear h he0 e1 hres
    go_enter Tryd.func31, Tryd.ntmps31
    go_wp2
    (try simp only [Exit.inBlock, Exit.then]); refine bodyPost_ret (results_list (rs := [.cell 2 44, .tmp 3]) rfl (by simp) (.cell (w.heap.size + 1) 44 (rc b a e p) (0, 0) _ rfl (heap_alloc2_new w _ _) Tryd.underlying44 rfl (by kernel_rfl) (.tmp .nil))) rfl ?_
    exact ⟨rfl, ((Fr.refl _ _).alloc _).alloc _⟩
  | none =>
    obtain ⟨res, hr⟩ : ∃ res, rNum b ⟨a, none⟩ = res := ⟨_, rfl⟩
    rw [hr]
    dsimp only at hres
    rw [hr] at hres
    have HR := Aside0.mk hres.symm
    have H0 := Aside0.mk h
    clear hr hres h
    obtain ⟨V, hV⟩ : ∃ V, Value.tuple #[rv b res.1, .int .i64 (res.2 : Int)] = V := ⟨_, rfl⟩
    rw [hV]
    have HV := Aside0.mk hV
    clear hV
    unfold rv cd bd
    dsimp only
    go_enter Tryd.func31, Tryd.ntmps31
    go_wp2
    go_loopw [5, 6, 7] (fun v5 v6 v7 wr => ∃ (k n ra P : Nat), v5 = .int .i64 n ∧ v6 = .int .i64 (P : Int) ∧ Aside0 (P = 128 ^ k) ∧ v7 = .int .i64 (k : Int) ∧ k ≤ 6 ∧ Aside0 (n < 128 ^ k) ∧ Aside0 (ok b ⟨ra, none⟩) ∧ Aside0 (Rdr.numRes b a k n ⟨ra, none⟩ = res) ∧
      Aside0 (wr.heap[w.heap.size]? = some (.cells (rc b ra 0 0) 44 (0, 0))) ∧ Aside0 (wr.heap[w.heap.size + 1]? = some (.cells (rc [] 0 0 0) 44 (0, 0))) ∧ Aside0 (Fr No w wr)) (fun _ _ v7 _ => 6 - (intOf v7).toNat)
    case atStart => exact ⟨0, 0, a, 1, rfl, rfl, ⟨rfl⟩, rfl, by omega, ⟨by omega⟩, H0, HR, ⟨blk_alloc (heap_alloc_new w _) _⟩, ⟨heap_alloc2_new w _ _⟩, ⟨((Fr.refl _ _).alloc _).alloc _⟩⟩
    case round =>
      clear H0 HR
      obtain ⟨k, n, ra, P, rfl, rfl, HP, rfl, hk, HN, HO, HQ, H1, H2, HF⟩ := hrel
      have LD := ld_all (P := Tryd.prog) (ty := 44) H1.out Tryd.underlying44 rfl (by kernel_rfl)
      by_cases hk6 : k < 6
      · have hkI : (k : Int) < 6 := by omega
        go_wp2_with (refine ldG (.tmp 1) 44 _ _ rfl rfl (LD _ (Fr.refl _ _)) (by first | rfl | (go_simp; done)) ?_)
        refine (byte_calls b ⟨ra, none⟩ HO.out _).mono ?_
        rintro e w1 ⟨rfl, hf1⟩
        have hob := ok_byte HO.out
        have hstep := Rdr.numRes_step b a k n ⟨ra, none⟩ rfl (by omega)
        rw [HQ.out] at hstep
        obtain ⟨⟨⟨ra1, er1⟩, x⟩, hq⟩ : ∃ q, rByte b ⟨ra, none⟩ = q := ⟨_, rfl⟩
        rw [hq] at hstep hob ⊢
        obtain ⟨c1, hc1⟩ : ∃ c : Int, ((cd ⟨ra1, er1⟩ : Nat) : Int) = c := ⟨_, rfl⟩
        obtain ⟨d1, hd1⟩ : ∃ d : Int, ((bd ⟨ra1, er1⟩ : Nat) : Int) = d := ⟨_, rfl⟩
        unfold rv
        rw [hc1, hd1]
        dsimp only at hstep hob ⊢
        have F1 : Fr No wr w1 := hf1
        have h1a := hf1.heap H1.out id
        have h1b : (w1.alloc (.cells (rc b ra1 c1 d1) 44)).heap[w.heap.size]? = some (.cells (rc b ra 0 0) 44 (0, 0)) := blk_alloc h1a _
        have LT := ld_all (P := Tryd.prog) (ty := 44) (heap_alloc_new w1 (.cells (rc b ra1 c1 d1) 44)) Tryd.underlying44 rfl (by kernel_rfl)
        go_upto_region 10 with (first
          | (refine PB.stRow (.tmp 8) (.tmp 23) 44 w1.heap.size 44 _ (rc b ra1 c1 d1) rfl rfl rfl rfl (heap_alloc_new w1 _) (by kernel_rfl) rfl (by simp [Value.oneCell']) ?_; rw [World.setRow_alloc_new])
          | (refine ldG (.tmp 8) 44 _ _ rfl rfl (LT _ (Fr.refl _ _)) (by first | rfl | (go_simp; done)) ?_)
          | (refine PB.stRow (.tmp 1) (.tmp 25) 44 w.heap.size 44 _ (rc b ra1 c1 d1) rfl rfl rfl rfl h1b (by kernel_rfl) rfl (by simp [Value.oneCell']) ?_))
        have K1 : Aside0 (((w1.alloc (.cells (rc b ra1 c1 d1) 44)).setRow w.heap.size (rc b ra1 c1 d1)).heap[w.heap.size]? = some (.cells (rc b ra1 c1 d1) 44 (0, 0))) := ⟨setRow_heap _ _ _ _ _ _ h1b⟩
        have K2 : Aside0 (((w1.alloc (.cells (rc b ra1 c1 d1) 44)).setRow w.heap.size (rc b ra1 c1 d1)).heap[w.heap.size + 1]? = some (.cells (rc [] 0 0 0) 44 (0, 0))) := ⟨by
          have h := (fr_one_row (w1.alloc (.cells (rc b ra1 c1 d1) 44)) w.heap.size (rc b ra1 c1 d1)).heap (blk_alloc (hf1.heap H2.out id) _) (fun e => by have e' : w.heap.size + 1 = w.heap.size := e; omega)
          exact h⟩
        have KF : Aside0 (Fr No w ((w1.alloc (.cells (rc b ra1 c1 d1) 44)).setRow w.heap.size (rc b ra1 c1 d1))) := ⟨fr_setRow ((HF.out.none hf1).alloc _) (.inr (Nat.le_refl _)) _⟩
        have HN' := HN.out
        have HOB := Aside0.mk hob
        clear h1a h1b LT hf1 F1 H1 H2 HF LD HO HQ HN hob
        generalize (w1.alloc (.cells (rc b ra1 c1 d1) 44)).setRow w.heap.size (rc b ra1 c1 d1) = w5 at K1 K2 KF ⊢
        have c2 : w5.cell? ⟨w.heap.size, 2, Option.none⟩ = some (.int .i64 c1) := by rw [blk_cell K1.out]; rfl
        go_simp
        cases er1 with
        | some q =>
          obtain ⟨p, e⟩ := q
          have hpos := HOB.out.2.2 _ rfl
          have hne : (c1 != 0) = true := by rw [bne_iff_ne, ← hc1]; dsimp only [cd] at hpos ⊢; omega
          have HST := Aside0.mk hstep
          have LD5 := ld_all (P := Tryd.prog) (ty := 44) K1.out Tryd.underlying44 rfl (by kernel_rfl)
          have HC1 := Aside0.mk hc1; have HD1 := Aside0.mk hd1
          clear hstep hc1 hd1 hpos
          go_wp2_with (first
              | (refine ldG (.tmp 1) 44 _ _ rfl rfl (LD5 _ (Fr.refl _ _)) (by first | rfl | (go_simp; done)) ?_)
              | (refine PB.stRow (.tmp 2) (.tmp 29) 44 (w.heap.size + 1) 44 _ (rc b ra1 c1 d1) rfl rfl rfl rfl K2.out (by kernel_rfl) rfl (by simp [Value.oneCell']) ?_))
          (try simp only [Exit.inBlock, Exit.then]); refine bodyPost_ret (results_list (rs := [.cell 2 44, .tmp 3]) rfl (by simp) (.cell (w.heap.size + 1) 44 (rc b ra1 c1 d1) (0, 0) _ rfl (setRow_heap _ _ _ _ _ _ K2.out) Tryd.underlying44 rfl (by kernel_rfl) (.tmp .nil))) rfl ?_
          refine ⟨?_, fr_setRow KF.out (.inr (by omega)) _⟩
          rw [← HV.out, HST.out, ← HC1.out, ← HD1.out]
          rfl
        | none =>
          obtain rfl : c1 = 0 := hc1.symm
          obtain rfl : d1 = 0 := hd1.symm
          dsimp only at hstep
          clear hc1 hd1
          by_cases hform : k = 6 ∨ (x = 0 ∧ 0 < k)
          · rw [if_pos hform] at hstep
            have HST := Aside0.mk hstep
            have hx0 : x = 0 := by rcases hform with h | h; omega; exact h.1
            have hk0 : 0 < k := by rcases hform with h | h; omega; exact h.2
            have hk0I : (0 : Int) < (k : Int) := by omega
            subst hx0
            clear hstep hform
            rw [show (((0 : UInt8).toNat : Nat) : Int) = 0 from rfl]
            have LD5 := ld_all (P := Tryd.prog) (ty := 44) K1.out Tryd.underlying44 rfl (by kernel_rfl)
            go_wp2_with (refine ldG (.tmp 1) 44 _ _ rfl rfl (LD5 _ (Fr.refl _ _)) (by first | rfl | (go_simp; done)) ?_)
            refine (fail_calls b ra1 0 0 a 31 _).mono ?_
            rintro e' w6 ⟨rfl, hf6⟩
            have k2 := hf6.heap K2.out id
            go_wp2_with (refine PB.stRow (.tmp 2) (.tmp 38) 44 (w.heap.size + 1) 44 _ (rc b ra1 31 a) rfl rfl rfl rfl k2 (by kernel_rfl) rfl (by simp [Value.oneCell']) ?_)
            (try simp only [Exit.inBlock, Exit.then]); refine bodyPost_ret (results_list (rs := [.cell 2 44, .tmp 3]) rfl (by simp) (.cell (w.heap.size + 1) 44 (rc b ra1 31 a) (0, 0) _ rfl (setRow_heap _ _ _ _ _ _ k2) Tryd.underlying44 rfl (by kernel_rfl) (.tmp .nil))) rfl ?_
            exact ⟨by rw [← HV.out, HST.out]; rfl, fr_setRow (KF.out.none hf6) (.inr (by omega)) _⟩
          · rw [if_neg hform] at hstep
            have hz : (x.toNat : Int) = 0 → k = 0 := fun h => by
              have h1 : x = 0 := by rw [← UInt8.toNat_inj, Int.natCast_eq_zero.1 h]; rfl
              rcases Nat.eq_zero_or_pos k with h2 | h2
              · exact h2
              · exact absurd (.inr ⟨h1, h2⟩) hform
            have hxl := x.toNat_lt
            have hP5 : P ≤ 34359738368 := by
              rw [HP.out]
              exact Nat.le_trans (Nat.pow_le_pow_right (by omega) (show k ≤ 5 by omega)) (by decide)
            rw [← HP.out] at hstep HN'
            have HST := Aside0.mk hstep
            clear hstep hform
            have LD5 := ld_all (P := Tryd.prog) (ty := 44) K1.out Tryd.underlying44 rfl (by kernel_rfl)
            by_cases hx0 : x.toNat = 0
            · obtain rfl : x = 0 := by rw [← UInt8.toNat_inj, hx0]; rfl
              obtain rfl : k = 0 := hz rfl
              obtain rfl : P = 1 := HP.out
              obtain rfl : n = 0 := by omega
              have hst := HST.out
              rw [show (0 : UInt8).toNat = 0 from rfl, if_pos (by decide), if_neg (by decide)] at hst
              have HST3 := Aside0.mk hst
              rw [show (((0 : UInt8).toNat : Nat) : Int) = 0 from rfl]
              clear hst hz HST
              go_wp2_with (first
                | (refine ldG (.tmp 1) 44 _ _ rfl rfl (LD5 _ (Fr.refl _ _)) (by first | rfl | (go_simp; done)) ?_)
                | (refine PB.stRow (.tmp 2) (.tmp 54) 44 (w.heap.size + 1) 44 _ (rc b ra1 0 0) rfl rfl rfl rfl K2.out (by kernel_rfl) rfl (by simp [Value.oneCell']) ?_))
              (try simp only [Exit.inBlock, Exit.then]); refine bodyPost_ret (results_list (rs := [.cell 2 44, .tmp 3]) rfl (by simp) (.cell (w.heap.size + 1) 44 (rc b ra1 0 0) (0, 0) _ rfl (setRow_heap _ _ _ _ _ _ K2.out) Tryd.underlying44 rfl (by kernel_rfl) (.tmp .nil))) rfl ?_
              exact ⟨by rw [← HV.out, HST3.out]; rfl, fr_setRow KF.out (.inr (by omega)) _⟩
            have hx0I : ((x.toNat : Int) == 0) = false := by rw [beq_eq_false_iff_ne]; omega
            clear hz
            obtain ⟨M, hM⟩ : ∃ M, x.toNat % 128 * P = M := ⟨_, rfl⟩
            have hMb : M ≤ 4398046511104 := by
              rw [← hM]
              exact Nat.le_trans (Nat.mul_le_mul (show x.toNat % 128 ≤ 128 by omega) hP5) (by decide)
            have hw1 : wrap64 ((x.toNat : Int) % 128 * (P : Int)) = (M : Int) := by
              have e : (x.toNat : Int) % 128 * (P : Int) = (M : Int) := by rw [← hM]; push_cast; rfl
              rw [e]; unfold wrap64; omega
            have HM := Aside0.mk hM
            have hnb : n ≤ 34359738368 := by omega
            have HP1 : Aside0 (P * 128 = 128 ^ (k + 1)) := ⟨by rw [HP.out, Nat.pow_succ]⟩
            have HNM : Aside0 (n + M < 128 ^ (k + 1)) := ⟨by
              have h1 : x.toNat % 128 ≤ 127 := by omega
              have h2 : M ≤ 127 * P := by rw [← hM]; exact Nat.mul_le_mul_right _ h1
              rw [← HP1.out]
              omega⟩
            have HMX : Aside0 (x.toNat < 128 → x.toNat * P = M) := ⟨fun h => by rw [← hM, Nat.mod_eq_of_lt h]⟩
            clear hM HN'
            by_cases hx : x.toNat < 128
            · have hst := HST.out
              rw [if_pos hx, HMX.out hx] at hst
              have HST2 := Aside0.mk hst
              have hxI : (x.toNat : Int) < 128 := by omega
              clear hst HST
              by_cases hbig : 1099511627776 < n + M
              · have hst := HST2.out
                rw [if_pos hbig] at hst
                have HST3 := Aside0.mk hst
                have hbI : (1099511627776 : Int) < (n : Int) + (M : Int) := by omega
                clear hst HST2
                have fin : ∀ (W : World), Fr No w5 W → Calls Tryd.prog 52 #[.agg (rc b ra1 0 0), .int .i64 a, .int .i64 1] W fun en w' => en = .returned (rr b ra1 1 a) ∧ Fr No W w' := fun W _ => fail_calls b ra1 0 0 a 1 W
                go_wp2_with (refine ldG (.tmp 1) 44 _ _ rfl rfl (LD5 _ (Fr.refl _ _)) (by first | rfl | (go_simp; done)) ?_)
                refine (fin _ (Fr.refl _ _)).mono ?_
                rintro e' w6 ⟨rfl, hf6⟩
                have k2 := hf6.heap K2.out id
                go_wp2_with (refine PB.stRow (.tmp 2) (.tmp 53) 44 (w.heap.size + 1) 44 _ (rc b ra1 1 a) rfl rfl rfl rfl k2 (by kernel_rfl) rfl (by simp [Value.oneCell']) ?_)
                (try simp only [Exit.inBlock, Exit.then]); refine bodyPost_ret (results_list (rs := [.cell 2 44, .tmp 3]) rfl (by simp) (.cell (w.heap.size + 1) 44 (rc b ra1 1 a) (0, 0) _ rfl (setRow_heap _ _ _ _ _ _ k2) Tryd.underlying44 rfl (by kernel_rfl) (.tmp .nil))) rfl ?_
                exact ⟨by rw [← HV.out, HST3.out]; rfl, fr_setRow (KF.out.none hf6) (.inr (by omega)) _⟩
              · have hst := HST2.out
                rw [if_neg hbig] at hst
                have HST3 := Aside0.mk hst
                have hbI : ¬ (1099511627776 : Int) < (n : Int) + (M : Int) := by omega
                clear hst HST2
                go_wp2_with (first
                  | (refine ldG (.tmp 1) 44 _ _ rfl rfl (LD5 _ (Fr.refl _ _)) (by first | rfl | (go_simp; done)) ?_)
                  | (refine PB.stRow (.tmp 2) (.tmp 54) 44 (w.heap.size + 1) 44 _ (rc b ra1 0 0) rfl rfl rfl rfl K2.out (by kernel_rfl) rfl (by simp [Value.oneCell']) ?_))
                (try simp only [Exit.inBlock, Exit.then]); refine bodyPost_ret (results_list (rs := [.cell 2 44, .tmp 3]) rfl (by simp) (.cell (w.heap.size + 1) 44 (rc b ra1 0 0) (0, 0) _ rfl (setRow_heap _ _ _ _ _ _ K2.out) Tryd.underlying44 rfl (by kernel_rfl) (.tmp .nil))) rfl ?_
                exact ⟨by rw [← HV.out, HST3.out]; rfl, fr_setRow KF.out (.inr (by omega)) _⟩
            · have hst := HST.out
              rw [if_neg hx, HM.out] at hst
              have HST2 := Aside0.mk hst
              have hxI : ¬ (x.toNat : Int) < 128 := by omega
              clear hst HST LD5
              go_wp2
              go_roundw
              case rel =>
                exact ⟨u3, .int .i64 ((n + M : Nat) : Int), .int .i64 ((P * 128 : Nat) : Int), .int .i64 ((k + 1 : Nat) : Int), ⟨k + 1, n + M, rfl, ra1, P * 128, rfl, HP1, rfl, by omega, HNM, HOB, ⟨HST2.out.symm⟩, K1⟩, rfl, by go_num, by go_num, by go_num⟩
              case measure => simp [intOf]; omega
      · have hkI : ¬ (k : Int) < 6 := by omega
        obtain rfl : k = 6 := by omega
        go_wp2_with (refine ldG (.tmp 1) 44 _ _ rfl rfl (LD _ (Fr.refl _ _)) (by first | rfl | (go_simp; done)) ?_)
        refine (byte_calls b ⟨ra, none⟩ HO.out _).mono ?_
        rintro e w1 ⟨rfl, hf1⟩
        have hob := ok_byte HO.out
        have hstep := Rdr.numRes_step b a 6 n ⟨ra, none⟩ rfl (by omega)
        rw [HQ.out] at hstep
        obtain ⟨⟨⟨ra1, er1⟩, x⟩, hq⟩ : ∃ q, rByte b ⟨ra, none⟩ = q := ⟨_, rfl⟩
        rw [hq] at hstep hob ⊢
        obtain ⟨c1, hc1⟩ : ∃ c : Int, ((cd ⟨ra1, er1⟩ : Nat) : Int) = c := ⟨_, rfl⟩
        obtain ⟨d1, hd1⟩ : ∃ d : Int, ((bd ⟨ra1, er1⟩ : Nat) : Int) = d := ⟨_, rfl⟩
        unfold rv
        rw [hc1, hd1]
        dsimp only at hstep hob ⊢
        have h1a := hf1.heap H1.out id
        go_upto_region 21 with (refine PB.stRow (.tmp 1) (.tmp 59) 44 w.heap.size 44 _ (rc b ra1 c1 d1) rfl rfl rfl rfl h1a (by kernel_rfl) rfl (by simp [Value.oneCell']) ?_)
        have K1 : Aside0 ((w1.setRow w.heap.size (rc b ra1 c1 d1)).heap[w.heap.size]? = some (.cells (rc b ra1 c1 d1) 44 (0, 0))) := ⟨setRow_heap _ _ _ _ _ _ h1a⟩
        have K2 : Aside0 ((w1.setRow w.heap.size (rc b ra1 c1 d1)).heap[w.heap.size + 1]? = some (.cells (rc [] 0 0 0) 44 (0, 0))) := ⟨(fr_one_row w1 w.heap.size (rc b ra1 c1 d1)).heap (hf1.heap H2.out id) (fun e => by have e' : w.heap.size + 1 = w.heap.size := e; omega)⟩
        have KF : Aside0 (Fr No w (w1.setRow w.heap.size (rc b ra1 c1 d1))) := ⟨fr_setRow (HF.out.none hf1) (.inr (Nat.le_refl _)) _⟩
        have HOB := Aside0.mk hob
        clear h1a hf1 H1 H2 HF LD HO HQ HN hob
        generalize w1.setRow w.heap.size (rc b ra1 c1 d1) = w5 at K1 K2 KF ⊢
        have c2 : w5.cell? ⟨w.heap.size, 2, Option.none⟩ = some (.int .i64 c1) := by rw [blk_cell K1.out]; rfl
        have LD5 := ld_all (P := Tryd.prog) (ty := 44) K1.out Tryd.underlying44 rfl (by kernel_rfl)
        go_simp
        cases er1 with
        | some q =>
          obtain ⟨p, e⟩ := q
          have hpos := HOB.out.2.2 _ rfl
          have hne : (c1 != 0) = true := by rw [bne_iff_ne, ← hc1]; dsimp only [cd] at hpos ⊢; omega
          have HST := Aside0.mk hstep
          have HC1 := Aside0.mk hc1; have HD1 := Aside0.mk hd1
          clear hstep hc1 hd1 hpos
          go_wp2_with (first
            | (refine ldG (.tmp 1) 44 _ _ rfl rfl (LD5 _ (Fr.refl _ _)) (by first | rfl | (go_simp; done)) ?_)
            | (refine PB.stRow (.tmp 2) (.tmp 64) 44 (w.heap.size + 1) 44 _ (rc b ra1 c1 d1) rfl rfl rfl rfl K2.out (by kernel_rfl) rfl (by simp [Value.oneCell']) ?_))
          (try simp only [Exit.inBlock, Exit.then]); refine bodyPost_ret (results_list (rs := [.cell 2 44, .tmp 3]) rfl (by simp) (.cell (w.heap.size + 1) 44 (rc b ra1 c1 d1) (0, 0) _ rfl (setRow_heap _ _ _ _ _ _ K2.out) Tryd.underlying44 rfl (by kernel_rfl) (.tmp .nil))) rfl ?_
          refine ⟨?_, fr_setRow KF.out (.inr (by omega)) _⟩
          rw [← HV.out, HST.out, ← HC1.out, ← HD1.out]
          rfl
        | none =>
          obtain rfl : c1 = 0 := hc1.symm
          obtain rfl : d1 = 0 := hd1.symm
          dsimp only at hstep
          rw [if_pos (.inl rfl)] at hstep
          have HST := Aside0.mk hstep
          clear hc1 hd1 hstep
          go_wp2_with (refine ldG (.tmp 1) 44 _ _ rfl rfl (LD5 _ (Fr.refl _ _)) (by first | rfl | (go_simp; done)) ?_)
          refine (fail_calls b ra1 0 0 a 31 _).mono ?_
          rintro e' w6 ⟨rfl, hf6⟩
          have k2 := hf6.heap K2.out id
          go_wp2_with (refine PB.stRow (.tmp 2) (.tmp 67) 44 (w.heap.size + 1) 44 _ (rc b ra1 31 a) rfl rfl rfl rfl k2 (by kernel_rfl) rfl (by simp [Value.oneCell']) ?_)
          (try simp only [Exit.inBlock, Exit.then]); refine bodyPost_ret (results_list (rs := [.cell 2 44, .tmp 3]) rfl (by simp) (.cell (w.heap.size + 1) 44 (rc b ra1 31 a) (0, 0) _ rfl (setRow_heap _ _ _ _ _ _ k2) Tryd.underlying44 rfl (by kernel_rfl) (.tmp .nil))) rfl ?_
          exact ⟨by rw [← HV.out, HST.out]; rfl, fr_setRow (KF.out.none hf6) (.inr (by omega)) _⟩
end Go.Proofs.YtdicjcpcohclaaaDoor.Ref3
