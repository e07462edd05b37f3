/- The document's reader (chapter 03): fail, Byte, Number, Piece, Sum, End. The document's reader (chapter 03): Piece, Sum, End. -/
import Derived.Test.YtanbddaecojijaaDoorPB
import Derived.Test.YtanbddaecojijaaDoorReader
import Derived.Test.YtanbddaecojijaaDoorRegion
import Derived.Test.YtanbddaecojijaaDoorLd
import Derived.Test.YtanbddaecojijaaDoorArr
import Derived.Test.YtanbddaecojijaaDoorCutR
import Derived.Test.YtanbddaecojijaaDoorCopy
import Derived.Test.YtanbddaecojijaaDoorRowS
import Derived.Laws.Strings2
set_option linter.unusedVariables false
set_option linter.unusedSimpArgs false
namespace Go.Proofs.YtanbddaecojijaaDoor.Ref3
open Go.RowKit Go.Proofs.YtanbddaecojijaaDoorW.PrintWords Go.Proofs.YtanbddaecojijaaDoor.B Go.Proofs.YtanbddaecojijaaDoor.PB Go.Proofs.YtanbddaecojijaaDoor.SCode

/-- A reader, as a value. -/
abbrev rr (b : List UInt8) (a c d : Int) : Value := .agg #[.string (bstr b), .int .i64 a, .int .i64 c, .int .i64 d]
def cd (r : R) : Nat := match r.err with | none => 0 | some (_, e) => e
def bd (r : R) : Nat := match r.err with | none => 0 | some (a, _) => a
def rv (b : List UInt8) (r : R) : Value := rr b (r.at_ : Int) (cd r : Int) (bd r : Int)
/-- What went wrong has a number; the reader is within its bytes. -/
def ok (b : List UInt8) (r : R) : Prop := r.at_ ≤ b.length ∧ b.length ≤ 4611686018427387904 ∧ ∀ q, r.err = some q → 0 < q.2

theorem fail_calls (b : List UInt8) (a c d p e : Int) (w : World) : Calls Tryd.prog 61 #[rr b a c d, .int .i64 p, .int .i64 e] w fun en w' => en = .returned (rr b a e p) ∧ Fr No w w' := by
  go_enter Tryd.func61, Tryd.ntmps61
  go_wp2
  (try simp only [Exit.inBlock, Exit.then]); refine bodyPost_ret (results_single (r := .cell 6 104) rfl (.cell (w.heap.size + 1) 104 #[.string (bstr b), .int .i64 a, .int .i64 e, .int .i64 p] (0, 0) _ rfl (heap_alloc2_new w _ _) Tryd.underlying104 rfl (by kernel_rfl) .nil)) rfl ?_
  exact ⟨rfl, ((Fr.refl _ _).alloc _).alloc _⟩
/-- A reader's cells. -/
abbrev rc (b : List UInt8) (a c d : Int) : Array Value := #[.string (bstr b), .int .i64 a, .int .i64 c, .int .i64 d]
theorem bstr_get (b : List UInt8) (i : Nat) (x : UInt8) (h : b[i]? = some x) (hi : i < (bstr b).size) : (bstr b)[i] = x := by
  obtain ⟨h1, h2⟩ := List.getElem?_eq_some_iff.1 h
  exact h2
theorem wrap_u8 (x : UInt8) : wrap64 (x.toNat : Int) = (x.toNat : Int) := by
  have := x.toNat_lt
  unfold wrap64; omega
set_option maxHeartbeats 4000000 in
set_option maxRecDepth 100000 in
theorem byte_calls (b : List UInt8) (r : R) (h : ok b r) (w : World) : Calls Tryd.prog 43 #[rv b r] w fun en w' => en = .returned (.tuple #[rv b (rByte b r).1, .int .i64 ((rByte b r).2.toNat : Int)]) ∧ Fr No w w' := by
  obtain ⟨a, er⟩ := r
  obtain ⟨ha, hb, he⟩ := h
  cases er with
  | some q =>
    obtain ⟨p, e⟩ := q
    have he0 := he _ rfl
    have e1 : rByte b ⟨a, some (p, e)⟩ = (⟨a, some (p, e)⟩, 0) := rfl
    have hne : ((e : Int) != 0) = true := by rw [bne_iff_ne]; dsimp only at he0; omega
    rw [e1]
    unfold rv cd bd
    dsimp only
    clear he he0 e1
    go_enter Tryd.func43, Tryd.ntmps43
    go_wp2
    (try simp only [Exit.inBlock, Exit.then]); refine bodyPost_ret (results_list (rs := [.cell 2 104, .tmp 3]) rfl (by simp) (.cell (w.heap.size + 1) 104 (rc b a e p) (0, 0) _ rfl (heap_alloc2_new w _ _) Tryd.underlying104 rfl (by kernel_rfl) (.tmp .nil))) rfl ?_
    exact ⟨rfl, ((Fr.refl _ _).alloc _).alloc _⟩
  | none =>
    by_cases hl : a < b.length
    · have hlI : ¬ (b.length : Int) ≤ (a : Int) := by omega
      obtain ⟨x, hx⟩ : ∃ x, b[a]? = some x := ⟨_, List.getElem?_eq_getElem hl⟩
      have e1 : rByte b ⟨a, none⟩ = (⟨a + 1, none⟩, x) := by
        have := (List.getElem?_eq_some_iff.1 hx).2
        simp [rByte, hl, this]
      rw [e1]
      unfold rv cd bd
      dsimp only
      clear he e1
      go_enter Tryd.func43, Tryd.ntmps43
      go_wp2
      (try simp only [Exit.inBlock, Exit.then]); refine bodyPost_ret (results_list (rs := [.cell 2 104, .tmp 3]) rfl (by simp) (.cell (w.heap.size + 1) 104 (rc b (a + 1) 0 0) (0, 0) _ rfl (heap_alloc2_new w _ _) Tryd.underlying104 rfl (by kernel_rfl) (.tmp .nil))) rfl ?_
      refine ⟨?_, ((Fr.refl _ _).alloc _).alloc _⟩
      have hw := wrap_u8 x
      simp only [bstr_get b a x hx, hw]
      rfl
    · have hlI : (b.length : Int) ≤ (a : Int) := by omega
      have e1 : rByte b ⟨a, none⟩ = (⟨a, some (a, 30)⟩, 0) := by simp [rByte, hl]
      rw [e1]
      unfold rv cd bd
      dsimp only
      clear he e1
      go_enter Tryd.func43, Tryd.ntmps43
      go_wp2_with fail
      refine (fail_calls b a 0 0 a 30 _).mono ?_
      rintro e w1 ⟨rfl, hf⟩
      have hz := hf.heap (heap_alloc2_new w _ _) id
      have F1 : Fr No w w1 := (((Fr.refl _ _).alloc _).alloc _).none hf
      go_wp2_with (refine PB.stRow (.tmp 2) (.tmp 18) 104 (w.heap.size + 1) 104 _ (rc b a 30 a) rfl rfl rfl rfl hz (by kernel_rfl) rfl (by simp [Value.oneCell']) ?_)
      (try simp only [Exit.inBlock, Exit.then]); refine bodyPost_ret (results_list (rs := [.cell 2 104, .tmp 3]) rfl (by simp) (.cell (w.heap.size + 1) 104 (rc b a 30 a) (0, 0) _ rfl (setRow_heap _ _ _ _ _ _ hz) Tryd.underlying104 rfl (by kernel_rfl) (.tmp .nil))) rfl ?_
      exact ⟨rfl, fr_setRow F1 (.inr (by omega)) _⟩
theorem ok_byte {b : List UInt8} {r : R} (h : ok b r) : ok b (rByte b r).1 := by
  obtain ⟨a, er⟩ := r
  obtain ⟨h1, h2, h3⟩ := h
  dsimp only at h1 h3
  cases er with
  | some q => exact ⟨h1, h2, h3⟩
  | none =>
    unfold rByte
    dsimp only
    split
    · exact ⟨by dsimp only; omega, h2, fun q hq => by cases hq⟩
    · exact ⟨by dsimp only; omega, h2, fun q hq => by injection hq with hq; subst hq; show 0 < 30; decide⟩
theorem ok_fail {b : List UInt8} {r : R} (h : ok b r) (a e : Nat) (he : 0 < e) : ok b (r.fail a e) := by
  obtain ⟨ra, er⟩ := r
  obtain ⟨h1, h2, h3⟩ := h
  unfold R.fail
  cases er with
  | some q => exact ⟨h1, h2, h3⟩
  | none => exact ⟨h1, h2, fun q hq => by injection hq with hq; subst hq; exact he⟩
set_option maxHeartbeats 4000000 in
set_option maxRecDepth 100000 in
theorem number_calls (b : List UInt8) (r : R) (h : ok b r) (w : World) : Calls Tryd.prog 41 #[rv b r] w fun en w' => en = .returned (.tuple #[rv b (rNum b r).1, .int .i64 ((rNum b r).2 : Int)]) ∧ Fr No w w' := by
  have hres : rNum b r = Rdr.numRes b r.at_ 0 0 r := by unfold rNum Rdr.numRes; cases r.err <;> rfl
  obtain ⟨a, er⟩ := r
  cases er with
  | some q =>
    obtain ⟨p, e⟩ := q
    have he0 := h.2.2 _ rfl
    have e1 : rNum b ⟨a, some (p, e)⟩ = (⟨a, some (p, e)⟩, 0) := rfl
    have hne : ((e : Int) != 0) = true := by rw [bne_iff_ne]; dsimp only at he0; omega
    rw [e1]
    unfold rv cd bd
    dsimp only
    clear h he0 e1 hres
    go_enter Tryd.func41, Tryd.ntmps41
    go_wp2
    (try simp only [Exit.inBlock, Exit.then]); refine bodyPost_ret (results_list (rs := [.cell 2 104, .tmp 3]) rfl (by simp) (.cell (w.heap.size + 1) 104 (rc b a e p) (0, 0) _ rfl (heap_alloc2_new w _ _) Tryd.underlying104 rfl (by kernel_rfl) (.tmp .nil))) rfl ?_
    exact ⟨rfl, ((Fr.refl _ _).alloc _).alloc _⟩
  | none =>
    obtain ⟨res, hr⟩ : ∃ res, rNum b ⟨a, none⟩ = res := ⟨_, rfl⟩
    rw [hr]
    dsimp only at hres
    rw [hr] at hres
    have HR := Aside0.mk hres.symm
    have H0 := Aside0.mk h
    clear hr hres h
    obtain ⟨V, hV⟩ : ∃ V, Value.tuple #[rv b res.1, .int .i64 (res.2 : Int)] = V := ⟨_, rfl⟩
    rw [hV]
    have HV := Aside0.mk hV
    clear hV
    unfold rv cd bd
    dsimp only
    go_enter Tryd.func41, Tryd.ntmps41
    go_wp2
    go_loopw [5, 6, 7] (fun v5 v6 v7 wr => ∃ (k n ra P : Nat), v5 = .int .i64 n ∧ v6 = .int .i64 (P : Int) ∧ Aside0 (P = 128 ^ k) ∧ v7 = .int .i64 (k : Int) ∧ k ≤ 6 ∧ Aside0 (n < 128 ^ k) ∧ Aside0 (ok b ⟨ra, none⟩) ∧ Aside0 (Rdr.numRes b a k n ⟨ra, none⟩ = res) ∧
      Aside0 (wr.heap[w.heap.size]? = some (.cells (rc b ra 0 0) 104 (0, 0))) ∧ Aside0 (wr.heap[w.heap.size + 1]? = some (.cells (rc [] 0 0 0) 104 (0, 0))) ∧ Aside0 (Fr No w wr)) (fun _ _ v7 _ => 6 - (intOf v7).toNat)
    case atStart => exact ⟨0, 0, a, 1, rfl, rfl, ⟨rfl⟩, rfl, by omega, ⟨by omega⟩, H0, HR, ⟨blk_alloc (heap_alloc_new w _) _⟩, ⟨heap_alloc2_new w _ _⟩, ⟨((Fr.refl _ _).alloc _).alloc _⟩⟩
    case round =>
      clear H0 HR
      obtain ⟨k, n, ra, P, rfl, rfl, HP, rfl, hk, HN, HO, HQ, H1, H2, HF⟩ := hrel
      have LD := ld_all (P := Tryd.prog) (ty := 104) H1.out Tryd.underlying104 rfl (by kernel_rfl)
      by_cases hk6 : k < 6
      · have hkI : (k : Int) < 6 := by omega
        go_wp2_with (refine ldG (.tmp 1) 104 _ _ rfl rfl (LD _ (Fr.refl _ _)) (by first | rfl | (go_simp; done)) ?_)
        refine (byte_calls b ⟨ra, none⟩ HO.out _).mono ?_
        rintro e w1 ⟨rfl, hf1⟩
        have hob := ok_byte HO.out
        have hstep := Rdr.numRes_step b a k n ⟨ra, none⟩ rfl (by omega)
        rw [HQ.out] at hstep
        obtain ⟨⟨⟨ra1, er1⟩, x⟩, hq⟩ : ∃ q, rByte b ⟨ra, none⟩ = q := ⟨_, rfl⟩
        rw [hq] at hstep hob ⊢
        obtain ⟨c1, hc1⟩ : ∃ c : Int, ((cd ⟨ra1, er1⟩ : Nat) : Int) = c := ⟨_, rfl⟩
        obtain ⟨d1, hd1⟩ : ∃ d : Int, ((bd ⟨ra1, er1⟩ : Nat) : Int) = d := ⟨_, rfl⟩
        unfold rv
        rw [hc1, hd1]
        dsimp only at hstep hob ⊢
        have F1 : Fr No wr w1 := hf1
        have h1a := hf1.heap H1.out id
        have h1b : (w1.alloc (.cells (rc b ra1 c1 d1) 104)).heap[w.heap.size]? = some (.cells (rc b ra 0 0) 104 (0, 0)) := blk_alloc h1a _
        have LT := ld_all (P := Tryd.prog) (ty := 104) (heap_alloc_new w1 (.cells (rc b ra1 c1 d1) 104)) Tryd.underlying104 rfl (by kernel_rfl)
        go_upto_region 10 with (first
          | (refine PB.stRow (.tmp 8) (.tmp 23) 104 w1.heap.size 104 _ (rc b ra1 c1 d1) rfl rfl rfl rfl (heap_alloc_new w1 _) (by kernel_rfl) rfl (by simp [Value.oneCell']) ?_; rw [World.setRow_alloc_new])
          | (refine ldG (.tmp 8) 104 _ _ rfl rfl (LT _ (Fr.refl _ _)) (by first | rfl | (go_simp; done)) ?_)
          | (refine PB.stRow (.tmp 1) (.tmp 25) 104 w.heap.size 104 _ (rc b ra1 c1 d1) rfl rfl rfl rfl h1b (by kernel_rfl) rfl (by simp [Value.oneCell']) ?_))
        have K1 : Aside0 (((w1.alloc (.cells (rc b ra1 c1 d1) 104)).setRow w.heap.size (rc b ra1 c1 d1)).heap[w.heap.size]? = some (.cells (rc b ra1 c1 d1) 104 (0, 0))) := ⟨setRow_heap _ _ _ _ _ _ h1b⟩
        have K2 : Aside0 (((w1.alloc (.cells (rc b ra1 c1 d1) 104)).setRow w.heap.size (rc b ra1 c1 d1)).heap[w.heap.size + 1]? = some (.cells (rc [] 0 0 0) 104 (0, 0))) := ⟨by
          have h := (fr_one_row (w1.alloc (.cells (rc b ra1 c1 d1) 104)) w.heap.size (rc b ra1 c1 d1)).heap (blk_alloc (hf1.heap H2.out id) _) (fun e => by have e' : w.heap.size + 1 = w.heap.size := e; omega)
          exact h⟩
        have KF : Aside0 (Fr No w ((w1.alloc (.cells (rc b ra1 c1 d1) 104)).setRow w.heap.size (rc b ra1 c1 d1))) := ⟨fr_setRow ((HF.out.none hf1).alloc _) (.inr (Nat.le_refl _)) _⟩
        have HN' := HN.out
        have HOB := Aside0.mk hob
        clear h1a h1b LT hf1 F1 H1 H2 HF LD HO HQ HN hob
        generalize (w1.alloc (.cells (rc b ra1 c1 d1) 104)).setRow w.heap.size (rc b ra1 c1 d1) = w5 at K1 K2 KF ⊢
        have c2 : w5.cell? ⟨w.heap.size, 2, Option.none⟩ = some (.int .i64 c1) := by rw [blk_cell K1.out]; rfl
        go_simp
        cases er1 with
        | some q =>
          obtain ⟨p, e⟩ := q
          have hpos := HOB.out.2.2 _ rfl
          have hne : (c1 != 0) = true := by rw [bne_iff_ne, ← hc1]; dsimp only [cd] at hpos ⊢; omega
          have HST := Aside0.mk hstep
          have LD5 := ld_all (P := Tryd.prog) (ty := 104) K1.out Tryd.underlying104 rfl (by kernel_rfl)
          have HC1 := Aside0.mk hc1; have HD1 := Aside0.mk hd1
          clear hstep hc1 hd1 hpos
          go_wp2_with (first
              | (refine ldG (.tmp 1) 104 _ _ rfl rfl (LD5 _ (Fr.refl _ _)) (by first | rfl | (go_simp; done)) ?_)
              | (refine PB.stRow (.tmp 2) (.tmp 29) 104 (w.heap.size + 1) 104 _ (rc b ra1 c1 d1) rfl rfl rfl rfl K2.out (by kernel_rfl) rfl (by simp [Value.oneCell']) ?_))
          (try simp only [Exit.inBlock, Exit.then]); refine bodyPost_ret (results_list (rs := [.cell 2 104, .tmp 3]) rfl (by simp) (.cell (w.heap.size + 1) 104 (rc b ra1 c1 d1) (0, 0) _ rfl (setRow_heap _ _ _ _ _ _ K2.out) Tryd.underlying104 rfl (by kernel_rfl) (.tmp .nil))) rfl ?_
          refine ⟨?_, fr_setRow KF.out (.inr (by omega)) _⟩
          rw [← HV.out, HST.out, ← HC1.out, ← HD1.out]
          rfl
        | none =>
          obtain rfl : c1 = 0 := hc1.symm
          obtain rfl : d1 = 0 := hd1.symm
          dsimp only at hstep
          clear hc1 hd1
          by_cases hform : k = 6 ∨ (x = 0 ∧ 0 < k)
          · rw [if_pos hform] at hstep
            have HST := Aside0.mk hstep
            have hx0 : x = 0 := by rcases hform with h | h; omega; exact h.1
            have hk0 : 0 < k := by rcases hform with h | h; omega; exact h.2
            have hk0I : (0 : Int) < (k : Int) := by omega
            subst hx0
            clear hstep hform
            rw [show (((0 : UInt8).toNat : Nat) : Int) = 0 from rfl]
            have LD5 := ld_all (P := Tryd.prog) (ty := 104) K1.out Tryd.underlying104 rfl (by kernel_rfl)
            go_wp2_with (refine ldG (.tmp 1) 104 _ _ rfl rfl (LD5 _ (Fr.refl _ _)) (by first | rfl | (go_simp; done)) ?_)
            refine (fail_calls b ra1 0 0 a 31 _).mono ?_
            rintro e' w6 ⟨rfl, hf6⟩
            have k2 := hf6.heap K2.out id
            go_wp2_with (refine PB.stRow (.tmp 2) (.tmp 38) 104 (w.heap.size + 1) 104 _ (rc b ra1 31 a) rfl rfl rfl rfl k2 (by kernel_rfl) rfl (by simp [Value.oneCell']) ?_)
            (try simp only [Exit.inBlock, Exit.then]); refine bodyPost_ret (results_list (rs := [.cell 2 104, .tmp 3]) rfl (by simp) (.cell (w.heap.size + 1) 104 (rc b ra1 31 a) (0, 0) _ rfl (setRow_heap _ _ _ _ _ _ k2) Tryd.underlying104 rfl (by kernel_rfl) (.tmp .nil))) rfl ?_
            exact ⟨by rw [← HV.out, HST.out]; rfl, fr_setRow (KF.out.none hf6) (.inr (by omega)) _⟩
          · rw [if_neg hform] at hstep
            have hz : (x.toNat : Int) = 0 → k = 0 := fun h => by
              have h1 : x = 0 := by rw [← UInt8.toNat_inj, Int.natCast_eq_zero.1 h]; rfl
              rcases Nat.eq_zero_or_pos k with h2 | h2
              · exact h2
              · exact absurd (.inr ⟨h1, h2⟩) hform
            have hxl := x.toNat_lt
            have hP5 : P ≤ 34359738368 := by
              rw [HP.out]
              exact Nat.le_trans (Nat.pow_le_pow_right (by omega) (show k ≤ 5 by omega)) (by decide)
            rw [← HP.out] at hstep HN'
            have HST := Aside0.mk hstep
            clear hstep hform
            have LD5 := ld_all (P := Tryd.prog) (ty := 104) K1.out Tryd.underlying104 rfl (by kernel_rfl)
            by_cases hx0 : x.toNat = 0
            · obtain rfl : x = 0 := by rw [← UInt8.toNat_inj, hx0]; rfl
              obtain rfl : k = 0 := hz rfl
              obtain rfl : P = 1 := HP.out
              obtain rfl : n = 0 := by omega
              have hst := HST.out
              rw [show (0 : UInt8).toNat = 0 from rfl, if_pos (by decide), if_neg (by decide)] at hst
              have HST3 := Aside0.mk hst
              rw [show (((0 : UInt8).toNat : Nat) : Int) = 0 from rfl]
              clear hst hz HST
              go_wp2_with (first
                | (refine ldG (.tmp 1) 104 _ _ rfl rfl (LD5 _ (Fr.refl _ _)) (by first | rfl | (go_simp; done)) ?_)
                | (refine PB.stRow (.tmp 2) (.tmp 54) 104 (w.heap.size + 1) 104 _ (rc b ra1 0 0) rfl rfl rfl rfl K2.out (by kernel_rfl) rfl (by simp [Value.oneCell']) ?_))
              (try simp only [Exit.inBlock, Exit.then]); refine bodyPost_ret (results_list (rs := [.cell 2 104, .tmp 3]) rfl (by simp) (.cell (w.heap.size + 1) 104 (rc b ra1 0 0) (0, 0) _ rfl (setRow_heap _ _ _ _ _ _ K2.out) Tryd.underlying104 rfl (by kernel_rfl) (.tmp .nil))) rfl ?_
              exact ⟨by rw [← HV.out, HST3.out]; rfl, fr_setRow KF.out (.inr (by omega)) _⟩
            have hx0I : ((x.toNat : Int) == 0) = false := by rw [beq_eq_false_iff_ne]; omega
            clear hz
            obtain ⟨M, hM⟩ : ∃ M, x.toNat % 128 * P = M := ⟨_, rfl⟩
            have hMb : M ≤ 4398046511104 := by
              rw [← hM]
              exact Nat.le_trans (Nat.mul_le_mul (show x.toNat % 128 ≤ 128 by omega) hP5) (by decide)
            have hw1 : wrap64 ((x.toNat : Int) % 128 * (P : Int)) = (M : Int) := by
              have e : (x.toNat : Int) % 128 * (P : Int) = (M : Int) := by rw [← hM]; push_cast; rfl
              rw [e]; unfold wrap64; omega
            have HM := Aside0.mk hM
            have hnb : n ≤ 34359738368 := by omega
            have HP1 : Aside0 (P * 128 = 128 ^ (k + 1)) := ⟨by rw [HP.out, Nat.pow_succ]⟩
            have HNM : Aside0 (n + M < 128 ^ (k + 1)) := ⟨by
              have h1 : x.toNat % 128 ≤ 127 := by omega
              have h2 : M ≤ 127 * P := by rw [← hM]; exact Nat.mul_le_mul_right _ h1
              rw [← HP1.out]
              omega⟩
            have HMX : Aside0 (x.toNat < 128 → x.toNat * P = M) := ⟨fun h => by rw [← hM, Nat.mod_eq_of_lt h]⟩
            clear hM HN'
            by_cases hx : x.toNat < 128
            · have hst := HST.out
              rw [if_pos hx, HMX.out hx] at hst
              have HST2 := Aside0.mk hst
              have hxI : (x.toNat : Int) < 128 := by omega
              clear hst HST
              by_cases hbig : 1099511627776 < n + M
              · have hst := HST2.out
                rw [if_pos hbig] at hst
                have HST3 := Aside0.mk hst
                have hbI : (1099511627776 : Int) < (n : Int) + (M : Int) := by omega
                clear hst HST2
                have fin : ∀ (W : World), Fr No w5 W → Calls Tryd.prog 61 #[.agg (rc b ra1 0 0), .int .i64 a, .int .i64 1] W fun en w' => en = .returned (rr b ra1 1 a) ∧ Fr No W w' := fun W _ => fail_calls b ra1 0 0 a 1 W
                go_wp2_with (refine ldG (.tmp 1) 104 _ _ rfl rfl (LD5 _ (Fr.refl _ _)) (by first | rfl | (go_simp; done)) ?_)
                refine (fin _ (Fr.refl _ _)).mono ?_
                rintro e' w6 ⟨rfl, hf6⟩
                have k2 := hf6.heap K2.out id
                go_wp2_with (refine PB.stRow (.tmp 2) (.tmp 53) 104 (w.heap.size + 1) 104 _ (rc b ra1 1 a) rfl rfl rfl rfl k2 (by kernel_rfl) rfl (by simp [Value.oneCell']) ?_)
                (try simp only [Exit.inBlock, Exit.then]); refine bodyPost_ret (results_list (rs := [.cell 2 104, .tmp 3]) rfl (by simp) (.cell (w.heap.size + 1) 104 (rc b ra1 1 a) (0, 0) _ rfl (setRow_heap _ _ _ _ _ _ k2) Tryd.underlying104 rfl (by kernel_rfl) (.tmp .nil))) rfl ?_
                exact ⟨by rw [← HV.out, HST3.out]; rfl, fr_setRow (KF.out.none hf6) (.inr (by omega)) _⟩
              · have hst := HST2.out
                rw [if_neg hbig] at hst
                have HST3 := Aside0.mk hst
                have hbI : ¬ (1099511627776 : Int) < (n : Int) + (M : Int) := by omega
                clear hst HST2
                go_wp2_with (first
                  | (refine ldG (.tmp 1) 104 _ _ rfl rfl (LD5 _ (Fr.refl _ _)) (by first | rfl | (go_simp; done)) ?_)
                  | (refine PB.stRow (.tmp 2) (.tmp 54) 104 (w.heap.size + 1) 104 _ (rc b ra1 0 0) rfl rfl rfl rfl K2.out (by kernel_rfl) rfl (by simp [Value.oneCell']) ?_))
                (try simp only [Exit.inBlock, Exit.then]); refine bodyPost_ret (results_list (rs := [.cell 2 104, .tmp 3]) rfl (by simp) (.cell (w.heap.size + 1) 104 (rc b ra1 0 0) (0, 0) _ rfl (setRow_heap _ _ _ _ _ _ K2.out) Tryd.underlying104 rfl (by kernel_rfl) (.tmp .nil))) rfl ?_
                exact ⟨by rw [← HV.out, HST3.out]; rfl, fr_setRow KF.out (.inr (by omega)) _⟩
            · have hst := HST.out
              rw [if_neg hx, HM.out] at hst
              have HST2 := Aside0.mk hst
              have hxI : ¬ (x.toNat : Int) < 128 := by omega
              clear hst HST LD5
              go_wp2
              go_roundw
              case rel =>
                exact ⟨u3, .int .i64 ((n + M : Nat) : Int), .int .i64 ((P * 128 : Nat) : Int), .int .i64 ((k + 1 : Nat) : Int), ⟨k + 1, n + M, rfl, ra1, P * 128, rfl, HP1, rfl, by omega, HNM, HOB, ⟨HST2.out.symm⟩, K1⟩, rfl, by go_num, by go_num, by go_num⟩
              case measure => simp [intOf]; omega
      · have hkI : ¬ (k : Int) < 6 := by omega
        obtain rfl : k = 6 := by omega
        go_wp2_with (refine ldG (.tmp 1) 104 _ _ rfl rfl (LD _ (Fr.refl _ _)) (by first | rfl | (go_simp; done)) ?_)
        refine (byte_calls b ⟨ra, none⟩ HO.out _).mono ?_
        rintro e w1 ⟨rfl, hf1⟩
        have hob := ok_byte HO.out
        have hstep := Rdr.numRes_step b a 6 n ⟨ra, none⟩ rfl (by omega)
        rw [HQ.out] at hstep
        obtain ⟨⟨⟨ra1, er1⟩, x⟩, hq⟩ : ∃ q, rByte b ⟨ra, none⟩ = q := ⟨_, rfl⟩
        rw [hq] at hstep hob ⊢
        obtain ⟨c1, hc1⟩ : ∃ c : Int, ((cd ⟨ra1, er1⟩ : Nat) : Int) = c := ⟨_, rfl⟩
        obtain ⟨d1, hd1⟩ : ∃ d : Int, ((bd ⟨ra1, er1⟩ : Nat) : Int) = d := ⟨_, rfl⟩
        unfold rv
        rw [hc1, hd1]
        dsimp only at hstep hob ⊢
        have h1a := hf1.heap H1.out id
        go_upto_region 21 with (refine PB.stRow (.tmp 1) (.tmp 59) 104 w.heap.size 104 _ (rc b ra1 c1 d1) rfl rfl rfl rfl h1a (by kernel_rfl) rfl (by simp [Value.oneCell']) ?_)
        have K1 : Aside0 ((w1.setRow w.heap.size (rc b ra1 c1 d1)).heap[w.heap.size]? = some (.cells (rc b ra1 c1 d1) 104 (0, 0))) := ⟨setRow_heap _ _ _ _ _ _ h1a⟩
        have K2 : Aside0 ((w1.setRow w.heap.size (rc b ra1 c1 d1)).heap[w.heap.size + 1]? = some (.cells (rc [] 0 0 0) 104 (0, 0))) := ⟨(fr_one_row w1 w.heap.size (rc b ra1 c1 d1)).heap (hf1.heap H2.out id) (fun e => by have e' : w.heap.size + 1 = w.heap.size := e; omega)⟩
        have KF : Aside0 (Fr No w (w1.setRow w.heap.size (rc b ra1 c1 d1))) := ⟨fr_setRow (HF.out.none hf1) (.inr (Nat.le_refl _)) _⟩
        have HOB := Aside0.mk hob
        clear h1a hf1 H1 H2 HF LD HO HQ HN hob
        generalize w1.setRow w.heap.size (rc b ra1 c1 d1) = w5 at K1 K2 KF ⊢
        have c2 : w5.cell? ⟨w.heap.size, 2, Option.none⟩ = some (.int .i64 c1) := by rw [blk_cell K1.out]; rfl
        have LD5 := ld_all (P := Tryd.prog) (ty := 104) K1.out Tryd.underlying104 rfl (by kernel_rfl)
        go_simp
        cases er1 with
        | some q =>
          obtain ⟨p, e⟩ := q
          have hpos := HOB.out.2.2 _ rfl
          have hne : (c1 != 0) = true := by rw [bne_iff_ne, ← hc1]; dsimp only [cd] at hpos ⊢; omega
          have HST := Aside0.mk hstep
          have HC1 := Aside0.mk hc1; have HD1 := Aside0.mk hd1
          clear hstep hc1 hd1 hpos
          go_wp2_with (first
            | (refine ldG (.tmp 1) 104 _ _ rfl rfl (LD5 _ (Fr.refl _ _)) (by first | rfl | (go_simp; done)) ?_)
            | (refine PB.stRow (.tmp 2) (.tmp 64) 104 (w.heap.size + 1) 104 _ (rc b ra1 c1 d1) rfl rfl rfl rfl K2.out (by kernel_rfl) rfl (by simp [Value.oneCell']) ?_))
          (try simp only [Exit.inBlock, Exit.then]); refine bodyPost_ret (results_list (rs := [.cell 2 104, .tmp 3]) rfl (by simp) (.cell (w.heap.size + 1) 104 (rc b ra1 c1 d1) (0, 0) _ rfl (setRow_heap _ _ _ _ _ _ K2.out) Tryd.underlying104 rfl (by kernel_rfl) (.tmp .nil))) rfl ?_
          refine ⟨?_, fr_setRow KF.out (.inr (by omega)) _⟩
          rw [← HV.out, HST.out, ← HC1.out, ← HD1.out]
          rfl
        | none =>
          obtain rfl : c1 = 0 := hc1.symm
          obtain rfl : d1 = 0 := hd1.symm
          dsimp only at hstep
          rw [if_pos (.inl rfl)] at hstep
          have HST := Aside0.mk hstep
          clear hc1 hd1 hstep
          go_wp2_with (refine ldG (.tmp 1) 104 _ _ rfl rfl (LD5 _ (Fr.refl _ _)) (by first | rfl | (go_simp; done)) ?_)
          refine (fail_calls b ra1 0 0 a 31 _).mono ?_
          rintro e' w6 ⟨rfl, hf6⟩
          have k2 := hf6.heap K2.out id
          go_wp2_with (refine PB.stRow (.tmp 2) (.tmp 67) 104 (w.heap.size + 1) 104 _ (rc b ra1 31 a) rfl rfl rfl rfl k2 (by kernel_rfl) rfl (by simp [Value.oneCell']) ?_)
          (try simp only [Exit.inBlock, Exit.then]); refine bodyPost_ret (results_list (rs := [.cell 2 104, .tmp 3]) rfl (by simp) (.cell (w.heap.size + 1) 104 (rc b ra1 31 a) (0, 0) _ rfl (setRow_heap _ _ _ _ _ _ k2) Tryd.underlying104 rfl (by kernel_rfl) (.tmp .nil))) rfl ?_
          exact ⟨by rw [← HV.out, HST.out]; rfl, fr_setRow (KF.out.none hf6) (.inr (by omega)) _⟩
end Go.Proofs.YtanbddaecojijaaDoor.Ref3
namespace Go.Proofs.YtanbddaecojijaaDoor.Ref3
open Go.RowKit Go.Proofs.YtanbddaecojijaaDoorW.PrintWords Go.Proofs.YtanbddaecojijaaDoor.B Go.Proofs.YtanbddaecojijaaDoor.PB Go.Proofs.YtanbddaecojijaaDoor.SCode
set_option maxHeartbeats 4000000 in
set_option maxRecDepth 100000 in
theorem end_calls (b : List UInt8) (r : R) (h : ok b r) (w : World) : Calls Tryd.prog 44 #[rv b r] w fun en w' => en = .returned (rv b (rEnd b r)) ∧ Fr No w w' := by
  obtain ⟨a, er⟩ := r
  obtain ⟨ha, hb, he⟩ := h
  cases er with
  | some q =>
    obtain ⟨p, e⟩ := q
    have he0 := he _ rfl
    have e1 : rEnd b ⟨a, some (p, e)⟩ = ⟨a, some (p, e)⟩ := rfl
    have hne : ((e : Int) == 0) = false := by rw [beq_eq_false_iff_ne]; dsimp only at he0; omega
    rw [e1]
    unfold rv cd bd
    dsimp only
    clear he he0 e1
    go_enter Tryd.func44, Tryd.ntmps44
    go_wp2
    (try simp only [Exit.inBlock, Exit.then]); refine bodyPost_ret (results_single (r := .cell 2 104) rfl (.cell (w.heap.size + 1) 104 (rc b a e p) (0, 0) _ rfl (heap_alloc2_new w _ _) Tryd.underlying104 rfl (by kernel_rfl) .nil)) rfl ?_
    exact ⟨rfl, ((Fr.refl _ _).alloc _).alloc _⟩
  | none =>
    by_cases hl : a < b.length
    · have hlI : (a : Int) < (b.length : Int) := by omega
      have e1 : rEnd b ⟨a, none⟩ = ⟨a, some (a, 31)⟩ := by simp [rEnd, hl, R.fail]
      rw [e1]
      unfold rv cd bd
      dsimp only
      clear he e1
      go_enter Tryd.func44, Tryd.ntmps44
      go_wp2_with fail
      refine (fail_calls b a 0 0 a 31 _).mono ?_
      rintro e w1 ⟨rfl, hf⟩
      have hz := hf.heap (heap_alloc2_new w _ _) id
      have F1 : Fr No w w1 := (((Fr.refl _ _).alloc _).alloc _).none hf
      go_wp2_with (refine PB.stRow (.tmp 2) (.tmp 17) 104 (w.heap.size + 1) 104 _ (rc b a 31 a) rfl rfl rfl rfl hz (by kernel_rfl) rfl (by simp [Value.oneCell']) ?_)
      (try simp only [Exit.inBlock, Exit.then]); refine bodyPost_ret (results_single (r := .cell 2 104) rfl (.cell (w.heap.size + 1) 104 (rc b a 31 a) (0, 0) _ rfl (setRow_heap _ _ _ _ _ _ hz) Tryd.underlying104 rfl (by kernel_rfl) .nil)) rfl ?_
      exact ⟨rfl, fr_setRow F1 (.inr (by omega)) _⟩
    · have hlI : ¬ (a : Int) < (b.length : Int) := by omega
      have e1 : rEnd b ⟨a, none⟩ = ⟨a, none⟩ := by simp [rEnd, hl]
      rw [e1]
      unfold rv cd bd
      dsimp only
      clear he e1
      go_enter Tryd.func44, Tryd.ntmps44
      go_wp2
      (try simp only [Exit.inBlock, Exit.then]); refine bodyPost_ret (results_single (r := .cell 2 104) rfl (.cell (w.heap.size + 1) 104 (rc b a 0 0) (0, 0) _ rfl (heap_alloc2_new w _ _) Tryd.underlying104 rfl (by kernel_rfl) .nil)) rfl ?_
      exact ⟨rfl, ((Fr.refl _ _).alloc _).alloc _⟩
theorem ok_numL (b : List UInt8) (f : Nat) : ∀ (fuel k n : Nat) (r : R), ok b r → ok b (rNumL b f fuel k n r).1 := by
  intro fuel
  induction fuel with
  | zero => intro k n r h; exact h
  | succ m ih =>
    intro k n r h
    have hb := ok_byte h
    unfold rNumL
    dsimp only
    split
    · exact hb
    · split
      · exact ok_fail hb _ _ (by decide)
      · split
        · split
          · exact ok_fail hb _ _ (by decide)
          · exact hb
        · exact ih _ _ _ hb
theorem ok_num {b : List UInt8} {r : R} (h : ok b r) : ok b (rNum b r).1 := by
  unfold rNum
  split
  · exact h
  · exact ok_numL _ _ _ _ _ _ h
set_option maxHeartbeats 4000000 in
set_option maxRecDepth 100000 in
theorem piece_calls (b : List UInt8) (r : R) (h : ok b r) (w : World) : Calls Tryd.prog 53 #[rv b r] w fun en w' => en = .returned (.tuple #[rv b (rText b r).1, .string (bstr (rText b r).2)]) ∧ Fr No w w' := by
  obtain ⟨res, hres⟩ : ∃ res, rText b r = res := ⟨_, rfl⟩
  rw [hres]
  obtain ⟨⟨r1, n⟩, hq⟩ : ∃ q, rNum b r = q := ⟨_, rfl⟩
  have hrt := hres
  unfold rText at hrt
  simp only [hq] at hrt
  have HQ := Aside0.mk hq; have HRT := Aside0.mk hrt; have H0 := Aside0.mk h
  obtain ⟨V, hV⟩ : ∃ V, Value.tuple #[rv b res.1, .string (bstr res.2)] = V := ⟨_, rfl⟩
  rw [hV]
  have HV := Aside0.mk hV
  clear hV hres hrt hq h
  obtain ⟨a, er⟩ := r
  unfold rv
  obtain ⟨c0, hc0⟩ : ∃ c : Int, ((cd ⟨a, er⟩ : Nat) : Int) = c := ⟨_, rfl⟩
  obtain ⟨d0, hd0⟩ : ∃ d : Int, ((bd ⟨a, er⟩ : Nat) : Int) = d := ⟨_, rfl⟩
  rw [hc0, hd0]
  dsimp only
  go_enter Tryd.func53, Tryd.ntmps53
  have HE : ∀ W, Calls Tryd.prog 41 #[rr b a c0 d0] W fun en w' => en = .returned (.tuple #[rv b r1, .int .i64 (n : Int)]) ∧ Fr No W w' := fun W => by
    have h := number_calls b ⟨a, er⟩ H0.out W
    rw [HQ.out] at h
    unfold rv at h
    rw [hc0, hd0] at h
    exact h
  have HEN := Aside0.mk HE
  clear HE hc0 hd0
  go_wp2_with fail
  refine (HEN.out _).mono ?_
  rintro e w1 ⟨rfl, hf1⟩
  have hob := ok_num H0.out
  rw [HQ.out] at hob
  obtain ⟨ra1, er1⟩ := r1
  obtain ⟨c1, hc1⟩ : ∃ c : Int, ((cd ⟨ra1, er1⟩ : Nat) : Int) = c := ⟨_, rfl⟩
  obtain ⟨d1, hd1⟩ : ∃ d : Int, ((bd ⟨ra1, er1⟩ : Nat) : Int) = d := ⟨_, rfl⟩
  unfold rv
  rw [hc1, hd1]
  dsimp only at hob ⊢
  have h1a := hf1.heap (blk_alloc (heap_alloc_new w (.cells (rc b a c0 d0) 104)) (.cells (rc [] 0 0 0) 104)) id
  have h1b := hf1.heap (heap_alloc2_new w _ _) id
  have F1 : Fr No w w1 := (((Fr.refl _ _).alloc _).alloc _).none hf1
  go_upto_region 3 with (refine PB.stRow (.tmp 1) (.tmp 12) 104 w.heap.size 104 _ (rc b ra1 c1 d1) rfl rfl rfl rfl h1a (by kernel_rfl) rfl (by simp [Value.oneCell']) ?_)
  have K1 : Aside0 ((w1.setRow w.heap.size (rc b ra1 c1 d1)).heap[w.heap.size]? = some (.cells (rc b ra1 c1 d1) 104 (0, 0))) := ⟨setRow_heap _ _ _ _ _ _ h1a⟩
  have K2 : Aside0 ((w1.setRow w.heap.size (rc b ra1 c1 d1)).heap[w.heap.size + 1]? = some (.cells (rc [] 0 0 0) 104 (0, 0))) := ⟨(fr_one_row w1 w.heap.size (rc b ra1 c1 d1)).heap h1b (fun e => by have e' : w.heap.size + 1 = w.heap.size := e; omega)⟩
  have KF : Aside0 (Fr No w (w1.setRow w.heap.size (rc b ra1 c1 d1))) := ⟨fr_setRow F1 (.inr (Nat.le_refl _)) _⟩
  have HOB := Aside0.mk hob
  clear h1a h1b hf1 F1 HEN hob H0
  generalize w1.setRow w.heap.size (rc b ra1 c1 d1) = w5 at K1 K2 KF ⊢
  have k0 : w5.cell? ⟨w.heap.size, 0, Option.none⟩ = some (.string (bstr b)) := by rw [blk_cell K1.out]; rfl
  have k1 : w5.cell? ⟨w.heap.size, 1, Option.none⟩ = some (.int .i64 (ra1 : Int)) := by rw [blk_cell K1.out]; rfl
  have k2 : w5.cell? ⟨w.heap.size, 2, Option.none⟩ = some (.int .i64 c1) := by rw [blk_cell K1.out]; rfl
  have LD5 := ld_all (P := Tryd.prog) (ty := 104) K1.out Tryd.underlying104 rfl (by kernel_rfl)
  cases er1 with
  | some q =>
    obtain ⟨p, e⟩ := q
    have hpos := HOB.out.2.2 _ rfl
    have hne : (c1 != 0) = true := by rw [bne_iff_ne, ← hc1]; dsimp only [cd] at hpos ⊢; omega
    have HC1 := Aside0.mk hc1; have HD1 := Aside0.mk hd1
    clear hc1 hd1 hpos
    go_wp2_with (first
      | (refine ldG (.tmp 1) 104 _ _ rfl rfl (LD5 _ (Fr.refl _ _)) (by first | rfl | (go_simp; done)) ?_)
      | (refine PB.stRow (.tmp 2) (.tmp 17) 104 (w.heap.size + 1) 104 _ (rc b ra1 c1 d1) rfl rfl rfl rfl K2.out (by kernel_rfl) rfl (by simp [Value.oneCell']) ?_))
    (try simp only [Exit.inBlock, Exit.then]); refine bodyPost_ret (results_list (rs := [.cell 2 104, .tmp 3]) rfl (by simp) (.cell (w.heap.size + 1) 104 (rc b ra1 c1 d1) (0, 0) _ rfl (setRow_heap _ _ _ _ _ _ K2.out) Tryd.underlying104 rfl (by kernel_rfl) (.tmp .nil))) rfl ?_
    refine ⟨?_, fr_setRow KF.out (.inr (by omega)) _⟩
    have hrt := HRT.out
    (try dsimp only at hrt)
    rw [← HV.out, ← hrt, ← HC1.out, ← HD1.out]
    rfl
  | none =>
    obtain rfl : c1 = 0 := hc1.symm
    obtain rfl : d1 = 0 := hd1.symm
    have hrt := HRT.out
    (try dsimp only at hrt)
    have hat := HOB.out.1
    have hbl := HOB.out.2.1
    dsimp only at hat
    clear hc1 hd1
    by_cases hn : n > 4096
    · rw [if_pos hn] at hrt
      have hnI : (4096 : Int) < (n : Int) := by omega
      have HR := Aside0.mk hrt
      clear hrt
      go_wp2_with (refine ldG (.tmp 1) 104 _ _ rfl rfl (LD5 _ (Fr.refl _ _)) (by first | rfl | (go_simp; done)) ?_)
      refine (fail_calls b ra1 0 0 a 2 _).mono ?_
      rintro e' w6 ⟨rfl, hf6⟩
      have k2 := hf6.heap K2.out id
      go_wp2_with (refine PB.stRow (.tmp 2) (.tmp 22) 104 (w.heap.size + 1) 104 _ (rc b ra1 2 a) rfl rfl rfl rfl k2 (by kernel_rfl) rfl (by simp [Value.oneCell']) ?_)
      (try simp only [Exit.inBlock, Exit.then]); refine bodyPost_ret (results_list (rs := [.cell 2 104, .tmp 3]) rfl (by simp) (.cell (w.heap.size + 1) 104 (rc b ra1 2 a) (0, 0) _ rfl (setRow_heap _ _ _ _ _ _ k2) Tryd.underlying104 rfl (by kernel_rfl) (.tmp .nil))) rfl ?_
      exact ⟨by rw [← HV.out, ← HR.out]; rfl, fr_setRow (KF.out.none hf6) (.inr (by omega)) _⟩
    · rw [if_neg hn] at hrt
      have hnI : ¬ (4096 : Int) < (n : Int) := by omega
      have hsw : IntKind.i64.wrap ((b.length : Int) - (ra1 : Int)) = (b.length : Int) - (ra1 : Int) := by rw [IntKind.wrap_i64]; omega
      by_cases hs : n > b.length - ra1
      · rw [if_pos hs] at hrt
        have hsI : (b.length : Int) - (ra1 : Int) < (n : Int) := by omega
        have HR := Aside0.mk hrt
        clear hrt
        go_wp2_with (refine ldG (.tmp 1) 104 _ _ rfl rfl (LD5 _ (Fr.refl _ _)) (by first | rfl | (go_simp; done)) ?_)
        refine (fail_calls b ra1 0 0 b.length 30 _).mono ?_
        rintro e' w6 ⟨rfl, hf6⟩
        have k2 := hf6.heap K2.out id
        go_wp2_with (refine PB.stRow (.tmp 2) (.tmp 35) 104 (w.heap.size + 1) 104 _ (rc b ra1 30 b.length) rfl rfl rfl rfl k2 (by kernel_rfl) rfl (by simp [Value.oneCell']) ?_)
        (try simp only [Exit.inBlock, Exit.then]); refine bodyPost_ret (results_list (rs := [.cell 2 104, .tmp 3]) rfl (by simp) (.cell (w.heap.size + 1) 104 (rc b ra1 30 b.length) (0, 0) _ rfl (setRow_heap _ _ _ _ _ _ k2) Tryd.underlying104 rfl (by kernel_rfl) (.tmp .nil))) rfl ?_
        exact ⟨by rw [← HV.out, ← HR.out]; rfl, fr_setRow (KF.out.none hf6) (.inr (by omega)) _⟩
      · rw [if_neg hs] at hrt
        have hsI : ¬ (b.length : Int) - (ra1 : Int) < (n : Int) := by omega
        have hle : ra1 + n ≤ b.length := by omega
        have HR := Aside0.mk hrt
        clear hrt
        have hcut : ∀ W : World, (Instr.slice 9 (.string (bstr b)) (some (.int .i64 (ra1 : Int))) (some (.int .i64 ((ra1 : Int) + (n : Int)))) none).run Tryd.prog W = .ok (.string (bstr ((b.drop ra1).take n))) W := fun W => by
          rw [run_slice_string W 9 (bstr b) .i64 .i64 _ _ Tryd.underlying9 (by omega) (by omega) (by rw [bstr_size]; omega), bstr_extract, show ((ra1 : Int) + (n : Int)).toNat = ra1 + n by omega, Int.toNat_natCast, List.drop_take, Nat.add_sub_cancel_left]
        have kf1 : w5.frozen? ⟨w.heap.size, 1, Option.none⟩ = false := blk_frozen K1.out _
        go_upto_region 11 with fail
        have hb6 : (w5.setCell ⟨w.heap.size, 1, Option.none⟩ (.int .i64 ((ra1 : Int) + (n : Int)))).heap[w.heap.size]? = some (.cells (rc b ((ra1 : Int) + (n : Int)) 0 0) 104 (0, 0)) := by
          have h := blk_set K1.out 1 (.int .i64 ((ra1 : Int) + (n : Int)))
          simpa using h
        have hfs : Fr (one w.heap.size) w5 (w5.setCell ⟨w.heap.size, 1, Option.none⟩ (.int .i64 ((ra1 : Int) + (n : Int)))) := (Fr.refl (one w.heap.size) w5).setCell (p := ⟨w.heap.size, 1, Option.none⟩) (.inl rfl) _
        have K6 : Aside0 ((w5.setCell ⟨w.heap.size, 1, Option.none⟩ (.int .i64 ((ra1 : Int) + (n : Int)))).heap[w.heap.size + 1]? = some (.cells (rc [] 0 0 0) 104 (0, 0))) := ⟨hfs.heap K2.out (fun e => by have e' : w.heap.size + 1 = w.heap.size := e; omega)⟩
        have F6 : Aside0 (Fr No w (w5.setCell ⟨w.heap.size, 1, Option.none⟩ (.int .i64 ((ra1 : Int) + (n : Int))))) := ⟨KF.out.trans hfs (fun k hk e => by have e' : k = w.heap.size := e; omega)⟩
        have LD6 := ld_all (P := Tryd.prog) (ty := 104) hb6 Tryd.underlying104 rfl (by kernel_rfl)
        clear hb6 hfs LD5 k0 k1 k2 kf1 hcut
        generalize w5.setCell ⟨w.heap.size, 1, Option.none⟩ (.int .i64 ((ra1 : Int) + (n : Int))) = w6 at K6 F6 LD6 ⊢
        go_wp2_with (first
          | (refine ldG (.tmp 1) 104 _ _ rfl rfl (LD6 _ (Fr.refl _ _)) (by first | rfl | (go_simp; done)) ?_)
          | (refine PB.stRow (.tmp 2) (.tmp 50) 104 (w.heap.size + 1) 104 _ (rc b ((ra1 : Int) + (n : Int)) 0 0) rfl rfl rfl rfl K6.out (by kernel_rfl) rfl (by simp [Value.oneCell']) ?_))
        (try simp only [Exit.inBlock, Exit.then]); refine bodyPost_ret (results_list (rs := [.cell 2 104, .tmp 3]) rfl (by simp) (.cell (w.heap.size + 1) 104 (rc b ((ra1 : Int) + (n : Int)) 0 0) (0, 0) _ rfl (setRow_heap _ _ _ _ _ _ K6.out) Tryd.underlying104 rfl (by kernel_rfl) (.tmp .nil))) rfl ?_
        refine ⟨?_, fr_setRow F6.out (.inr (by omega)) _⟩
        rw [← HV.out, ← HR.out]
        unfold rv
        dsimp only
        rw [show ((ra1 + n : Nat) : Int) = (ra1 : Int) + (n : Int) by omega]
        rfl
theorem two_rows {wz : World} {g2 g3 : Nat} {o2 o3 X Y : Array Value} {t2 t3 : TypeId} (h2 : wz.heap[g2]? = some (.cells o2 t2 (0, 0))) (h3 : wz.heap[g3]? = some (.cells o3 t3 (0, 0))) (hne : g2 ≠ g3) :
    ((wz.setRow g2 X).setRow g3 Y).heap[g2]? = some (.cells X t2 (0, 0)) ∧ (wz.setRow g2 X).heap[g3]? = some (.cells o3 t3 (0, 0)) ∧ ((wz.setRow g2 X).setRow g3 Y).heap[g3]? = some (.cells Y t3 (0, 0)) := by
  have h := setRow_heap wz g2 _ X _ _ h2
  have k : (wz.setRow g2 X).heap[g3]? = some (.cells o3 t3 (0, 0)) := by rw [setRow_other _ _ _ _ (fun e => hne e.symm)]; exact h3
  refine ⟨?_, k, setRow_heap _ _ _ _ _ _ k⟩
  rw [setRow_other _ _ _ _ hne]
  exact h
set_option maxHeartbeats 4000000 in
set_option maxRecDepth 100000 in
theorem sum_calls (b : List UInt8) (r : R) (h : ok b r) (w : World) : Calls Tryd.prog 54 #[rv b r] w fun en w' => en = .returned (.tuple #[rv b (rSum b r).1, .agg ((rSum b r).2.map vu8).toArray]) ∧ Fr No w w' := by
  have H0 := Aside0.mk h
  obtain ⟨a, er⟩ := r
  obtain ⟨ha, hb, he⟩ := h
  obtain ⟨V, hV⟩ : ∃ V, Value.tuple #[rv b (rSum b ⟨a, er⟩).1, .agg ((rSum b ⟨a, er⟩).2.map vu8).toArray] = V := ⟨_, rfl⟩
  rw [hV]
  have HV := Aside0.mk hV
  clear hV
  unfold rv
  obtain ⟨c0, hc0⟩ : ∃ c : Int, ((cd ⟨a, er⟩ : Nat) : Int) = c := ⟨_, rfl⟩
  obtain ⟨d0, hd0⟩ : ∃ d : Int, ((bd ⟨a, er⟩ : Nat) : Int) = d := ⟨_, rfl⟩
  rw [hc0, hd0]
  dsimp only at ha hb ⊢
  go_enter Tryd.func54, Tryd.ntmps54
  go_upto_region 1 with fail
  change Code.wp _ _ _ _ (((w.alloc (.cells (rc b a c0 d0) 104)).alloc (.cells (rc [] 0 0 0) 104)).alloc (.cells ((List.replicate 32 (0 : UInt8)).map vu8).toArray 57))
  have B1 : (((w.alloc (.cells (rc b a c0 d0) 104)).alloc (.cells (rc [] 0 0 0) 104)).alloc (.cells ((List.replicate 32 (0 : UInt8)).map vu8).toArray 57)).heap[w.heap.size]? = some (.cells (rc b a c0 d0) 104 (0, 0)) := blk_alloc (blk_alloc (heap_alloc_new w _) _) _
  have B2 : (((w.alloc (.cells (rc b a c0 d0) 104)).alloc (.cells (rc [] 0 0 0) 104)).alloc (.cells ((List.replicate 32 (0 : UInt8)).map vu8).toArray 57)).heap[w.heap.size + 1]? = some (.cells (rc [] 0 0 0) 104 (0, 0)) := blk_alloc (heap_alloc2_new w _ _) _
  have B3 : Bd (((w.alloc (.cells (rc b a c0 d0) 104)).alloc (.cells (rc [] 0 0 0) 104)).alloc (.cells ((List.replicate 32 (0 : UInt8)).map vu8).toArray 57)) (w.heap.size + 2) 57 (List.replicate 32 0) := bd_new ((w.alloc (.cells (rc b a c0 d0) 104)).alloc (.cells (rc [] 0 0 0) 104)) _ _ (by simp) (List.replicate 32 0)
  have FZ : Fr No w (((w.alloc (.cells (rc b a c0 d0) 104)).alloc (.cells (rc [] 0 0 0) 104)).alloc (.cells ((List.replicate 32 (0 : UInt8)).map vu8).toArray 57)) := (((Fr.refl _ _).alloc _).alloc _).alloc _
  generalize (((w.alloc (.cells (rc b a c0 d0) 104)).alloc (.cells (rc [] 0 0 0) 104)).alloc (.cells ((List.replicate 32 (0 : UInt8)).map vu8).toArray 57)) = wz at B1 B2 B3 FZ ⊢
  obtain ⟨g1, hg1⟩ : ∃ g1, w.heap.size = g1 := ⟨_, rfl⟩
  obtain ⟨g2, hg2⟩ : ∃ g2, w.heap.size + 1 = g2 := ⟨_, rfl⟩
  obtain ⟨g3, hg3⟩ : ∃ g3, w.heap.size + 2 = g3 := ⟨_, rfl⟩
  rw [show w.heap.size + 1 + 1 = g3 from hg3]
  rw [hg3] at B3
  rw [hg2] at B2 ⊢
  rw [hg1] at B1 ⊢
  have HG : Aside0 (g2 = g1 + 1 ∧ g3 = g1 + 2 ∧ w.heap.size = g1) := ⟨by omega⟩
  have k0 : wz.cell? ⟨g1, 0, Option.none⟩ = some (.string (bstr b)) := by rw [blk_cell B1]; rfl
  have k1 : wz.cell? ⟨g1, 1, Option.none⟩ = some (.int .i64 (a : Int)) := by rw [blk_cell B1]; rfl
  have k2 : wz.cell? ⟨g1, 2, Option.none⟩ = some (.int .i64 c0) := by rw [blk_cell B1]; rfl
  have LD1 := ld_all (P := Tryd.prog) (ty := 104) B1 Tryd.underlying104 rfl (by kernel_rfl)
  have C1 := Aside0.mk B1; have C2 := Aside0.mk B2; have C3 := Aside0.mk B3; have HF := Aside0.mk FZ
  clear B1 B2 B3 FZ hg1 hg2 hg3
  cases er with
  | some q =>
    obtain ⟨p, e⟩ := q
    have he0 := he _ rfl
    have hne : (c0 != 0) = true := by rw [bne_iff_ne, ← hc0]; dsimp only [cd] at he0 ⊢; omega
    have HC0 := Aside0.mk hc0; have HD0 := Aside0.mk hd0
    clear he he0 hc0 hd0
    go_wp2_with (first
      | (refine ldG (.tmp 1) 104 _ _ rfl rfl (LD1 _ (Fr.refl _ _)) (by first | rfl | (go_simp; done)) ?_)
      | (refine PB.stRow (.tmp 2) (.tmp 9) 104 g2 104 _ (rc b a c0 d0) rfl rfl rfl rfl C2.out (by kernel_rfl) rfl (by simp [Value.oneCell']) ?_)
      | (refine PB.stRow (.tmp 3) (.tmp 10) 57 g3 57 _ ((List.replicate 32 (0 : UInt8)).map vu8).toArray rfl rfl rfl rfl (by rw [setRow_other _ _ _ _ (by have := HG.out; omega)]; exact C3.out) (by kernel_rfl) (by kernel_rfl) (by kernel_rfl) ?_))
    have TR := two_rows (X := rc b a c0 d0) (Y := ((List.replicate 32 (0 : UInt8)).map vu8).toArray) C2.out C3.out (by have := HG.out; omega)
    (try simp only [Exit.inBlock, Exit.then]); refine bodyPost_ret (results_list (rs := [.cell 2 104, .cell 3 57]) rfl (by simp) (.cell g2 104 (rc b a c0 d0) (0, 0) _ rfl (TR.1) Tryd.underlying104 rfl (by kernel_rfl) (.cell g3 57 ((List.replicate 32 (0 : UInt8)).map vu8).toArray (0, 0) _ rfl (TR.2.2) Tryd.underlying57 rfl (by kernel_rfl) .nil))) rfl ?_
    refine ⟨by rw [← HV.out, ← HC0.out, ← HD0.out]; rfl, fr_setRow (fr_setRow HF.out (.inr (by have := HG.out; omega)) _) (.inr (by have := HG.out; omega)) _⟩
  | none =>
    obtain rfl : c0 = 0 := hc0.symm
    obtain rfl : d0 = 0 := hd0.symm
    clear he hc0 hd0
    have hsw : IntKind.i64.wrap ((b.length : Int) - (a : Int)) = (b.length : Int) - (a : Int) := by rw [IntKind.wrap_i64]; omega
    by_cases hsh : b.length - a < 32
    · have e1 : rSum b ⟨a, none⟩ = (⟨a, some (b.length, 30)⟩, List.replicate 32 0) := by simp [rSum, hsh, R.fail]
      have hsI : (b.length : Int) - (a : Int) < 32 := by omega
      have HE1 := Aside0.mk e1
      clear e1
      go_wp2_with (refine ldG (.tmp 1) 104 _ _ rfl rfl (LD1 _ (Fr.refl _ _)) (by first | rfl | (go_simp; done)) ?_)
      refine (fail_calls b a 0 0 b.length 30 _).mono ?_
      rintro e' w6 ⟨rfl, hf6⟩
      have TR := two_rows (X := rc b a 30 b.length) (Y := ((List.replicate 32 (0 : UInt8)).map vu8).toArray) (hf6.heap C2.out id) (hf6.heap C3.out id) (by have := HG.out; omega)
      have D2 := Aside0.mk (hf6.heap C2.out id)
      have F6 : Aside0 (Fr No w w6) := ⟨HF.out.none hf6⟩
      have HTR := Aside0.mk TR
      clear hf6 TR
      go_wp2_with (first
        | (refine PB.stRow (.tmp 2) (.tmp 22) 104 g2 104 _ (rc b a 30 b.length) rfl rfl rfl rfl D2.out (by kernel_rfl) rfl (by simp [Value.oneCell']) ?_)
        | (refine PB.stRow (.tmp 3) (.tmp 23) 57 g3 57 _ ((List.replicate 32 (0 : UInt8)).map vu8).toArray rfl rfl rfl rfl HTR.out.2.1 (by kernel_rfl) (by kernel_rfl) (by kernel_rfl) ?_))
      (try simp only [Exit.inBlock, Exit.then]); refine bodyPost_ret (results_list (rs := [.cell 2 104, .cell 3 57]) rfl (by simp) (.cell g2 104 (rc b a 30 b.length) (0, 0) _ rfl (HTR.out.1) Tryd.underlying104 rfl (by kernel_rfl) (.cell g3 57 ((List.replicate 32 (0 : UInt8)).map vu8).toArray (0, 0) _ rfl (HTR.out.2.2) Tryd.underlying57 rfl (by kernel_rfl) .nil))) rfl ?_
      refine ⟨by rw [← HV.out, HE1.out]; rfl, fr_setRow (fr_setRow F6.out (.inr (by have := HG.out; omega)) _) (.inr (by have := HG.out; omega)) _⟩
    · have e1 : rSum b ⟨a, none⟩ = (⟨a + 32, none⟩, (b.drop a).take 32) := by simp [rSum, hsh]
      have hsI : ¬ (b.length : Int) - (a : Int) < 32 := by omega
      have HE1 := Aside0.mk e1
      have hal : a + 32 ≤ b.length := by omega
      obtain ⟨X, hX⟩ : ∃ X, (b.drop a).take 32 = X := ⟨_, rfl⟩
      have hXl : X.length = 32 := by rw [← hX]; simp; omega
      have HXL := Aside0.mk hXl; have HX := Aside0.mk hX
      clear e1 LD1 hX hXl
      obtain ⟨g4, hg4⟩ : ∃ g4, wz.heap.size = g4 := ⟨_, rfl⟩
      have HG4 : Aside0 (g4 ≠ g1 ∧ g4 ≠ g2 ∧ g4 ≠ g3 ∧ w.heap.size ≤ g4) := ⟨by
        have l1 := blk_lt C1.out; have l2 := blk_lt C2.out; have l3 := blk_lt C3.out; have := HG.out; omega⟩
      have B4 : Bd (wz.alloc (.cells ((List.replicate 32 (0 : UInt8)).map vu8).toArray 57)) g4 57 (List.replicate 32 (0 : UInt8)) := bd_new wz _ _ hg4 _
      have C4 := Aside0.mk B4
      have D1 := Aside0.mk (blk_alloc C1.out (.cells ((List.replicate 32 (0 : UInt8)).map vu8).toArray 57))
      have D2 := Aside0.mk (blk_alloc C2.out (.cells ((List.replicate 32 (0 : UInt8)).map vu8).toArray 57))
      have D3 := Aside0.mk (C3.out.alloc (.cells ((List.replicate 32 (0 : UInt8)).map vu8).toArray 57))
      have DF := Aside0.mk (HF.out.alloc (.cells ((List.replicate 32 (0 : UInt8)).map vu8).toArray 57))
      clear B4
      go_upto_region 6 with (refine PB.stRow (.tmp 4) (.tmp 24) 57 g4 57 _ ((List.replicate 32 (0 : UInt8)).map vu8).toArray rfl rfl rfl rfl C4.out (by kernel_rfl) (by kernel_rfl) (by kernel_rfl) ?_)
      change Code.wp _ _ _ _ ((wz.alloc (.cells ((List.replicate 32 (0 : UInt8)).map vu8).toArray 57)).setRow g4 ((List.replicate 32 (0 : UInt8)).map vu8).toArray)
      rw [setRow_self (wz.alloc (.cells ((List.replicate 32 (0 : UInt8)).map vu8).toArray 57)) g4 _ _ _ C4.out]
      generalize (wz.alloc (.cells ((List.replicate 32 (0 : UInt8)).map vu8).toArray 57)) = w4 at C4 D1 D2 D3 DF ⊢
      clear C1 C2 C3 HF k0 k1 k2 hg4
      go_wp2
      go_loopw [5] (fun v5 wr => ∃ i : Nat, v5 = .int .i64 (i : Int) ∧ i ≤ 32 ∧ Aside0 (Bd wr g4 57 (X.take i ++ List.replicate (32 - i) 0)) ∧ Aside0 (wr.heap[g1]? = some (.cells (rc b a 0 0) 104 (0, 0))) ∧ Aside0 (wr.heap[g2]? = some (.cells (rc [] 0 0 0) 104 (0, 0))) ∧ Aside0 (Bd wr g3 57 (List.replicate 32 0)) ∧ Aside0 (Fr No w wr)) (fun v5 _ => 32 - (intOf v5).toNat)
      case atStart => exact ⟨0, rfl, by omega, ⟨by simpa using C4.out⟩, D1, D2, D3, DF⟩
      case round =>
        clear C4 D1 D2 D3 DF
        obtain ⟨i, rfl, hi, J4, J1, J2, J3, JF⟩ := hrel
        have k0 : wr.cell? ⟨g1, 0, Option.none⟩ = some (.string (bstr b)) := by rw [blk_cell J1.out]; rfl
        have k1 : wr.cell? ⟨g1, 1, Option.none⟩ = some (.int .i64 (a : Int)) := by rw [blk_cell J1.out]; rfl
        by_cases hi32 : i < 32
        · have hiI : (i : Int) < 32 := by omega
          obtain ⟨x, hx⟩ : ∃ x, b[a + i]? = some x := ⟨_, List.getElem?_eq_getElem (by omega)⟩
          have hxX : X.getD i 0 = x := by rw [← HX.out]; simp [List.getD, List.getElem?_take, hi32, hx]
          have hc4 : wr.cell? ⟨g4, i, Option.none⟩ = some (vu8 ((X.take i ++ List.replicate (32 - i) 0).getD i 0)) := J4.out.cell i (by simp [HXL.out]; omega)
          have hf4 : wr.frozen? ⟨g4, i, Option.none⟩ = false := J4.out.frozen i
          have hwi : IntKind.i64.wrap ((a : Int) + (i : Int)) = (a : Int) + (i : Int) := by rw [IntKind.wrap_i64]; omega
          have hlt : (a : Int) + (i : Int) < (b.length : Int) := by omega
          go_wp2
          simp only [bstr_get b (a + i) x hx]
          have hfs : Fr (one g4) wr (wr.setCell ⟨g4, i, Option.none⟩ (vu8 x)) := (Fr.refl (one g4) wr).setCell (p := ⟨g4, i, Option.none⟩) (.inl rfl) _
          go_roundw
          case rel =>
            refine ⟨i + 1, by go_num, by omega, ⟨?_⟩, ⟨hfs.heap J1.out (fun e => HG4.out.1 (Eq.symm e))⟩, ⟨hfs.heap J2.out (fun e => HG4.out.2.1 (Eq.symm e))⟩, ⟨J3.out.fr hfs (fun e => HG4.out.2.2.1 (Eq.symm e))⟩, ⟨JF.out.trans hfs (fun k hk e => by have e' : k = g4 := e; have := HG4.out; omega)⟩⟩
            have := J4.out.set i x
            rw [← hxX, set_pre X 32 i HXL.out hi32, hxX] at this
            exact this
          case measure => simp [intOf]; omega
        · have hiI : ¬ (i : Int) < 32 := by omega
          obtain rfl : i = 32 := by omega
          have hJ4 := J4.out
          rw [List.take_of_length_le (by rw [HXL.out]; omega), Nat.sub_self, List.replicate_zero, List.append_nil] at hJ4
          have hw32 : IntKind.i64.wrap ((a : Int) + 32) = (a : Int) + 32 := by rw [IntKind.wrap_i64]; omega
          have kf1 : wr.frozen? ⟨g1, 1, Option.none⟩ = false := blk_frozen J1.out _
          have hfs : Fr (one g1) wr (wr.setCell ⟨g1, 1, Option.none⟩ (.int .i64 ((a : Int) + 32))) := (Fr.refl (one g1) wr).setCell (p := ⟨g1, 1, Option.none⟩) (.inl rfl) _
          have N1 : (wr.setCell ⟨g1, 1, Option.none⟩ (.int .i64 ((a : Int) + 32))).heap[g1]? = some (.cells (rc b ((a : Int) + 32) 0 0) 104 (0, 0)) := by
            have h := blk_set J1.out 1 (.int .i64 ((a : Int) + 32))
            simpa using h
          have N2 := hfs.heap J2.out (fun e => by have e' : g2 = g1 := e; have := HG.out; omega)
          have N3 : Bd (wr.setCell ⟨g1, 1, Option.none⟩ (.int .i64 ((a : Int) + 32))) g3 57 (List.replicate 32 0) := J3.out.fr hfs (fun e => by have e' : g3 = g1 := e; have := HG.out; omega)
          have N4 : Bd (wr.setCell ⟨g1, 1, Option.none⟩ (.int .i64 ((a : Int) + 32))) g4 57 X := hJ4.fr hfs (fun e => HG4.out.1 e)
          have NF : Fr No w (wr.setCell ⟨g1, 1, Option.none⟩ (.int .i64 ((a : Int) + 32))) := JF.out.trans hfs (fun k hk e => by have e' : k = g1 := e; have := HG.out; omega)
          have M1 := Aside0.mk N1; have M2 := Aside0.mk N2; have M3 := Aside0.mk N3; have M4 := Aside0.mk N4; have MF := Aside0.mk NF
          clear N1 N2 N3 N4 NF hfs hJ4 J4 J1 J2 J3 JF
          go_upto_region 11 with fail
          generalize (wr.setCell ⟨g1, 1, Option.none⟩ (.int .i64 ((a : Int) + 32))) = w6 at M1 M2 M3 M4 MF ⊢
          clear k0 k1 kf1
          have hxs : (X.map vu8).toArray.size = 32 := by simp [HXL.out]
          have HXS := Aside0.mk hxs
          clear hxs
          have LR : ∀ x, Fr (fun k => k = g2 ∨ k = g3) w6 x → _ := fun x hx => ld_all (P := Tryd.prog) (ty := 104) (hx.heap M1.out (fun e => by have := HG.out; omega)) Tryd.underlying104 rfl (by kernel_rfl) x (Fr.refl _ _)
          have LS : ∀ x, Fr (fun k => k = g2 ∨ k = g3) w6 x → _ := fun x hx => ld_all (P := Tryd.prog) (ty := 57) (hx.heap M4.out (fun e => by have := HG4.out; rcases e with e | e; exact this.2.1 e; exact this.2.2.1 e)) Tryd.underlying57 rfl (by rw [HXS.out]; kernel_rfl) x (Fr.refl _ _)
          have TR := two_rows (X := rc b ((a : Int) + 32) 0 0) (Y := (X.map vu8).toArray) (show w6.drew.heap[g2]? = _ from M2.out) (show w6.drew.heap[g3]? = _ from M3.out) (by have := HG.out; omega)
          have HTR := Aside0.mk TR
          have f1 : Fr (fun k => k = g2 ∨ k = g3) w6 (w6.drew.setRow g2 (rc b ((a : Int) + 32) 0 0)) := fr_setRow ((Fr.refl _ _).drew) (.inl (.inl rfl)) _
          have f2 : Fr (fun k => k = g2 ∨ k = g3) w6 ((w6.drew.setRow g2 (rc b ((a : Int) + 32) 0 0)).setRow g3 (X.map vu8).toArray) := fr_setRow f1 (.inl (.inr rfl)) _
          have E1 := Aside0.mk f1; have E2 := Aside0.mk f2
          clear TR f1 f2
          refine Rg.start (fun _ x => Fr (fun k => k = g2 ∨ k = g3) w6 x) (by kernel_rfl) (by kernel_rfl) [2, 3] [[0, 2], [0, 2, 1, 3]] (by kernel_rfl) (.q 0 0 (.q 1 1 (.e 2 1 (.e 3 2 (.done))))) (by kernel_rfl) ?_ ?_
          · exact fun _ => (Fr.refl _ _).drew
          repeat (first
            | (refine Rg.q (o := ?_) (v := ?_) ?_ ?_ ?_ ?_ ?_
               rotate_left 2
               · (simp only [List.getElem?_toArray, List.getElem?_cons_succ, List.getElem?_cons_zero]; rfl)
               · exact fun _ _ _ h => h
               · first | rfl | (go_simp; done)
               · (intro x_ hx; (try dsimp only at hx); first | (refine (ex_ld rfl rfl (LR _ hx)).trans ?_; with_reducible rfl) | (refine (ex_ld rfl rfl (LS _ hx)).trans ?_; with_reducible rfl) | (refine (ex_ld rfl rfl (fail _ hx)).trans ?_; with_reducible rfl) | (refine (ex_ld rfl rfl (fail _ hx)).trans ?_; with_reducible rfl) | (skip; (try clear hx); go_simp; (try rw [if_neg (by omega)]); (try rw [if_pos (by omega)]); (try go_simp); try with_reducible rfl))
               try simp only [Act.put, List.setIfInBounds_toArray, List.set_cons_zero, List.set_cons_succ])
            | (refine Rg.skip (o := ?_) ?_ ?_ ?_ ?_
               rotate_left 1
               · (simp only [List.getElem?_toArray, List.getElem?_cons_succ, List.getElem?_cons_zero]; rfl)
               · exact fun _ _ _ h => h
               · first | rfl | (go_simp; done)
               try simp only [Act.put, List.setIfInBounds_toArray, List.set_cons_zero, List.set_cons_succ]))
          refine Rg.e (o := ?_) ?_ ?_
          rotate_left 1
          · (simp only [List.getElem?_toArray, List.getElem?_cons_succ, List.getElem?_cons_zero]; rfl)
          intro K hK
          rw [if_pos (by first | rfl | (go_simp; done))]
          refine opStRow (.tmp 2) (.tmp 42) 104 g2 104 _ (rc b ((a : Int) + 32) 0 0) rfl rfl rfl M2.out (by kernel_rfl) rfl (by simp [Value.oneCell']) ?_
          refine hK.out _ _ (fun _ x => Fr (fun k => k = g2 ∨ k = g3) w6 x) (fun k x hk h => h) ?_ ?_
          · exact fun _ _ => E1.out
          try simp only [Act.put, List.setIfInBounds_toArray, List.set_cons_zero, List.set_cons_succ]
          repeat (first
            | (refine Rg.q (o := ?_) (v := ?_) ?_ ?_ ?_ ?_ ?_
               rotate_left 2
               · (simp only [List.getElem?_toArray, List.getElem?_cons_succ, List.getElem?_cons_zero]; rfl)
               · exact fun _ _ _ h => h
               · first | rfl | (go_simp; done)
               · (intro x_ hx; (try dsimp only at hx); first | (refine (ex_ld rfl rfl (LR _ hx)).trans ?_; with_reducible rfl) | (refine (ex_ld rfl rfl (LS _ hx)).trans ?_; with_reducible rfl) | (refine (ex_ld rfl rfl (fail _ hx)).trans ?_; with_reducible rfl) | (refine (ex_ld rfl rfl (fail _ hx)).trans ?_; with_reducible rfl) | (skip; (try clear hx); go_simp; (try rw [if_neg (by omega)]); (try rw [if_pos (by omega)]); (try go_simp); try with_reducible rfl))
               try simp only [Act.put, List.setIfInBounds_toArray, List.set_cons_zero, List.set_cons_succ])
            | (refine Rg.skip (o := ?_) ?_ ?_ ?_ ?_
               rotate_left 1
               · (simp only [List.getElem?_toArray, List.getElem?_cons_succ, List.getElem?_cons_zero]; rfl)
               · exact fun _ _ _ h => h
               · first | rfl | (go_simp; done)
               try simp only [Act.put, List.setIfInBounds_toArray, List.set_cons_zero, List.set_cons_succ]))
          refine Rg.e (o := ?_) ?_ ?_
          rotate_left 1
          · (simp only [List.getElem?_toArray, List.getElem?_cons_succ, List.getElem?_cons_zero]; rfl)
          intro K hK
          rw [if_pos (by first | rfl | (go_simp; done))]
          refine opStRow (.tmp 3) (.tmp 43) 57 g3 57 _ (X.map vu8).toArray rfl rfl rfl HTR.out.2.1 (by rw [HXS.out]; kernel_rfl) (by rw [HXS.out]; rfl) (by rw [Array.all_eq_true]; intro i hi; simp [Value.oneCell']) ?_
          refine hK.out _ _ (fun _ x => Fr (fun k => k = g2 ∨ k = g3) w6 x) (fun k x hk h => h) ?_ ?_
          · exact fun _ _ => E2.out
          try simp only [Act.put, List.setIfInBounds_toArray, List.set_cons_zero, List.set_cons_succ]
          refine Rg.done ?_
          go_simp
          go_wp2
          (try simp only [Exit.inBlock, Exit.then]); refine bodyPost_ret (results_list (rs := [.cell 2 104, .cell 3 57]) rfl (by simp) (.cell g2 104 (rc b ((a : Int) + 32) 0 0) (0, 0) _ rfl (HTR.out.1) Tryd.underlying104 rfl (by kernel_rfl) (.cell g3 57 ((X).map vu8).toArray (0, 0) _ rfl (HTR.out.2.2) Tryd.underlying57 rfl (by rw [HXS.out]; kernel_rfl) .nil))) rfl ?_
          refine ⟨?_, MF.out.trans E2.out (fun k hk e => by have := HG.out; rcases e with e | e <;> omega)⟩
          rw [← HV.out, HE1.out, ← HX.out]
          unfold rv
          dsimp only
          rw [show ((a + 32 : Nat) : Int) = (a : Int) + 32 by omega]
          rfl
end Go.Proofs.YtanbddaecojijaaDoor.Ref3
