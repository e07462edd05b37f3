/- The walks of package code's Reader: what Byte, Num, End, Err, At come to, and what they leave of the Reader. -/
import Derived.Test.YtanbddaecojijaaDoorCodeN
set_option linter.unusedVariables false
set_option linter.unusedSimpArgs false
namespace Go.Proofs.YtanbddaecojijaaDoor.Rdr
open Go.RowKit Go.Proofs.YtanbddaecojijaaDoorW.PrintWords Go.Proofs.YtanbddaecojijaaDoor.B Go.Proofs.YtanbddaecojijaaDoor.PB Go.Proofs.YtanbddaecojijaaDoor.SCode
attribute [local go_sem] B.max2_int B.min2_int B.max_two B.min_two

/-- A Reader at block g: of the bytes b (the slice v), at r. -/
structure St (w : World) (g : Nat) (v : Value) (b : List UInt8) (r : R) : Prop where
  cells : ∃ ev, w.heap[g]? = some (.cells #[v, .int .i64 (r.at_ : Int), ev] 140 (0, 0)) ∧ IsErr w ev r.err
  bytes : RdB w v b
  apart : 0 < b.length → ∀ k, v.ownBlock = some k → k ≠ g
  at_le : r.at_ ≤ b.length
theorem fault_ne {w : World} {g : Nat} {cs : Array Value} (h : w.heap[g]? = some (.cells cs 140 (0, 0))) : ∀ b cs', w.heap[b]? = some (.cells cs' 99 (0, 0)) → ¬ one g b := by
  rintro b cs' hb rfl
  rw [h] at hb
  injection hb with hb
  injection hb with _ ht
  exact absurd ht (by decide)
theorem St.no {w w' : World} {g : Nat} {v : Value} {b : List UInt8} {r : R} (h : St w g v b r) (k : Fr No w w') : St w' g v b r := by
  obtain ⟨⟨ev, h1, h2⟩, h3, h4, h5⟩ := h
  exact ⟨⟨ev, k.heap h1 id, h2.no k⟩, h3.no k, h4, h5⟩
theorem St.slice {w : World} {g : Nat} {v : Value} {b : List UInt8} {r : R} (h : St w g v b r) : ∃ A c, v = .slice A b.length c := by
  obtain ⟨A, c, h, _⟩ := h.bytes; exact ⟨A, c, h⟩

/-- The Reader's block after a store into one of its cells (and new blocks). -/
theorem St.put {w w' : World} {g : Nat} {v : Value} {b : List UInt8} {r r' : R} {ev : Value} (h : St w g v b r) (k : Fr (one g) w w') (hc : w'.heap[g]? = some (.cells #[v, .int .i64 (r'.at_ : Int), ev] 140 (0, 0))) (he : IsErr w' ev r'.err) (hl : r'.at_ ≤ b.length) : St w' g v b r' :=
  ⟨⟨ev, hc, he⟩, h.bytes.fr k (fun hn q hq hk => h.apart hn q hq hk), h.apart, hl⟩

set_option maxHeartbeats 1000000 in
set_option maxRecDepth 100000 in
theorem fail_calls {w : World} {g : Nat} {v : Value} {b : List UInt8} {r : R} (h : St w g v b r) (a e : Nat) :
    Calls Tryd.prog 60 #[.pointer (some ⟨g, 0, none⟩), .int .i64 (a : Int), .int .i64 (e : Int)] w fun en w' => en = .returned (.tuple #[]) ∧ St w' g v b (r.fail a e) ∧ Fr (one g) w w' := by
  obtain ⟨ev, hb, he⟩ := h.cells
  have H := Aside0.mk h; clear h
  have HB := Aside0.mk hb
  have h2 : w.cell? ⟨g, 2, none⟩ = some ev := by rw [blk_cell hb]; rfl
  have hf : w.frozen? ⟨g, 2, none⟩ = false := blk_frozen hb _
  have hl : g < w.heap.size := blk_lt hb
  clear hb
  obtain ⟨ra, re⟩ := r
  cases re with
  | some q =>
    obtain ⟨fb, rfl, hfb⟩ := he
    clear hfb
    go_enter Tryd.func60, Tryd.ntmps60
    go_wp2
    go_end0
    exact ⟨rfl, H.out, Fr.refl _ _⟩
  | none =>
    obtain rfl : ev = .nilIface := he
    go_enter Tryd.func60, Tryd.ntmps60
    go_wp2
    go_end0
    have hb := HB.out
    have k1 : Fr (one g) w (w.setCell ⟨g, 2, none⟩ (.iface 97 (.pointer (some ⟨w.heap.size, 0, none⟩)))) := (Fr.refl (one g) w).setCell (p := ⟨g, 2, none⟩) (.inl rfl) _
    refine ⟨rfl, H.out.put (ev := .iface 97 (.pointer (some ⟨w.heap.size, 0, none⟩))) (k1.alloc _) ?_ ⟨w.heap.size, rfl, ?_⟩ H.out.at_le, k1.alloc _⟩
    · exact blk_alloc (by simpa [R.fail] using blk_set hb 2 (.iface 97 (.pointer (some ⟨w.heap.size, 0, none⟩)))) _
    · have := blk_new (w.setCell ⟨g, 2, none⟩ (.iface 97 (.pointer (some ⟨w.heap.size, 0, none⟩)))) (.cells #[.int .i64 (a : Int), .int .i64 (e : Int)] 99)
      simpa [World.setCell] using this

/-- What the walks of the Reader's methods are told of its block. -/
theorem St.open_ {w : World} {g : Nat} {v : Value} {b : List UInt8} {r : R} (h : St w g v b r) : ∃ ev, IsErr w ev r.err ∧ w.heap[g]? = some (.cells #[v, .int .i64 (r.at_ : Int), ev] 140 (0, 0)) ∧
    w.cell? ⟨g, 0, none⟩ = some v ∧ w.cell? ⟨g, 1, none⟩ = some (.int .i64 (r.at_ : Int)) ∧ w.cell? ⟨g, 2, none⟩ = some ev ∧ w.frozen? ⟨g, 1, none⟩ = false ∧ w.frozen? ⟨g, 2, none⟩ = false ∧ g < w.heap.size := by
  obtain ⟨ev, hb, he⟩ := h.cells
  exact ⟨ev, he, hb, by rw [blk_cell hb]; rfl, by rw [blk_cell hb]; rfl, by rw [blk_cell hb]; rfl, blk_frozen hb _, blk_frozen hb _, blk_lt hb⟩

set_option maxHeartbeats 1000000 in
set_option maxRecDepth 100000 in
theorem byte_calls {w : World} {g : Nat} {v : Value} {b : List UInt8} {r : R} (h : St w g v b r) :
    Calls Tryd.prog 39 #[.pointer (some ⟨g, 0, none⟩)] w fun en w' => en = .returned (vu8 (rByte b r).2) ∧ St w' g v b (rByte b r).1 ∧ Fr (one g) w w' := by
  obtain ⟨A, c, rfl⟩ := h.slice
  obtain ⟨ev, he, hb, h0, h1, h2, hf1, hf2, hl⟩ := h.open_
  have H := Aside0.mk h
  have hm := h.bytes.len_le
  have hat := h.at_le
  clear h
  have HB := Aside0.mk hb; clear hb
  obtain ⟨ra, re⟩ := r
  cases re with
  | some q =>
    obtain ⟨fb, rfl, hfb⟩ := he
    clear hfb
    simp only [] at h1 hat
    go_enter Tryd.func39, Tryd.ntmps39
    go_wp2
    go_quiet (fail)
    go_wp2
    go_ret
    exact ⟨rfl, H.out.no ((Fr.refl _ _).drewN _), (Fr.refl _ _).drewN _⟩
  | none =>
    obtain rfl : ev = .nilIface := he
    simp only [] at h1 hat
    by_cases hlt : ra < b.length
    · obtain ⟨ad, hA, hcell⟩ : ∃ ad, A = some ad ∧ w.cell? (ad.add ra) = some (vu8 b[ra]) := by
        obtain ⟨A', c', he', _, _, h3⟩ := H.out.bytes
        injection he' with e1 _ _
        obtain ⟨ad, rfl, hc⟩ := h3 (by omega)
        exact ⟨ad, e1, hc ra _ (by rw [u8_cells]; simp [hlt])⟩
      subst hA
      have hne : ad.block ≠ g := H.out.apart (by omega) _ rfl
      have hcell2 : ∀ n, ((w.drewN n).setCell ⟨g, 1, none⟩ (.int .i64 ((ra : Int) + 1))).cell? (ad.add ra) = some (vu8 b[ra]) := by
        intro n
        rw [World.cell?_setCell_far _ _ _ _ (by rw [add_block]; exact fun e => hne e.symm)]; exact hcell
      clear hcell
      have hd : decide (b.length ≤ ra) = false := by simp; omega
      have hr : rByte b ⟨ra, none⟩ = (⟨ra + 1, none⟩, b[ra]) := by simp [rByte, hlt]
      rw [hr]
      go_enter Tryd.func39, Tryd.ntmps39
      go_wp2
      go_quiet (fail)
      go_wp2
      go_quiet (fail)
      go_wp2
      go_ret
      have k : ∀ n m, Fr (one g) w (((w.drewN n).setCell ⟨g, 1, none⟩ (.int .i64 ((ra : Int) + 1))).drewN m) := fun n m => (((Fr.refl (one g) w).drewN n).setCell (p := ⟨g, 1, none⟩) (.inl rfl) _).drewN m
      refine ⟨rfl, H.out.put (ev := .nilIface) (k _ _) ?_ rfl (by simp only []; omega), k _ _⟩
      exact blk_drewN (by simpa using blk_set (blk_drewN HB.out _) 1 (.int .i64 ((ra : Int) + 1))) _
    · have hd : decide (b.length ≤ ra) = true := by simp; omega
      have hr : rByte b ⟨ra, none⟩ = (⟨ra, some (ra, 30)⟩, 0) := by simp [rByte, hlt]
      rw [hr]
      go_enter Tryd.func39, Tryd.ntmps39
      go_wp2
      go_quiet (fail)
      go_wp2_with fail
      refine (fail_calls (v := .slice A b.length c) (b := b) (r := ⟨ra, none⟩) (H.out.no ((Fr.refl _ _).drewN _)) ra 30).mono ?_
      rintro e w' ⟨rfl, h', k'⟩
      obtain ⟨ev', he', hb', h0', h1', h2', hf1', hf2', hl'⟩ := h'.open_
      have H' := Aside0.mk h'; have K' := Aside0.mk k'; clear h' k' hb' h0' h1' hf1' hf2'
      obtain ⟨fb, rfl, hfb⟩ := he'
      clear hfb hl
      go_wp2
      go_ret
      exact ⟨rfl, H'.out, ((Fr.refl _ _).drewN _).trans K'.out (fun _ _ h => h)⟩

set_option maxHeartbeats 1000000 in
theorem err_calls {w : World} {g : Nat} {v : Value} {b : List UInt8} {r : R} (h : St w g v b r) :
    Calls Tryd.prog 36 #[.pointer (some ⟨g, 0, none⟩)] w fun en w' => ∃ ev, IsErr w ev r.err ∧ en = .returned ev ∧ w = w' := by
  obtain ⟨ev, he, hb, h0, h1, h2, hf1, hf2, hl⟩ := h.open_
  clear hb
  have HE := Aside0.mk he; clear he
  go_enter Tryd.func36, Tryd.ntmps36
  go_wp2
  go_ret
  exact ⟨ev, HE.out, rfl, rfl⟩

set_option maxHeartbeats 1000000 in
theorem at_calls {w : World} {g : Nat} {v : Value} {b : List UInt8} {r : R} (h : St w g v b r) :
    Calls Tryd.prog 38 #[.pointer (some ⟨g, 0, none⟩)] w fun en w' => en = .returned (.int .i64 (r.at_ : Int)) ∧ w = w' := by
  obtain ⟨ev, he, hb, h0, h1, h2, hf1, hf2, hl⟩ := h.open_
  clear hb he
  go_enter Tryd.func38, Tryd.ntmps38
  go_wp2
  go_ret
  exact ⟨rfl, rfl⟩

set_option maxHeartbeats 1000000 in
theorem read_calls {w : World} {v : Value} {b : List UInt8} (h : RdB w v b) :
    Calls Tryd.prog 34 #[v] w fun en w' => en = .returned (.pointer (some ⟨w.heap.size, 0, none⟩)) ∧ St w' w.heap.size v b ⟨0, none⟩ ∧ Fr No w w' := by
  obtain ⟨A, c, rfl, h1⟩ := id h
  have H := Aside0.mk h; clear h h1
  go_enter Tryd.func34, Tryd.ntmps34
  go_wp2
  go_ret
  have k : Fr No w (w.alloc (.cells #[.slice A b.length c, .int .i64 0, .nilIface] 140)) := (Fr.refl _ _).alloc _
  refine ⟨rfl, ⟨⟨.nilIface, blk_new _ _, rfl⟩, H.out.no k, fun hn q hq => ?_, Nat.zero_le _⟩, k⟩
  exact Nat.ne_of_lt (H.out.lt Nat.one_pos hn q hq)

set_option maxHeartbeats 1000000 in
set_option maxRecDepth 100000 in
theorem end_calls {w : World} {g : Nat} {v : Value} {b : List UInt8} {r : R} (h : St w g v b r) :
    Calls Tryd.prog 40 #[.pointer (some ⟨g, 0, none⟩)] w fun en w' => (∃ ev, IsErr w' ev (rEnd b r).err ∧ en = .returned ev) ∧ St w' g v b (rEnd b r) ∧ Fr (one g) w w' := by
  obtain ⟨A, c, rfl⟩ := h.slice
  obtain ⟨ev, he, hb, h0, h1, h2, hf1, hf2, hl⟩ := h.open_
  have H := Aside0.mk h
  have hm := h.bytes.len_le
  have hat := h.at_le
  clear h
  have HB := Aside0.mk hb; clear hb
  obtain ⟨ra, re⟩ := r
  cases re with
  | some q =>
    have HE := Aside0.mk he
    obtain ⟨fb, rfl, hfb⟩ := he
    clear hfb
    simp only [] at h1 hat
    go_enter Tryd.func40, Tryd.ntmps40
    go_wp2
    go_quiet (fail)
    go_wp2
    go_ret
    exact ⟨⟨_, HE.out.no ((Fr.refl _ _).drewN _), rfl⟩, H.out.no ((Fr.refl _ _).drewN _), (Fr.refl _ _).drewN _⟩
  | none =>
    obtain rfl : ev = .nilIface := he
    simp only [] at h1 hat
    by_cases hlt : ra < b.length
    · have hd : decide (ra < b.length) = true := by simp; omega
      have hr : rEnd b ⟨ra, none⟩ = (⟨ra, none⟩ : R).fail ra 31 := by simp [rEnd, hlt]
      rw [hr]
      go_enter Tryd.func40, Tryd.ntmps40
      go_wp2
      go_quiet (fail)
      go_wp2_with fail
      refine (fail_calls (v := .slice A b.length c) (b := b) (r := ⟨ra, none⟩) (H.out.no ((Fr.refl _ _).drewN _)) ra 31).mono ?_
      rintro e w' ⟨rfl, h', k'⟩
      obtain ⟨ev', he', hb', h0', h1', h2', hf1', hf2', hl'⟩ := h'.open_
      have H' := Aside0.mk h'; have K' := Aside0.mk k'; have HE' := Aside0.mk he'; clear h' k' hb' h0' h1' hf1' hf2' hl he'
      go_wp2
      go_ret
      exact ⟨⟨_, HE'.out, rfl⟩, H'.out, ((Fr.refl _ _).drewN _).trans K'.out (fun _ _ h => h)⟩
    · have hd : decide (ra < b.length) = false := by simp; omega
      have hr : rEnd b ⟨ra, none⟩ = ⟨ra, none⟩ := by simp [rEnd, hlt]
      rw [hr]
      go_enter Tryd.func40, Tryd.ntmps40
      go_wp2
      go_quiet (fail)
      go_wp2
      go_ret
      exact ⟨⟨_, rfl, rfl⟩, H.out.no ((Fr.refl _ _).drewN _), (Fr.refl _ _).drewN _⟩

/-- Where a number's reading stands: at digit k, n what was read; or it has gone wrong. -/
def numRes (b : List UInt8) (from_ k n : Nat) (r : R) : R × Nat := match r.err with | some _ => (r, 0) | none => rNumL b from_ (7 - k) k n r

theorem and127 (x : UInt8) : bits .and .u8 (x.toNat : Int) 127 = ((x.toNat % 128 : Nat) : Int) := by
  have h : ∀ r : Fin 256, bits .and .u8 ((r.val : Nat) : Int) 127 = ((r.val % 128 : Nat) : Int) := by decide +kernel
  exact h ⟨x.toNat, x.toNat_lt⟩
theorem orI (n x s : Nat) (hn : n < 2 ^ s) (hx : x * 2 ^ s + n < 2 ^ 62) : bits .or .i64 (n : Int) (wrap64 ((x : Int) * 2 ^ s)) = ((n + x * 2 ^ s : Nat) : Int) := by
  have hw : wrap64 ((x : Int) * 2 ^ s) = ((x * 2 ^ s : Nat) : Int) := by
    have e : ((x : Int) * 2 ^ s) = ((x * 2 ^ s : Nat) : Int) := by push_cast; rfl
    rw [e]; unfold wrap64; omega
  have hor : n ||| x * 2 ^ s = n + x * 2 ^ s := by
    rw [Nat.or_comm, Nat.mul_comm x, ← Nat.two_pow_add_eq_or_of_lt hn, Nat.add_comm]
  have h1 : (BitVec.ofInt 64 (n : Int)).toNat = n := by rw [BitVec.ofInt_natCast, BitVec.toNat_ofNat]; exact Nat.mod_eq_of_lt (by omega)
  have h2 : (BitVec.ofInt 64 ((x * 2 ^ s : Nat) : Int)).toNat = x * 2 ^ s := by rw [BitVec.ofInt_natCast, BitVec.toNat_ofNat]; exact Nat.mod_eq_of_lt (by omega)
  rw [hw]
  show IntKind.wrap .i64 ((BitVec.ofInt 64 (n : Int) ||| BitVec.ofInt 64 ((x * 2 ^ s : Nat) : Int)).toNat : Int) = _
  rw [BitVec.toNat_or, h1, h2, hor, IntKind.wrap_i64]
  omega

theorem numRes_step (b : List UInt8) (from_ k n : Nat) (r : R) (hr : r.err = none) (hk : k ≤ 6) : numRes b from_ k n r =
    (match (rByte b r).1.err with
    | some _ => ((rByte b r).1, 0)
    | none =>
      if k = 6 ∨ ((rByte b r).2 = 0 ∧ 0 < k) then ((rByte b r).1.fail from_ 31, 0)
      else if (rByte b r).2.toNat < 128 then
        (if n + (rByte b r).2.toNat * 128 ^ k > 1099511627776 then ((rByte b r).1.fail from_ 1, 0) else ((rByte b r).1, n + (rByte b r).2.toNat * 128 ^ k))
      else numRes b from_ (k + 1) (n + (rByte b r).2.toNat % 128 * 128 ^ k) (rByte b r).1) := by
  have e : 7 - k = (7 - (k + 1)) + 1 := by omega
  unfold numRes
  rw [hr, e]
  simp only [rNumL]
  cases (rByte b r).1.err <;> rfl

set_option maxHeartbeats 4000000 in
set_option maxRecDepth 100000 in
theorem num_calls {w : World} {g : Nat} {v : Value} {b : List UInt8} {r : R} (h : St w g v b r) :
    Calls Tryd.prog 35 #[.pointer (some ⟨g, 0, none⟩)] w fun en w' => en = .returned (.int .i64 ((rNum b r).2 : Int)) ∧ St w' g v b (rNum b r).1 ∧ Fr (one g) w w' := by
  have hres : rNum b r = numRes b r.at_ 0 0 r := by unfold rNum numRes; cases r.err <;> rfl
  obtain ⟨ev, he, hb, h0, h1, h2, hf1, hf2, hl⟩ := h.open_
  have H := Aside0.mk h
  obtain ⟨res, hr⟩ : ∃ res, rNum b r = res := ⟨_, rfl⟩
  rw [hr]
  have HR := Aside0.mk (hres.symm.trans hr)
  clear hres hr hb he h
  go_enter Tryd.func35, Tryd.ntmps35
  go_wp2
  clear h0 h1 h2 hf1 hf2 hl
  go_loopw [4, 5, 6] (fun v4 v5 v6 wr => ∃ (k n : Nat) (rr : R), v4 = .int .i64 n ∧ v5 = .int .i64 (7 * (k : Int)) ∧ k ≤ 7 ∧ Aside0 (n < 128 ^ k) ∧ Aside0 (St wr g v b rr) ∧ Aside0 (Fr (one g) w wr) ∧ Aside0 (numRes b r.at_ k n rr = res) ∧ Aside0 (rr.err = none → k ≤ 6)) (fun _ v5 _ _ => (7 - (intOf v5).toNat / 7))
  case atStart => exact ⟨0, 0, r, rfl, rfl, by omega, ⟨by omega⟩, ⟨H.out⟩, ⟨Fr.refl _ _⟩, ⟨HR.out⟩, ⟨fun _ => by omega⟩⟩
  case round =>
    obtain ⟨k, n, rr, rfl, rfl, hk, HN, HS, HF, HQ, HK⟩ := hrel
    obtain ⟨ev, he, hb, h0, h1, h2, hf1, hf2, hl⟩ := HS.out.open_
    clear hb
    obtain ⟨ra, re⟩ := rr
    cases re with
    | some q =>
      obtain ⟨fb, rfl, hfb⟩ := he
      clear hfb
      simp only [] at h1
      go_wp2
      go_ret
      have := HQ.out
      simp only [numRes] at this
      subst this
      exact ⟨rfl, HS.out, HF.out⟩
    | none =>
      obtain rfl : ev = .nilIface := he
      simp only [] at h1
      have hk6 := HK.out rfl
      go_wp2_with fail
      refine (byte_calls HS.out).mono ?_
      rintro e w1 ⟨rfl, hs1, hf1'⟩
      clear h0 h1 h2 hf1 hf2 hl
      have hstep := numRes_step b r.at_ k n ⟨ra, none⟩ rfl hk6
      rw [HQ.out] at hstep
      obtain ⟨⟨r1, x⟩, hq⟩ : ∃ q, rByte b ⟨ra, none⟩ = q := ⟨_, rfl⟩
      rw [hq] at hstep hs1
      rw [hq]
      simp only [] at hstep hs1 ⊢
      have HS1 := Aside0.mk hs1
      have HF1 := Aside0.mk (HF.out.trans hf1' (fun _ _ h => h))
      have HN' := HN.out
      clear hq hf1' HF HS HQ HK HN
      obtain ⟨ev, he, hb, h0, h1, h2, hf1, hf2, hl⟩ := hs1.open_
      clear hb hs1 h0 h1 hf1 hf2 hl
      obtain ⟨ra1, re1⟩ := r1
      simp only [] at hstep
      cases re1 with
      | some q1 =>
        obtain ⟨fb, rfl, hfb⟩ := he
        clear hfb
        simp only [] at hstep
        have HST := Aside0.mk hstep; clear hstep
        go_wp2
        go_roundw
        case rel => exact ⟨k + 1, n, ⟨ra1, some q1⟩, rfl, by go_num, by omega, ⟨Nat.lt_of_lt_of_le HN' (Nat.pow_le_pow_right (by omega) (by omega))⟩, HS1, HF1, ⟨HST.out.symm⟩, ⟨fun h => by cases h⟩⟩
        case measure => simp [intOf]; omega
      | none =>
        obtain rfl : ev = .nilIface := he
        simp only [] at hstep
        by_cases hform : k = 6 ∨ (x = 0 ∧ 0 < k)
        · rw [if_pos hform] at hstep
          have HST := Aside0.mk hstep; clear hstep
          rcases Nat.lt_or_ge k 6 with hk5 | hk5
          · have hx : x = 0 := by rcases hform with h | h; omega; exact h.1
            have hk0 : 0 < k := by rcases hform with h | h; omega; exact h.2
            subst hx
            have b1 : ((7 * (k : Int)) == 42) = false := by rw [beq_eq_false_iff_ne]; omega
            have b2 : decide (0 < 7 * (k : Int)) = true := by simp; omega
            clear hform hk0
            go_wp2_with fail
            refine (fail_calls HS1.out r.at_ 31).mono ?_
            rintro e w2 ⟨rfl, h', k'⟩
            have H' := Aside0.mk h'; have K' := Aside0.mk k'; clear h' k'
            go_wp2
            go_roundw
            case rel => exact ⟨k + 1, n, _, rfl, by go_num, by omega, ⟨Nat.lt_of_lt_of_le HN' (Nat.pow_le_pow_right (by omega) (by omega))⟩, H', ⟨HF1.out.trans K'.out (fun _ _ h => h)⟩, ⟨HST.out.symm⟩, ⟨fun h => by cases h⟩⟩
            case measure => simp [intOf]; omega
          · have b1 : ((7 * (k : Int)) == 42) = true := by rw [beq_iff_eq]; omega
            clear hform
            go_wp2_with fail
            refine (fail_calls HS1.out r.at_ 31).mono ?_
            rintro e w2 ⟨rfl, h', k'⟩
            have H' := Aside0.mk h'; have K' := Aside0.mk k'; clear h' k'
            go_wp2
            go_roundw
            case rel => exact ⟨k + 1, n, _, rfl, by go_num, by omega, ⟨Nat.lt_of_lt_of_le HN' (Nat.pow_le_pow_right (by omega) (by omega))⟩, H', ⟨HF1.out.trans K'.out (fun _ _ h => h)⟩, ⟨HST.out.symm⟩, ⟨fun h => by cases h⟩⟩
            case measure => simp [intOf]; omega
        · rw [if_neg hform] at hstep
          have b1 : ((7 * (k : Int)) == 42) = false := by rw [beq_eq_false_iff_ne]; omega
          have hp : (128 : Nat) ^ k = 2 ^ (7 * k) := by rw [show (128 : Nat) = 2 ^ 7 from rfl, ← Nat.pow_mul]
          have hk5 : k < 6 := by omega
          have hx0 : ((x.toNat : Int) == 0) = true ∧ decide (0 < 7 * (k : Int)) = false ∨ ((x.toNat : Int) == 0) = false := by
            by_cases hx : x = 0
            · left
              subst hx
              refine ⟨rfl, ?_⟩
              rcases Nat.eq_zero_or_pos k with h0 | h0
              · subst h0; rfl
              · exact absurd (Or.inr ⟨rfl, h0⟩) hform
            · right
              rw [beq_eq_false_iff_ne]
              intro e
              exact hx (UInt8.toNat_inj.1 (by simpa using e))
          have hpow : 2 ^ (7 * k) ≤ 2 ^ 35 := Nat.pow_le_pow_right (by omega) (by omega)
          have hxl : x.toNat < 256 := x.toNat_lt
          by_cases hlt : x.toNat < 128
          · rw [if_pos hlt] at hstep
            have hmul : x.toNat * 2 ^ (7 * k) ≤ 127 * 2 ^ 35 := Nat.mul_le_mul (by omega) hpow
            have hor := orI n x.toNat (7 * k) (by rw [← hp]; exact HN') (by have := hp ▸ HN'; omega)
            have hlI : (x.toNat : Int) < 128 := by omega
            have hcast : ((n + x.toNat * 128 ^ k : Nat) : Int) = (n : Int) + (x.toNat : Int) * 2 ^ (7 * k) := by rw [hp]; push_cast; rfl
            have hcast' := Aside0.mk hcast
            by_cases hbig : (n : Int) + (x.toNat : Int) * 2 ^ (7 * k) > 1099511627776
            · rw [if_pos (by omega)] at hstep
              have HST := Aside0.mk hstep; clear hstep hform hp hpow hmul hcast hxl hlt
              rcases hx0 with ⟨b3, b2⟩ | b3
              all_goals
                go_wp2_with fail
                refine (fail_calls HS1.out r.at_ 1).mono ?_
                rintro e w2 ⟨rfl, h', k'⟩
                have H' := Aside0.mk h'; have K' := Aside0.mk k'; clear h' k'
                go_wp2
                go_ret
                rw [HST.out]
                exact ⟨rfl, H'.out, HF1.out.trans K'.out (fun _ _ h => h)⟩
            · rw [if_neg (by omega)] at hstep
              have HST := Aside0.mk hstep; clear hstep hform hp hpow hmul hcast hxl hlt
              rcases hx0 with ⟨b3, b2⟩ | b3
              all_goals
                go_wp2
                go_ret
                rw [HST.out]
                exact ⟨by rw [hcast'.out]; rfl, HS1.out, HF1.out⟩
          · rw [if_neg hlt] at hstep
            obtain ⟨y, hy⟩ : ∃ y, x.toNat % 128 = y := ⟨_, rfl⟩
            rw [hy] at hstep
            have hyl : y < 128 := by omega
            have hand : bits .and .u8 (x.toNat : Int) 127 = (y : Int) := by rw [and127, hy]
            have hmul : y * 2 ^ (7 * k) ≤ 127 * 2 ^ 35 := Nat.mul_le_mul (by omega) hpow
            have hor := orI n y (7 * k) (by rw [← hp]; exact HN') (by have := hp ▸ HN'; omega)
            have hnl : ¬ (x.toNat : Int) < 128 := by omega
            have HST := Aside0.mk hstep
            have HX : Aside0 (n + y * 128 ^ k < 128 ^ (k + 1)) := ⟨by
              rw [Nat.pow_succ]
              have : y * 128 ^ k ≤ 127 * 128 ^ k := Nat.mul_le_mul_right _ (by omega)
              omega⟩
            have hcast : Aside0 (((n + y * 128 ^ k : Nat) : Int) = (n : Int) + (y : Int) * 2 ^ (7 * k)) := ⟨by rw [hp]; push_cast; rfl⟩
            clear hy
            clear hstep hform hp hpow hmul hxl hlt
            rcases hx0 with ⟨b3, b2⟩ | b3
            · exact absurd b3 (by rw [beq_iff_eq]; omega)
            · go_wp2
              go_roundw
              case rel => exact ⟨k + 1, _, _, by rw [hcast.out], by go_num, by omega, HX, HS1, HF1, ⟨HST.out.symm⟩, ⟨fun _ => by omega⟩⟩
              case measure => simp [intOf]; omega
end Go.Proofs.YtanbddaecojijaaDoor.Rdr
