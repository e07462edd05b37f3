/- Package weak, and the document's weak sum: walked. -/
import Derived.Test.YtinjkebhamhenaaSpecWeak
import Derived.Test.YtinjkebhamhenaaLd
set_option linter.unusedVariables false
set_option linter.unusedSimpArgs false
namespace Go.Proofs.Ytinjkebhamhenaa.Wk
open Go.RowKit Go.IntWalk Go.Proofs.YtinjkebhamhenaaW.PrintWords Go.Proofs.Ytinjkebhamhenaa.B Go.Proofs.Ytinjkebhamhenaa.PB Go.Proofs.Ytinjkebhamhenaa.SWeak

abbrev sc (l : List UInt8) : Array Value := #[.int .u32 ((wa l % 65536 : Nat) : Int), .int .u32 ((wb l % 65536 : Nat) : Int), .int .u32 (l.length : Int)]
abbrev sv (l : List UInt8) : Value := .agg (sc l)
theorem and_mask (n : Nat) (h : n < 4294967296) : bits .and .u32 (n : Int) 65535 = ((n % 65536 : Nat) : Int) := by
  have h1 : (BitVec.ofInt 32 (n : Int)).toNat = n := by rw [BitVec.ofInt_natCast, BitVec.toNat_ofNat]; exact Nat.mod_eq_of_lt (by omega)
  have h2 : (BitVec.ofInt 32 65535).toNat = 65535 := by decide
  show IntKind.wrap .u32 ((BitVec.ofInt 32 (n : Int) &&& BitVec.ofInt 32 65535).toNat : Int) = _
  rw [BitVec.toNat_and, h1, h2, show (65535 : Nat) = 2 ^ 16 - 1 from rfl, Nat.and_two_pow_sub_one_eq_mod, IntKind.wrap_u32]
  omega
theorem or_shift (a b : Nat) (ha : a < 65536) (hb : b < 65536) : bits .or .u32 ((b : Int) * 65536 % 4294967296) (a : Int) = ((b * 65536 + a : Nat) : Int) := by
  have e : ((b : Int) * 65536 % 4294967296) = ((b * 65536 : Nat) : Int) := by omega
  have h1 : (BitVec.ofInt 32 ((b * 65536 : Nat) : Int)).toNat = b * 65536 := by rw [BitVec.ofInt_natCast, BitVec.toNat_ofNat]; exact Nat.mod_eq_of_lt (by omega)
  have h2 : (BitVec.ofInt 32 (a : Int)).toNat = a := by rw [BitVec.ofInt_natCast, BitVec.toNat_ofNat]; exact Nat.mod_eq_of_lt (by omega)
  rw [e]
  show IntKind.wrap .u32 ((BitVec.ofInt 32 ((b * 65536 : Nat) : Int) ||| BitVec.ofInt 32 (a : Int)).toNat : Int) = _
  rw [BitVec.toNat_or, h1, h2, show b * 65536 = 2 ^ 16 * b by omega, ← Nat.two_pow_add_eq_or_of_lt (by omega), IntKind.wrap_u32]
  omega
theorem in_a (l : List UInt8) (x : UInt8) : bits .and .u32 (((wa l : Nat) : Int) % 65536 + (x.toNat : Int)) 65535 = ((wa (l ++ [x]) % 65536 : Nat) : Int) := by
  have hx := x.toNat_lt
  rw [wa_snoc, show ((wa l : Nat) : Int) % 65536 + (x.toNat : Int) = ((wa l % 65536 + x.toNat : Nat) : Int) by omega, and_mask _ (by omega)]
  omega
theorem in_b (l : List UInt8) (x : UInt8) : bits .and .u32 (((wb l : Nat) : Int) % 65536 + ((wa (l ++ [x]) % 65536 : Nat) : Int)) 65535 = ((wb (l ++ [x]) % 65536 : Nat) : Int) := by
  rw [wb_snoc, show ((wb l : Nat) : Int) % 65536 + ((wa (l ++ [x]) % 65536 : Nat) : Int) = ((wb l % 65536 + wa (l ++ [x]) % 65536 : Nat) : Int) by omega, and_mask _ (by omega)]
  omega

set_option maxHeartbeats 1000000 in
set_option maxRecDepth 100000 in
theorem in_calls (l : List UInt8) (x : UInt8) (w : World) (hl : l.length < 4294967295) : Calls Try.prog 31 #[sv l, vu8 x] w fun e w' => e = .returned (sv (l ++ [x])) ∧ Fr No w w' := by
  have hA := in_a l x
  have hB := in_b l x
  have hx := x.toNat_lt
  have e1 : (((wa l : Nat) : Int) % 65536 + (x.toNat : Int)) % 4294967296 = ((wa l : Nat) : Int) % 65536 + (x.toNat : Int) := by omega
  have e2 : (((wb l : Nat) : Int) % 65536 + ((wa (l ++ [x]) % 65536 : Nat) : Int)) % 4294967296 = ((wb l : Nat) : Int) % 65536 + ((wa (l ++ [x]) % 65536 : Nat) : Int) := by omega
  have HA := Aside0.mk hA; have HB := Aside0.mk hB; have HE1 := Aside0.mk e1; have HE2 := Aside0.mk e2
  clear hA hB e1 e2
  go_enter Try.func31, Try.ntmps31
  go_wp2
  simp only [HE1.out, HA.out, HE2.out, HB.out]
  (try simp only [Exit.inBlock, Exit.then]); refine bodyPost_ret (results_single (r := .cell 4 49) rfl (.cell (w.heap.size + 1) 49 #[.int .u32 ((wa (l ++ [x]) % 65536 : Nat) : Int), .int .u32 ((wb (l ++ [x]) % 65536 : Nat) : Int), .int .u32 ((l.length : Int) + 1)] (0, 0) _ rfl (heap_alloc2_new w _ _) Try.underlying49 rfl (by kernel_rfl) .nil)) rfl ?_
  refine ⟨?_, ((Fr.refl _ _).alloc _).alloc _⟩
  simp [sv, sc]

/-- The first byte is gone. -/
theorem out_a (l : List UInt8) (x : UInt8) : bits .and .u32 ((((wa (x :: l) : Nat) : Int) % 65536 - (x.toNat : Int)) % 4294967296) 65535 = ((wa l % 65536 : Nat) : Int) := by
  have hx := x.toNat_lt
  obtain ⟨n, hn⟩ : ∃ n : Nat, (((wa (x :: l) : Nat) : Int) % 65536 - (x.toNat : Int)) % 4294967296 = (n : Int) := ⟨((((wa (x :: l) : Nat) : Int) % 65536 - (x.toNat : Int)) % 4294967296).toNat, by omega⟩
  rw [hn, and_mask _ (by omega)]
  simp only [wa] at hn
  omega
theorem out_b (l : List UInt8) (x : UInt8) (z : Int) (hz : z = ((l.length : Int) + 1) * (x.toNat : Int)) : bits .and .u32 ((((wb (x :: l) : Nat) : Int) % 65536 - z) % 4294967296) 65535 = ((wb l % 65536 : Nat) : Int) := by
  have hb : ((wb (x :: l) : Nat) : Int) = z + ((wb l : Nat) : Int) := by rw [hz]; simp only [wb]; push_cast; rfl
  obtain ⟨n, hn⟩ : ∃ n : Nat, (((wb (x :: l) : Nat) : Int) % 65536 - z) % 4294967296 = (n : Int) := ⟨((((wb (x :: l) : Nat) : Int) % 65536 - z) % 4294967296).toNat, by omega⟩
  rw [hn, and_mask _ (by omega)]
  rw [hb] at hn
  omega
set_option maxHeartbeats 1000000 in
theorem value_calls (l : List UInt8) (w : World) : Calls Try.prog 20 #[sv l] w fun e w' => e = .returned (.int .u32 ((weak l : Nat) : Int)) ∧ Fr No w w' := by
  have hO := or_shift (wa l % 65536) (wb l % 65536) (by omega) (by omega)
  have HO := Aside0.mk hO; clear hO
  go_enter Try.func20, Try.ntmps20
  go_wp2
  go_ret
  refine ⟨?_, (Fr.refl _ _).alloc _⟩
  have e : ((wb l : Nat) : Int) % 65536 * 65536 = ((wb l % 65536 : Nat) : Int) * 65536 % 4294967296 := by omega
  have e2 : ((wa l : Nat) : Int) % 65536 = ((wa l % 65536 : Nat) : Int) := by omega
  simp only [List.getD, e, e2, HO.out]
  rfl

set_option maxHeartbeats 1000000 in
set_option maxRecDepth 100000 in
theorem of_calls (v : Value) (b : List UInt8) (w : World) (hv : RdB w v b) (hl : b.length < 4294967295) : Calls Try.prog 19 #[v] w fun e w' => e = .returned (sv b) ∧ Fr No w w' := by
  obtain ⟨A, c, rfl, hc, hm, hcell⟩ := id hv
  have HC := Aside0.mk hcell
  clear hv hcell
  go_enter Try.func19, Try.ntmps19
  go_wp2
  go_loopw [8] (fun v8 wr => ∃ i : Nat, v8 = .int .i64 i ∧ i ≤ b.length ∧ Aside0 (wr.heap[w.heap.size + 1]? = some (.cells (sc (b.take i)) 49 (0, 0))) ∧ Aside0 (∃ cs : Array Value, wr.heap[w.heap.size]? = some (.cells cs 49 (0, 0)) ∧ cs.size = 3) ∧ Aside0 (Fr No w wr)) (fun v8 _ => b.length - (intOf v8).toNat)
  case atStart => exact ⟨0, rfl, Nat.zero_le _, ⟨heap_alloc2_new w _ _⟩, ⟨_, blk_alloc (heap_alloc_new w _) _, rfl⟩, ⟨((Fr.refl _ _).alloc _).alloc _⟩⟩
  case round =>
    obtain ⟨i, rfl, hi, HS, HR, HF⟩ := hrel
    have LD := ld_all (P := Try.prog) (ty := 49) HS.out Try.underlying49 rfl (by kernel_rfl)
    by_cases hil : i < b.length
    · have hiI : (i : Int) < (b.length : Int) := by omega
      obtain ⟨ad, rfl, hc2⟩ := HC.out (by omega)
      have k0 : wr.cell? (ad.add i) = some (vu8 b[i]) := HF.out.cell (hc2 i _ (by rw [u8_cells]; simp [hil])) id
      clear hc2
      obtain ⟨x, hx⟩ : ∃ x, b[i] = x := ⟨_, rfl⟩
      rw [hx] at k0
      have HX : Aside0 (b.take i ++ [x] = b.take (i + 1)) := ⟨by rw [← hx]; simp⟩
      have HL : Aside0 ((b.take i).length < 4294967295) := ⟨by rw [List.length_take]; omega⟩
      clear hx
      go_wp2_with (refine ldG (.tmp 3) 49 _ _ rfl rfl (LD _ (Fr.refl _ _)) (by first | rfl | (go_simp; done)) ?_)
      refine (in_calls (b.take i) x wr HL.out).mono ?_
      rintro e w1 ⟨rfl, hf⟩
      rw [HX.out]
      have k1 := hf.heap HS.out id
      have KR : Aside0 (∃ cs : Array Value, w1.heap[w.heap.size]? = some (.cells cs 49 (0, 0)) ∧ cs.size = 3) := ⟨by obtain ⟨cs, h1, h2⟩ := HR.out; exact ⟨cs, hf.heap h1 id, h2⟩⟩
      have KF := Aside0.mk (HF.out.none hf)
      clear hf k0 LD
      go_wp2_with (refine PB.stRow (.tmp 3) (.tmp 14) 49 (w.heap.size + 1) 49 _ (sc (b.take (i + 1))) rfl rfl rfl rfl k1 (by kernel_rfl) rfl (by simp [Value.oneCell']) ?_)
      go_roundw
      case rel => exact ⟨i + 1, by go_num, by omega, ⟨setRow_heap _ _ _ _ _ _ k1⟩, ⟨by
        obtain ⟨cs, h1, h2⟩ := KR.out
        exact ⟨cs, (fr_one_row _ _ _).heap h1 (fun e => by have e' : w.heap.size = w.heap.size + 1 := e; omega), h2⟩⟩, ⟨fr_setRow KF.out (.inr (by omega)) _⟩⟩
      case measure => simp [intOf]; omega
    · have hiI : ¬ (i : Int) < (b.length : Int) := by omega
      obtain rfl : i = b.length := by omega
      rw [List.take_length] at LD
      obtain ⟨cs, hr, hcs⟩ := HR.out
      go_wp2_with (first
        | (refine ldG (.tmp 3) 49 _ _ rfl rfl (LD _ (Fr.refl _ _)) (by first | rfl | (go_simp; done)) ?_)
        | (refine PB.stRow (.tmp 2) (.tmp 16) 49 w.heap.size 49 cs (sc b) rfl rfl rfl rfl hr (by kernel_rfl) hcs (by simp [Value.oneCell']) ?_))
      (try simp only [Exit.inBlock, Exit.then]); refine bodyPost_ret (results_single (r := .cell 2 49) rfl (.cell w.heap.size 49 (sc b) (0, 0) _ rfl (setRow_heap _ _ _ _ _ _ hr) Try.underlying49 rfl (by kernel_rfl) .nil)) rfl ?_
      exact ⟨rfl, fr_setRow HF.out (.inr (Nat.le_refl _)) _⟩

/-- The document's. -/
theorem wa_take (b : List UInt8) (i : Nat) (x : UInt8) (h : b[i]? = some x) : wa (b.take (i + 1)) = wa (b.take i) + x.toNat := by
  obtain ⟨h1, h2⟩ := List.getElem?_eq_some_iff.1 h
  rw [List.take_succ_eq_append_getElem h1, wa_snoc, h2]
/-- What the loop has of the second part: each byte so far, as often as it counts in the whole. -/
def wbn (n : Nat) : List UInt8 → Nat
  | [] => 0
  | x :: l => n * x.toNat + wbn (n - 1) l
theorem wbn_all (b : List UInt8) : wbn b.length b = wb b := by
  induction b with
  | nil => rfl
  | cons x l ih => simp only [wbn, wb, List.length_cons, Nat.add_sub_cancel, ih]
theorem wbn_snoc (x : UInt8) : ∀ (l : List UInt8) (n : Nat), wbn n (l ++ [x]) = wbn n l + (n - l.length) * x.toNat
  | [], n => by simp [wbn]
  | y :: l, n => by
    rw [List.cons_append, wbn, wbn, wbn_snoc x l (n - 1), List.length_cons, show n - 1 - l.length = n - (l.length + 1) by omega]
    omega
theorem wbn_take (b : List UInt8) (n i : Nat) (x : UInt8) (h : b[i]? = some x) : wbn n (b.take (i + 1)) = wbn n (b.take i) + (n - i) * x.toNat := by
  obtain ⟨h1, h2⟩ := List.getElem?_eq_some_iff.1 h
  rw [List.take_succ_eq_append_getElem h1, wbn_snoc, h2, List.length_take, Nat.min_eq_left (by omega)]
theorem wbn_le : ∀ (l : List UInt8) (n : Nat), wbn n l ≤ n * 255 * l.length
  | [], n => by simp [wbn]
  | y :: l, n => by
    have h1 := y.toNat_lt
    have h2 : n * y.toNat ≤ n * 255 := Nat.mul_le_mul_left _ (by omega)
    have h3 := wbn_le l (n - 1)
    have h4 : (n - 1) * 255 * l.length ≤ n * 255 * l.length := Nat.mul_le_mul_right _ (Nat.mul_le_mul_right _ (by omega))
    rw [wbn, List.length_cons, Nat.mul_succ]
    omega
theorem bstr_get (b : List UInt8) (i : Nat) (x : UInt8) (h : b[i]? = some x) (hi : i < (bstr b).size) : (bstr b)[i] = x := by
  obtain ⟨h1, h2⟩ := List.getElem?_eq_some_iff.1 h
  exact h2
set_option maxHeartbeats 1000000 in
set_option maxRecDepth 100000 in
theorem ref_calls (b : List UInt8) (w : World) (hl : b.length ≤ 10000) : Calls Try.prog 16 #[.string (bstr b)] w fun e w' => e = .returned (.int .i64 ((weak b : Nat) : Int)) ∧ w = w' := by
  go_enter Try.func16, Try.ntmps16
  go_wp2
  go_loop [3, 4, 5] (fun v3 v4 v5 => ∃ i a c : Nat, v3 = .int .i64 (a : Int) ∧ v4 = .int .i64 (c : Int) ∧ v5 = .int .i64 (i : Int) ∧ i ≤ b.length ∧ Aside0 (a = wa (b.take i)) ∧ Aside0 (c = wbn b.length (b.take i))) (fun _ _ v5 => b.length - (intOf v5).toNat)
  case atStart => exact ⟨0, 0, 0, rfl, rfl, rfl, Nat.zero_le _, ⟨rfl⟩, ⟨rfl⟩⟩
  case round =>
    obtain ⟨i, a, c, rfl, rfl, rfl, hi, HA, HC⟩ := hrel
    have ha : a ≤ 2550000 := by
      have h1 := wa_le (b.take i); rw [← HA.out, List.length_take] at h1; omega
    have hc : c ≤ 25500000000 := by
      have h1 := wbn_le (b.take i) b.length
      rw [← HC.out] at h1
      have h2 : b.length * 255 * (b.take i).length ≤ 10000 * 255 * 10000 := Nat.mul_le_mul (Nat.mul_le_mul_right _ hl) (by rw [List.length_take]; omega)
      exact Nat.le_trans h1 (Nat.le_trans h2 (by decide))
    by_cases hil : i < b.length
    · have hiI : (i : Int) < (b.length : Int) := by omega
      obtain ⟨x, hx⟩ : ∃ x, b[i]? = some x := ⟨_, List.getElem?_eq_getElem hil⟩
      have hx1 := x.toNat_lt
      have hS := wa_take b i x hx
      have hT := wbn_take b b.length i x hx
      obtain ⟨m, hm⟩ : ∃ m : Nat, (b.length - i) * x.toNat = m := ⟨_, rfl⟩
      have hm1 : m ≤ 2550000 := by rw [← hm]; exact Nat.le_trans (Nat.mul_le_mul (show b.length - i ≤ 10000 by omega) (show x.toNat ≤ 255 by omega)) (by decide)
      have hmI : ((b.length : Int) - (i : Int)) * (x.toNat : Int) = (m : Int) := by rw [← hm]; rw [Int.natCast_mul, Int.natCast_sub (show i ≤ b.length by omega)]
      rw [← HA.out] at hS
      rw [hm, ← HC.out] at hT
      have HST := Aside0.mk hS; have HTT := Aside0.mk hT; have HX := Aside0.mk hx
      clear hS hT hm hx
      go_wp2
      go_round
      case rel =>
        have hw : wrap64 (x.toNat : Int) = (x.toNat : Int) := wrap64_in _ (by omega)
        have hs : (bstr b).size = b.length := bstr_size b
        have e1 : wrap64 ((a : Int) + (x.toNat : Int)) = ((a + x.toNat : Nat) : Int) := by rw [wrap64_in _ (by omega)]; rfl
        have e2 : wrap64 ((c : Int) + wrap64 (m : Int)) = ((c + m : Nat) : Int) := by
          rw [wrap64_in (m : Int) (by omega), wrap64_in _ (by omega)]; rfl
        refine ⟨i + 1, a + x.toNat, c + m, ?_, ?_, by go_num, by omega, ⟨HST.out.symm⟩, ⟨HTT.out.symm⟩⟩
        · simp only [bstr_get b i x HX.out, hw, e1]
        · simp only [bstr_get b i x HX.out, hw, hmI, e2]
      case measure => simp [intOf]; omega
    · have hiI : ¬ (i : Int) < (b.length : Int) := by omega
      obtain rfl : i = b.length := by omega
      have hA := HA.out; have hC := HC.out
      clear ha hc
      rw [List.take_length] at hA hC
      rw [wbn_all] at hC
      have H1 := Aside0.mk hA; have H2 := Aside0.mk hC
      clear hA hC
      go_wp2
      go_ret
      refine ⟨?_, rfl⟩
      unfold weak
      rw [← H1.out, ← H2.out]
      exact congrArg (fun z => Ending.returned (.int .i64 z)) (show (c : Int) % 65536 * 65536 + (a : Int) % 65536 = ((c % 65536 * 65536 + a % 65536 : Nat) : Int) by omega)
end Go.Proofs.Ytinjkebhamhenaa.Wk
