/- Package weak, and the document's weak sum: walked. block.Count, the document's Count and Piece, Span: walked. -/
import Derived.Test.YtanbddaecojijaaDoorSpecWeak
import Derived.Test.YtanbddaecojijaaDoorLd
import Derived.Test.YtanbddaecojijaaDoorSpecBlk
import Derived.Test.YtanbddaecojijaaDoorRegion
set_option linter.unusedVariables false
set_option linter.unusedSimpArgs false
namespace Go.Proofs.YtanbddaecojijaaDoor.Wk
open Go.RowKit Go.IntWalk Go.Proofs.YtanbddaecojijaaDoorW.PrintWords Go.Proofs.YtanbddaecojijaaDoor.B Go.Proofs.YtanbddaecojijaaDoor.PB Go.Proofs.YtanbddaecojijaaDoor.SWeak

abbrev sc (l : List UInt8) : Array Value := #[.int .u32 ((wa l % 65536 : Nat) : Int), .int .u32 ((wb l % 65536 : Nat) : Int), .int .u32 (l.length : Int)]
abbrev sv (l : List UInt8) : Value := .agg (sc l)
theorem and_mask (n : Nat) (h : n < 4294967296) : bits .and .u32 (n : Int) 65535 = ((n % 65536 : Nat) : Int) := by
  have h1 : (BitVec.ofInt 32 (n : Int)).toNat = n := by rw [BitVec.ofInt_natCast, BitVec.toNat_ofNat]; exact Nat.mod_eq_of_lt (by omega)
  have h2 : (BitVec.ofInt 32 65535).toNat = 65535 := by decide
  show IntKind.wrap .u32 ((BitVec.ofInt 32 (n : Int) &&& BitVec.ofInt 32 65535).toNat : Int) = _
  rw [BitVec.toNat_and, h1, h2, show (65535 : Nat) = 2 ^ 16 - 1 from rfl, Nat.and_two_pow_sub_one_eq_mod, IntKind.wrap_u32]
  omega
theorem or_shift (a b : Nat) (ha : a < 65536) (hb : b < 65536) : bits .or .u32 ((b : Int) * 65536 % 4294967296) (a : Int) = ((b * 65536 + a : Nat) : Int) := by
  have e : ((b : Int) * 65536 % 4294967296) = ((b * 65536 : Nat) : Int) := by omega
  have h1 : (BitVec.ofInt 32 ((b * 65536 : Nat) : Int)).toNat = b * 65536 := by rw [BitVec.ofInt_natCast, BitVec.toNat_ofNat]; exact Nat.mod_eq_of_lt (by omega)
  have h2 : (BitVec.ofInt 32 (a : Int)).toNat = a := by rw [BitVec.ofInt_natCast, BitVec.toNat_ofNat]; exact Nat.mod_eq_of_lt (by omega)
  rw [e]
  show IntKind.wrap .u32 ((BitVec.ofInt 32 ((b * 65536 : Nat) : Int) ||| BitVec.ofInt 32 (a : Int)).toNat : Int) = _
  rw [BitVec.toNat_or, h1, h2, show b * 65536 = 2 ^ 16 * b by omega, ← Nat.two_pow_add_eq_or_of_lt (by omega), IntKind.wrap_u32]
  omega
theorem in_a (l : List UInt8) (x : UInt8) : bits .and .u32 (((wa l : Nat) : Int) % 65536 + (x.toNat : Int)) 65535 = ((wa (l ++ [x]) % 65536 : Nat) : Int) := by
  have hx := x.toNat_lt
  rw [wa_snoc, show ((wa l : Nat) : Int) % 65536 + (x.toNat : Int) = ((wa l % 65536 + x.toNat : Nat) : Int) by omega, and_mask _ (by omega)]
  omega
theorem in_b (l : List UInt8) (x : UInt8) : bits .and .u32 (((wb l : Nat) : Int) % 65536 + ((wa (l ++ [x]) % 65536 : Nat) : Int)) 65535 = ((wb (l ++ [x]) % 65536 : Nat) : Int) := by
  rw [wb_snoc, show ((wb l : Nat) : Int) % 65536 + ((wa (l ++ [x]) % 65536 : Nat) : Int) = ((wb l % 65536 + wa (l ++ [x]) % 65536 : Nat) : Int) by omega, and_mask _ (by omega)]
  omega

set_option maxHeartbeats 1000000 in
set_option maxRecDepth 100000 in
theorem in_calls (l : List UInt8) (x : UInt8) (w : World) (hl : l.length < 4294967295) : Calls Tryd.prog 59 #[sv l, vu8 x] w fun e w' => e = .returned (sv (l ++ [x])) ∧ Fr No w w' := by
  have hA := in_a l x
  have hB := in_b l x
  have hx := x.toNat_lt
  have e1 : (((wa l : Nat) : Int) % 65536 + (x.toNat : Int)) % 4294967296 = ((wa l : Nat) : Int) % 65536 + (x.toNat : Int) := by omega
  have e2 : (((wb l : Nat) : Int) % 65536 + ((wa (l ++ [x]) % 65536 : Nat) : Int)) % 4294967296 = ((wb l : Nat) : Int) % 65536 + ((wa (l ++ [x]) % 65536 : Nat) : Int) := by omega
  have HA := Aside0.mk hA; have HB := Aside0.mk hB; have HE1 := Aside0.mk e1; have HE2 := Aside0.mk e2
  clear hA hB e1 e2
  go_enter Tryd.func59, Tryd.ntmps59
  go_wp2
  simp only [HE1.out, HA.out, HE2.out, HB.out]
  (try simp only [Exit.inBlock, Exit.then]); refine bodyPost_ret (results_single (r := .cell 4 89) rfl (.cell (w.heap.size + 1) 89 #[.int .u32 ((wa (l ++ [x]) % 65536 : Nat) : Int), .int .u32 ((wb (l ++ [x]) % 65536 : Nat) : Int), .int .u32 ((l.length : Int) + 1)] (0, 0) _ rfl (heap_alloc2_new w _ _) Tryd.underlying89 rfl (by kernel_rfl) .nil)) rfl ?_
  refine ⟨?_, ((Fr.refl _ _).alloc _).alloc _⟩
  simp [sv, sc]

/-- The first byte is gone. -/
theorem out_a (l : List UInt8) (x : UInt8) : bits .and .u32 ((((wa (x :: l) : Nat) : Int) % 65536 - (x.toNat : Int)) % 4294967296) 65535 = ((wa l % 65536 : Nat) : Int) := by
  have hx := x.toNat_lt
  obtain ⟨n, hn⟩ : ∃ n : Nat, (((wa (x :: l) : Nat) : Int) % 65536 - (x.toNat : Int)) % 4294967296 = (n : Int) := ⟨((((wa (x :: l) : Nat) : Int) % 65536 - (x.toNat : Int)) % 4294967296).toNat, by omega⟩
  rw [hn, and_mask _ (by omega)]
  simp only [wa] at hn
  omega
theorem out_b (l : List UInt8) (x : UInt8) (z : Int) (hz : z = ((l.length : Int) + 1) * (x.toNat : Int)) : bits .and .u32 ((((wb (x :: l) : Nat) : Int) % 65536 - z) % 4294967296) 65535 = ((wb l % 65536 : Nat) : Int) := by
  have hb : ((wb (x :: l) : Nat) : Int) = z + ((wb l : Nat) : Int) := by rw [hz]; simp only [wb]; push_cast; rfl
  obtain ⟨n, hn⟩ : ∃ n : Nat, (((wb (x :: l) : Nat) : Int) % 65536 - z) % 4294967296 = (n : Int) := ⟨((((wb (x :: l) : Nat) : Int) % 65536 - z) % 4294967296).toNat, by omega⟩
  rw [hn, and_mask _ (by omega)]
  rw [hb] at hn
  omega
set_option maxHeartbeats 1000000 in
set_option maxRecDepth 100000 in
theorem out_calls (l : List UInt8) (x : UInt8) (w : World) (hl : l.length < 4294967295) : Calls Tryd.prog 67 #[sv (x :: l), vu8 x] w fun e w' => e = .returned (sv l) ∧ Fr No w w' := by
  have hx := x.toNat_lt
  have hA := out_a l x
  have hB := out_b l x _ rfl
  have h0 : (((x :: l).length : Int) == 0) = false := by rw [beq_eq_false_iff_ne]; simp; omega
  have hlen : ((x :: l).length : Int) = (l.length : Int) + 1 := by simp
  have HA := Aside0.mk hA; have HB := Aside0.mk hB
  clear hA hB
  unfold sv sc
  rw [hlen]
  rw [hlen] at h0
  clear hlen
  go_enter Tryd.func67, Tryd.ntmps67
  go_wp2
  simp only [HA.out, HB.out]
  (try simp only [Exit.inBlock, Exit.then]); refine bodyPost_ret (results_single (r := .cell 4 89) rfl (.cell (w.heap.size + 1) 89 #[.int .u32 ((wa l % 65536 : Nat) : Int), .int .u32 ((wb l % 65536 : Nat) : Int), .int .u32 (l.length : Int)] (0, 0) _ rfl (heap_alloc2_new w _ _) Tryd.underlying89 rfl (by kernel_rfl) .nil)) rfl ?_
  exact ⟨rfl, ((Fr.refl _ _).alloc _).alloc _⟩

set_option maxHeartbeats 1000000 in
theorem size_calls (l : List UInt8) (w : World) (hl : l.length < 4294967295) : Calls Tryd.prog 66 #[sv l] w fun e w' => e = .returned (.int .i64 (l.length : Int)) ∧ Fr No w w' := by
  go_enter Tryd.func66, Tryd.ntmps66
  go_wp2
  go_ret
  exact ⟨rfl, (Fr.refl _ _).alloc _⟩
set_option maxHeartbeats 1000000 in
theorem value_calls (l : List UInt8) (w : World) : Calls Tryd.prog 33 #[sv l] w fun e w' => e = .returned (.int .u32 ((weak l : Nat) : Int)) ∧ Fr No w w' := by
  have hO := or_shift (wa l % 65536) (wb l % 65536) (by omega) (by omega)
  have HO := Aside0.mk hO; clear hO
  go_enter Tryd.func33, Tryd.ntmps33
  go_wp2
  go_ret
  refine ⟨?_, (Fr.refl _ _).alloc _⟩
  have e : ((wb l : Nat) : Int) % 65536 * 65536 = ((wb l % 65536 : Nat) : Int) * 65536 % 4294967296 := by omega
  have e2 : ((wa l : Nat) : Int) % 65536 = ((wa l % 65536 : Nat) : Int) := by omega
  simp only [List.getD, e, e2, HO.out]
  rfl

set_option maxHeartbeats 1000000 in
set_option maxRecDepth 100000 in
theorem of_calls (v : Value) (b : List UInt8) (w : World) (hv : RdB w v b) (hl : b.length < 4294967295) : Calls Tryd.prog 32 #[v] w fun e w' => e = .returned (sv b) ∧ Fr No w w' := by
  obtain ⟨A, c, rfl, hc, hm, hcell⟩ := id hv
  have HC := Aside0.mk hcell
  clear hv hcell
  go_enter Tryd.func32, Tryd.ntmps32
  go_wp2
  go_loopw [8] (fun v8 wr => ∃ i : Nat, v8 = .int .i64 i ∧ i ≤ b.length ∧ Aside0 (wr.heap[w.heap.size + 1]? = some (.cells (sc (b.take i)) 89 (0, 0))) ∧ Aside0 (∃ cs : Array Value, wr.heap[w.heap.size]? = some (.cells cs 89 (0, 0)) ∧ cs.size = 3) ∧ Aside0 (Fr No w wr)) (fun v8 _ => b.length - (intOf v8).toNat)
  case atStart => exact ⟨0, rfl, Nat.zero_le _, ⟨heap_alloc2_new w _ _⟩, ⟨_, blk_alloc (heap_alloc_new w _) _, rfl⟩, ⟨((Fr.refl _ _).alloc _).alloc _⟩⟩
  case round =>
    obtain ⟨i, rfl, hi, HS, HR, HF⟩ := hrel
    have LD := ld_all (P := Tryd.prog) (ty := 89) HS.out Tryd.underlying89 rfl (by kernel_rfl)
    by_cases hil : i < b.length
    · have hiI : (i : Int) < (b.length : Int) := by omega
      obtain ⟨ad, rfl, hc2⟩ := HC.out (by omega)
      have k0 : wr.cell? (ad.add i) = some (vu8 b[i]) := HF.out.cell (hc2 i _ (by rw [u8_cells]; simp [hil])) id
      clear hc2
      obtain ⟨x, hx⟩ : ∃ x, b[i] = x := ⟨_, rfl⟩
      rw [hx] at k0
      have HX : Aside0 (b.take i ++ [x] = b.take (i + 1)) := ⟨by rw [← hx]; simp⟩
      have HL : Aside0 ((b.take i).length < 4294967295) := ⟨by rw [List.length_take]; omega⟩
      clear hx
      go_wp2_with (refine ldG (.tmp 3) 89 _ _ rfl rfl (LD _ (Fr.refl _ _)) (by first | rfl | (go_simp; done)) ?_)
      refine (in_calls (b.take i) x wr HL.out).mono ?_
      rintro e w1 ⟨rfl, hf⟩
      rw [HX.out]
      have k1 := hf.heap HS.out id
      have KR : Aside0 (∃ cs : Array Value, w1.heap[w.heap.size]? = some (.cells cs 89 (0, 0)) ∧ cs.size = 3) := ⟨by obtain ⟨cs, h1, h2⟩ := HR.out; exact ⟨cs, hf.heap h1 id, h2⟩⟩
      have KF := Aside0.mk (HF.out.none hf)
      clear hf k0 LD
      go_wp2_with (refine PB.stRow (.tmp 3) (.tmp 14) 89 (w.heap.size + 1) 89 _ (sc (b.take (i + 1))) rfl rfl rfl rfl k1 (by kernel_rfl) rfl (by simp [Value.oneCell']) ?_)
      go_roundw
      case rel => exact ⟨i + 1, by go_num, by omega, ⟨setRow_heap _ _ _ _ _ _ k1⟩, ⟨by
        obtain ⟨cs, h1, h2⟩ := KR.out
        exact ⟨cs, (fr_one_row _ _ _).heap h1 (fun e => by have e' : w.heap.size = w.heap.size + 1 := e; omega), h2⟩⟩, ⟨fr_setRow KF.out (.inr (by omega)) _⟩⟩
      case measure => simp [intOf]; omega
    · have hiI : ¬ (i : Int) < (b.length : Int) := by omega
      obtain rfl : i = b.length := by omega
      rw [List.take_length] at LD
      obtain ⟨cs, hr, hcs⟩ := HR.out
      go_wp2_with (first
        | (refine ldG (.tmp 3) 89 _ _ rfl rfl (LD _ (Fr.refl _ _)) (by first | rfl | (go_simp; done)) ?_)
        | (refine PB.stRow (.tmp 2) (.tmp 16) 89 w.heap.size 89 cs (sc b) rfl rfl rfl rfl hr (by kernel_rfl) hcs (by simp [Value.oneCell']) ?_))
      (try simp only [Exit.inBlock, Exit.then]); refine bodyPost_ret (results_single (r := .cell 2 89) rfl (.cell w.heap.size 89 (sc b) (0, 0) _ rfl (setRow_heap _ _ _ _ _ _ hr) Tryd.underlying89 rfl (by kernel_rfl) .nil)) rfl ?_
      exact ⟨rfl, fr_setRow HF.out (.inr (Nat.le_refl _)) _⟩

/-- The document's. -/
theorem wa_take (b : List UInt8) (i : Nat) (x : UInt8) (h : b[i]? = some x) : wa (b.take (i + 1)) = wa (b.take i) + x.toNat := by
  obtain ⟨h1, h2⟩ := List.getElem?_eq_some_iff.1 h
  rw [List.take_succ_eq_append_getElem h1, wa_snoc, h2]
/-- What the loop has of the second part: each byte so far, as often as it counts in the whole. -/
def wbn (n : Nat) : List UInt8 → Nat
  | [] => 0
  | x :: l => n * x.toNat + wbn (n - 1) l
theorem wbn_all (b : List UInt8) : wbn b.length b = wb b := by
  induction b with
  | nil => rfl
  | cons x l ih => simp only [wbn, wb, List.length_cons, Nat.add_sub_cancel, ih]
theorem wbn_snoc (x : UInt8) : ∀ (l : List UInt8) (n : Nat), wbn n (l ++ [x]) = wbn n l + (n - l.length) * x.toNat
  | [], n => by simp [wbn]
  | y :: l, n => by
    rw [List.cons_append, wbn, wbn, wbn_snoc x l (n - 1), List.length_cons, show n - 1 - l.length = n - (l.length + 1) by omega]
    omega
theorem wbn_take (b : List UInt8) (n i : Nat) (x : UInt8) (h : b[i]? = some x) : wbn n (b.take (i + 1)) = wbn n (b.take i) + (n - i) * x.toNat := by
  obtain ⟨h1, h2⟩ := List.getElem?_eq_some_iff.1 h
  rw [List.take_succ_eq_append_getElem h1, wbn_snoc, h2, List.length_take, Nat.min_eq_left (by omega)]
theorem wbn_le : ∀ (l : List UInt8) (n : Nat), wbn n l ≤ n * 255 * l.length
  | [], n => by simp [wbn]
  | y :: l, n => by
    have h1 := y.toNat_lt
    have h2 : n * y.toNat ≤ n * 255 := Nat.mul_le_mul_left _ (by omega)
    have h3 := wbn_le l (n - 1)
    have h4 : (n - 1) * 255 * l.length ≤ n * 255 * l.length := Nat.mul_le_mul_right _ (Nat.mul_le_mul_right _ (by omega))
    rw [wbn, List.length_cons, Nat.mul_succ]
    omega
theorem bstr_get (b : List UInt8) (i : Nat) (x : UInt8) (h : b[i]? = some x) (hi : i < (bstr b).size) : (bstr b)[i] = x := by
  obtain ⟨h1, h2⟩ := List.getElem?_eq_some_iff.1 h
  exact h2
end Go.Proofs.YtanbddaecojijaaDoor.Wk
namespace Go.Proofs.YtanbddaecojijaaDoor.Blk
open Go.RowKit Go.IntWalk Go.Proofs.YtanbddaecojijaaDoorW.PrintWords Go.Proofs.YtanbddaecojijaaDoor.B Go.Proofs.YtanbddaecojijaaDoor.PB Go.Proofs.YtanbddaecojijaaDoor.SWeak Go.Proofs.YtanbddaecojijaaDoor.Bk Go.Proofs.YtanbddaecojijaaDoor.SBlk
attribute [local go_sem] B.max2_int B.min2_int B.max_two B.min_two

theorem div_facts (n s : Int) (h1 : 1 ≤ s) (h2 : 0 ≤ n) (h3 : n ≤ 9223372036854775807) : 0 ≤ n / s ∧ n / s ≤ n ∧ 0 ≤ n % s ∧ n % s < s ∧ (n % s ≠ 0 → n / s + 1 ≤ 9223372036854775807) := by
  have a := Int.ediv_nonneg h2 (by omega : 0 ≤ s)
  have b := Int.ediv_le_self s h2
  have c := Int.emod_nonneg n (by omega : s ≠ 0)
  have d := Int.emod_lt_of_pos n (by omega : 0 < s)
  refine ⟨a, b, c, d, fun hne => ?_⟩
  have e := Int.mul_ediv_add_emod n s
  by_cases hs : s = 1
  · subst hs; omega
  · have : 2 * (n / s) ≤ s * (n / s) := Int.mul_le_mul_of_nonneg_right (by omega) a
    omega

set_option maxHeartbeats 1000000 in
theorem count_calls (n s : Int) (w : World) (h1 : n ≤ 9223372036854775807) (h2 : s ≤ 9223372036854775807) : Calls Tryd.prog 37 #[.int .i64 n, .int .i64 s] w fun e w' => e = .returned (.int .i64 (countI n s)) ∧ w = w' := by
  by_cases hs : s < 1
  · have e : countI n s = 0 := by unfold countI; rw [if_pos (.inl hs)]
    rw [e]
    go_enter Tryd.func37, Tryd.ntmps37
    go_wp2
    go_ret
    exact ⟨rfl, rfl⟩
  by_cases hn : n < 0
  · have e : countI n s = 0 := by unfold countI; rw [if_pos (.inr hn)]
    rw [e]
    go_enter Tryd.func37, Tryd.ntmps37
    go_wp2
    go_ret
    exact ⟨rfl, rfl⟩
  obtain ⟨q1, q2, q3, q4, q5⟩ := div_facts n s (by omega) (by omega) h1
  have hs' : ¬ s < 1 := hs
  have hn' : 0 ≤ n := by omega
  have hs1 : 1 ≤ s := by omega
  by_cases h0 : n % s = 0
  · have e : countI n s = n / s := by unfold countI; rw [if_neg (by omega), if_pos h0]
    rw [e]
    have h0I : ¬ 0 < n % s := by omega
    clear h0
    go_enter Tryd.func37, Tryd.ntmps37
    go_wp2
    go_ret
    exact ⟨rfl, rfl⟩
  · have e : countI n s = n / s + 1 := by unfold countI; rw [if_neg (by omega), if_neg h0]
    rw [e]
    have h0I : 0 < n % s := by omega
    have q6 := q5 h0
    clear h0 q5
    go_enter Tryd.func37, Tryd.ntmps37
    go_wp2
    go_ret
    exact ⟨rfl, rfl⟩

set_option maxHeartbeats 1000000 in
theorem refCount_calls (n s : Int) (w : World) (h1 : n ≤ 9223372036854775807) (h2 : s ≤ 9223372036854775807) : Calls Tryd.prog 42 #[.int .i64 n, .int .i64 s] w fun e w' => e = .returned (.int .i64 (countI n s)) ∧ w = w' := by
  by_cases hs : s < 1
  · have e : countI n s = 0 := by unfold countI; rw [if_pos (.inl hs)]
    rw [e]
    go_enter Tryd.func42, Tryd.ntmps42
    go_wp2
    go_ret
    exact ⟨rfl, rfl⟩
  by_cases hn : n < 0
  · have e : countI n s = 0 := by unfold countI; rw [if_pos (.inr hn)]
    rw [e]
    go_enter Tryd.func42, Tryd.ntmps42
    go_wp2
    go_ret
    exact ⟨rfl, rfl⟩
  obtain ⟨q1, q2, q3, q4, q5⟩ := div_facts n s (by omega) (by omega) h1
  have hs' : ¬ s < 1 := hs
  have hn' : 0 ≤ n := by omega
  have hs1 : 1 ≤ s := by omega
  by_cases h0 : n % s = 0
  · have e : countI n s = n / s := by unfold countI; rw [if_neg (by omega), if_pos h0]
    rw [e]
    have h0I : (n % s == 0) = true := by rw [h0]; rfl
    clear h0
    go_enter Tryd.func42, Tryd.ntmps42
    go_wp2
    go_ret
    exact ⟨rfl, rfl⟩
  · have e : countI n s = n / s + 1 := by unfold countI; rw [if_neg (by omega), if_neg h0]
    rw [e]
    have h0I : (n % s == 0) = false := by rw [beq_eq_false_iff_ne]; exact h0
    have q6 := q5 h0
    clear h0 q5
    go_enter Tryd.func42, Tryd.ntmps42
    go_wp2
    go_ret
    exact ⟨rfl, rfl⟩

/-- Signatures' values. -/
abbrev sgC (size cut len : Int) (v : Value) : Array Value := #[.int .i64 size, .int .i64 cut, .int .i64 len, v]
set_option maxHeartbeats 1000000 in
set_option maxRecDepth 100000 in
theorem span_out_calls (size cut len i : Int) (A : Option Addr) (n c : Nat) (w : World) (h : i < 0 ∨ (n : Int) ≤ i) : Calls Tryd.prog 29 #[.agg (sgC size cut len (.slice A n c)), .int .i64 i] w fun e w' => e = .returned (.tuple #[.int .i64 0, .int .i64 0]) ∧ Fr No w w' := by
  have hc : i < 0 ∨ (¬ i < 0 ∧ (n : Int) ≤ i) := by omega
  clear h
  rcases hc with h | ⟨h1, h2⟩
  all_goals
    go_enter Tryd.func29, Tryd.ntmps29
    go_wp2
    (try simp only [Exit.inBlock, Exit.then]); refine bodyPost_ret (results_list (rs := [.tmp 4, .tmp 5]) rfl (by simp) (.tmp (.tmp .nil))) rfl ?_
    exact ⟨rfl, (Fr.refl _ _).alloc _⟩
set_option maxHeartbeats 1000000 in
set_option maxRecDepth 100000 in
theorem span_calls (s i L : Nat) (cut : Int) (A : Option Addr) (n c : Nat) (w : World) (hi : i < n) (hL : L ≤ 9223372036854775807) (hs : s ≤ 4096) (hsL : i * s < L) : Calls Tryd.prog 29 #[.agg (sgC s cut L (.slice A n c)), .int .i64 i] w fun e w' => e = .returned (.tuple #[.int .i64 ((i * s : Nat) : Int), .int .i64 ((min s (L - i * s) : Nat) : Int)]) ∧ Fr No w w' := by
  obtain ⟨m, hm⟩ : ∃ m, i * s = m := ⟨_, rfl⟩
  have hmI : (i : Int) * (s : Int) = (m : Int) := by rw [← hm]; exact (Int.natCast_mul i s).symm
  rw [hm] at hsL ⊢
  clear hm
  obtain ⟨k, hk⟩ : ∃ k, min s (L - m) = k := ⟨_, rfl⟩
  rw [hk]
  have hkI : (if (L : Int) - (m : Int) < (s : Int) then (L : Int) - (m : Int) else (s : Int)) = (k : Int) := by split <;> omega
  have h1 : ¬ (i : Int) < 0 := by omega
  have h2 : ¬ (n : Int) ≤ (i : Int) := by omega
  have hw1 : IntKind.i64.wrap (m : Int) = (m : Int) := by rw [i64_left]; exact wrap64_in _ (by omega)
  have hw2 : IntKind.i64.wrap ((L : Int) - (m : Int)) = (L : Int) - (m : Int) := by rw [i64_left]; exact wrap64_in _ (by omega)
  have HKI := Aside0.mk hkI; have HW1 := Aside0.mk hw1; have HW2 := Aside0.mk hw2
  clear hk hkI hw1 hw2
  go_enter Tryd.func29, Tryd.ntmps29
  go_wp2
  have hw1 := HW1.out; have hw2 := HW2.out; have hkI := HKI.out
  have hb := heap_alloc_new w (.cells (sgC s cut L (.slice A n c)) 26)
  have F1 : Aside0 (Fr No w (w.alloc (.cells (sgC s cut L (.slice A n c)) 26))) := ⟨(Fr.refl _ _).alloc _⟩
  change Code.wp _ _ _ _ (w.alloc (.cells (sgC s cut L (.slice A n c)) 26))
  generalize w.alloc (.cells (sgC s cut L (.slice A n c)) 26) = w1 at hb F1 ⊢
  have c0 : w1.cell? ⟨w.heap.size, 0, Option.none⟩ = some (.int .i64 s) := by rw [blk_cell hb]; rfl
  have c2 : w1.cell? ⟨w.heap.size, 2, Option.none⟩ = some (.int .i64 L) := by rw [blk_cell hb]; rfl
  clear hb
  refine Rg.start (fun _ x => Fr No w1 x) (by kernel_rfl) (by kernel_rfl) [] [] (by kernel_rfl) (.q 0 0 (.q 1 0 (.q 2 0 (.q 3 0 (.q 4 0 (.q 5 0 (.q 6 0 (.q 7 0 (.q 8 0 (.q 9 0 (.q 10 0 (.q 11 0 (.q 12 0 (.q 13 0 (.q 14 0 (.q 15 0 (.done))))))))))))))))) (by kernel_rfl) ?_ ?_
  · exact fun _ => (Fr.refl _ _).drew
  repeat (first
    | (refine Rg.q (o := ?_) (v := ?_) ?_ ?_ ?_ ?_ ?_
       rotate_left 2
       · (simp only [List.getElem?_toArray, List.getElem?_cons_succ, List.getElem?_cons_zero]; rfl)
       · exact fun _ _ _ h => h
       · first | rfl | (go_simp; done)
       · (intro x_ hx; (try dsimp only at hx); (have q1 := hx.cell c0 id; have q2 := hx.cell c2 id); go_simp; (try rw [if_neg (by omega)]); (try rw [if_pos (by omega)]); (try go_simp); try with_reducible rfl)
       try simp only [Act.put, List.setIfInBounds_toArray, List.set_cons_zero, List.set_cons_succ])
    | (refine Rg.skip (o := ?_) ?_ ?_ ?_ ?_
       rotate_left 1
       · (simp only [List.getElem?_toArray, List.getElem?_cons_succ, List.getElem?_cons_zero]; rfl)
       · exact fun _ _ _ h => h
       · first | rfl | (go_simp; done)
       try simp only [Act.put, List.setIfInBounds_toArray, List.set_cons_zero, List.set_cons_succ]))
  refine Rg.done ?_
  go_simp
  go_wp2
  (try simp only [Exit.inBlock, Exit.then]); refine bodyPost_ret (results_list (rs := [.tmp 4, .tmp 5]) rfl (by simp) (.tmp (.tmp .nil))) rfl ?_
  exact ⟨rfl, F1.out.drew⟩

set_option maxHeartbeats 1000000 in
set_option maxRecDepth 100000 in
/-- A block's sums. -/
theorem of_calls (v : Value) (p : List UInt8) (cut : Int) (w : World) (hv : RdB w v p) (hl : p.length ≤ 100000000) (h1 : -9223372036854775808 ≤ cut) (h2 : cut ≤ 9223372036854775807) : Calls Tryd.prog 57 #[v, .int .i64 cut] w fun e w' => e = .returned (.agg (bkC .u32 (sums cut p))) ∧ Fr No w w' := by
  have HV := Aside0.mk hv
  clear hv
  go_enter Tryd.func57, Tryd.ntmps57
  go_wp2_with fail
  change Calls _ _ _ (w.alloc (.cells (bkC .u32 zBK) 101)) _
  have hz := heap_alloc_new w (.cells (bkC .u32 zBK) 101)
  have F0 : Aside0 (Fr No w (w.alloc (.cells (bkC .u32 zBK) 101))) := ⟨(Fr.refl _ _).alloc _⟩
  generalize w.alloc (.cells (bkC .u32 zBK) 101) = w0 at hz F0 ⊢
  have HZ := Aside0.mk hz
  clear hz
  refine (Wk.of_calls v p w0 (HV.out.no F0.out) (by omega)).mono ?_
  rintro e w1 ⟨rfl, hf⟩
  have F1 : Aside0 (Fr No w0 w1) := ⟨hf⟩
  clear hf
  go_wp2_with fail
  refine (Wk.value_calls p w1).mono ?_
  rintro e w2 ⟨rfl, hf⟩
  have F2 : Aside0 (Fr No w0 w2) := ⟨F1.out.none hf⟩
  clear hf
  go_wp2_with fail
  refine (Sha.cut_calls cut v p w2 ((HV.out.no F0.out).no F2.out) hl h1 h2).mono ?_
  rintro e w3 ⟨rfl, hf⟩
  have F3 : Aside0 (Fr No w0 w3) := ⟨F2.out.none hf⟩
  clear hf
  have hz3 := F3.out.heap HZ.out id
  go_wp2_with (first
    | (refine lsX rfl (ex_build (buildP (sums cut p) w3) rfl rfl) ?_)
    | (refine PB.stRow (.tmp 4) (.tmp 11) 101 w.heap.size 101 _ (bkC .u32 (sums cut p)) rfl rfl rfl rfl hz3 (by rw [bkC_size]; kernel_rfl) (by rw [bkC_size, bkC_size]) (bkC_one _ _) ?_))
  (try simp only [Exit.inBlock, Exit.then]); refine bodyPost_ret (results_single (r := .cell 4 101) rfl (.cell w.heap.size 101 (bkC .u32 (sums cut p)) (0, 0) _ rfl (setRow_heap _ _ _ _ _ _ hz3) Tryd.underlying101 rfl (by rw [bkC_size]; kernel_rfl) .nil)) rfl ?_
  exact ⟨rfl, fr_setRow (F0.out.none F3.out) (.inr (Nat.le_refl _)) _⟩
end Go.Proofs.YtanbddaecojijaaDoor.Blk
