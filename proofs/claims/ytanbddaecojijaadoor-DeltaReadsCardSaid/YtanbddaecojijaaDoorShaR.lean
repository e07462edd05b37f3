/- Rotations, as the two programs make them. -/
import Derived.Test.YtanbddaecojijaaDoorSha
import Derived.Test.YtanbddaecojijaaDoorPB
import Derived.Test.YtanbddaecojijaaDoorRegion
set_option linter.unusedVariables false
set_option linter.unusedSimpArgs false
namespace Go.Proofs.YtanbddaecojijaaDoor.Sha
open Go.RowKit Go.Proofs.YtanbddaecojijaaDoorW.PrintWords Go.Proofs.YtanbddaecojijaaDoor.B Go.Proofs.YtanbddaecojijaaDoor.PB

abbrev vu32 (x : UInt32) : Value := .int .u32 (x.toNat : Int)

theorem rotr_nat (x : UInt32) (n : Nat) (h1 : 0 < n) (h2 : n < 32) : (rotr x n).toNat = (x.toNat * 2 ^ (32 - n) % 4294967296) ||| (x.toNat / 2 ^ n) := by
  have e1 : (UInt32.ofNat n).toNat = n := by rw [UInt32.toNat_ofNat']; omega
  have e2 : (UInt32.ofNat (32 - n)).toNat = 32 - n := by rw [UInt32.toNat_ofNat']; omega
  unfold rotr
  rw [UInt32.toNat_or, UInt32.toNat_shiftRight, UInt32.toNat_shiftLeft, e1, e2, Nat.mod_eq_of_lt h2, Nat.mod_eq_of_lt (by omega : 32 - n < 32), Nat.shiftRight_eq_div_pow, Nat.shiftLeft_eq, Nat.or_comm]

theorem bits_nat3 (k : IntKind) (j : Nat) (hj : j ≤ k.bits) (hk : ∀ n : Int, 0 ≤ n → n < 2 ^ j → k.wrap n = n) (a b : Nat) (ha : a < 2 ^ j) (hb : b < 2 ^ j) :
    bits .and k a b = ((a &&& b : Nat) : Int) ∧ bits .or k a b = ((a ||| b : Nat) : Int) ∧ bits .xor k a b = ((a ^^^ b : Nat) : Int) := by
  obtain ⟨h1, h2⟩ := bits_nat k j hj hk a b ha hb
  refine ⟨h1, h2, ?_⟩
  have hp : 2 ^ j ≤ 2 ^ k.bits := Nat.pow_le_pow_right (by decide) hj
  have ha' : a % 2 ^ k.bits = a := Nat.mod_eq_of_lt (Nat.lt_of_lt_of_le ha hp)
  have hb' : b % 2 ^ k.bits = b := Nat.mod_eq_of_lt (Nat.lt_of_lt_of_le hb hp)
  have cast : ∀ n : Nat, n < 2 ^ j → ((n : Nat) : Int) < 2 ^ j := fun n h => by exact_mod_cast h
  simp only [bits, BitVec.ofInt_natCast, BitVec.toNat_xor, BitVec.toNat_ofNat, ha', hb']
  exact hk _ (Int.natCast_nonneg _) (cast _ (Nat.xor_lt_two_pow ha hb))
theorem bits_u32 (a b : Nat) (ha : a < 4294967296) (hb : b < 4294967296) : bits .and .u32 (a : Int) (b : Int) = ((a &&& b : Nat) : Int) ∧ bits .or .u32 (a : Int) (b : Int) = ((a ||| b : Nat) : Int) ∧ bits .xor .u32 (a : Int) (b : Int) = ((a ^^^ b : Nat) : Int) :=
  bits_nat3 .u32 32 (by decide) (fun n h0 h1 => by rw [IntKind.wrap_u32]; omega) a b ha hb
theorem wraps_u64 (n : Int) (h0 : 0 ≤ n) (h1 : n < 2 ^ 64) : IntKind.u64.wrap n = n := by
  simp [IntKind.wrap, IntKind.bits, IntKind.signed]; omega
theorem bits_u64 (a b : Nat) (ha : a < 2 ^ 64) (hb : b < 2 ^ 64) : bits .and .u64 (a : Int) (b : Int) = ((a &&& b : Nat) : Int) ∧ bits .or .u64 (a : Int) (b : Int) = ((a ||| b : Nat) : Int) ∧ bits .xor .u64 (a : Int) (b : Int) = ((a ^^^ b : Nat) : Int) :=
  bits_nat3 .u64 64 (by decide) wraps_u64 a b ha hb
theorem u32_lt (x : UInt32) : x.toNat < 4294967296 := x.toNat_lt

/-- How the program turns a word by n to the right. -/
theorem rotl_form (x : UInt32) (n : Nat) (h1 : 0 < n) (h2 : n < 32) : bits .or .u32 ((x.toNat : Int) * ((2 ^ (32 - n) : Nat) : Int) % 4294967296) ((x.toNat : Int) / ((2 ^ n : Nat) : Int)) = ((rotr x n).toNat : Int) := by
  have e1 : ((x.toNat : Int) * ((2 ^ (32 - n) : Nat) : Int) % 4294967296) = ((x.toNat * 2 ^ (32 - n) % 4294967296 : Nat) : Int) := by rw [← Int.natCast_mul]; rfl
  have e2 : ((x.toNat : Int) / ((2 ^ n : Nat) : Int)) = ((x.toNat / 2 ^ n : Nat) : Int) := rfl
  rw [e1, e2, (bits_u32 _ _ (Nat.mod_lt _ (by decide)) (Nat.lt_of_le_of_lt (Nat.div_le_self _ _) (u32_lt x))).2.1, rotr_nat x n h1 h2]
theorem rotl_calls (x : UInt32) (n : Nat) (h : n ∈ [7, 18, 17, 19, 6, 11, 25, 2, 13, 22]) (w : World) : Calls Tryd.prog 77 #[vu32 x, .int .i64 ((32 - n : Nat) : Int)] w fun e w' => e = .returned (vu32 (rotr x n)) ∧ w = w' := by
  have hb : ∀ m : Nat, m < 32 → bits BinOp.and .u64 ((m : Nat) : Int) 31 = ((m : Nat) : Int) := by decide
  have hn : 0 < n ∧ n < 32 := by
    simp only [List.mem_cons, List.mem_nil_iff, or_false] at h
    omega
  have key := rotl_form x n hn.1 hn.2
  have hb1 := hb (32 - n) (by omega)
  clear hb hn
  simp only [List.mem_cons, List.mem_nil_iff, or_false] at h
  rcases h with rfl | rfl | rfl | rfl | rfl | rfl | rfl | rfl | rfl | rfl
  all_goals
    simp only [Nat.reduceSub, Nat.reducePow, Int.cast_ofNat_Int] at hb1 key ⊢
    have K1 := Aside0.mk key
    clear key
    go_enter Tryd.func77, Tryd.ntmps77
    go_wp2
    go_ret
    exact ⟨congrArg (fun z => Ending.returned (Value.int .u32 z)) K1.out, rfl⟩

/-- How the document turns a word by n to the right. -/
theorem right_form (x : UInt32) (n : Nat) (h1 : 0 < n) (h2 : n < 32) : (bits .or .u64 ((x.toNat : Int) / ((2 ^ n : Nat) : Int)) (IntKind.u64.wrap ((x.toNat : Int) * ((2 ^ (32 - n) : Nat) : Int)))).tmod 4294967296 = ((rotr x n).toNat : Int) := by
  have hx := u32_lt x
  have hp : 2 ^ (32 - n) ≤ 2 ^ 31 := Nat.pow_le_pow_right (by decide) (by omega)
  have hm : x.toNat * 2 ^ (32 - n) < 2 ^ 64 := Nat.lt_of_le_of_lt (Nat.mul_le_mul (Nat.le_of_lt hx) hp) (by decide)
  have e1 : ((x.toNat : Int) * ((2 ^ (32 - n) : Nat) : Int)) = ((x.toNat * 2 ^ (32 - n) : Nat) : Int) := by rw [Int.natCast_mul]
  have e2 : ((x.toNat : Int) / ((2 ^ n : Nat) : Int)) = ((x.toNat / 2 ^ n : Nat) : Int) := rfl
  have hd : x.toNat / 2 ^ n < 4294967296 := Nat.lt_of_le_of_lt (Nat.div_le_self _ _) hx
  have hd2 : x.toNat / 2 ^ n < 2 ^ 64 := Nat.lt_trans hd (by decide)
  rw [e1, e2, wraps_u64 _ (Int.natCast_nonneg _) (by exact_mod_cast hm), (bits_u64 _ _ hd2 hm).2.1]
  have e3 : ((x.toNat / 2 ^ n ||| x.toNat * 2 ^ (32 - n) : Nat) : Int).tmod 4294967296 = (((x.toNat / 2 ^ n ||| x.toNat * 2 ^ (32 - n)) % 4294967296 : Nat) : Int) := rfl
  rw [e3, rotr_nat x n h1 h2, show (4294967296 : Nat) = 2 ^ 32 from rfl, Nat.or_mod_two_pow, Nat.mod_eq_of_lt (by exact hd), Nat.or_comm]
/-! ### what the operations on words come to -/
theorem f_or (x y : UInt32) : bits .or .u32 (x.toNat : Int) (y.toNat : Int) = ((x ||| y).toNat : Int) := by rw [(bits_u32 _ _ (u32_lt x) (u32_lt y)).2.1, UInt32.toNat_or]
theorem f_and (x y : UInt32) : bits .and .u32 (x.toNat : Int) (y.toNat : Int) = ((x &&& y).toNat : Int) := by rw [(bits_u32 _ _ (u32_lt x) (u32_lt y)).1, UInt32.toNat_and]
theorem f_xor (x y : UInt32) : bits .xor .u32 (x.toNat : Int) (y.toNat : Int) = ((x ^^^ y).toNat : Int) := by rw [(bits_u32 _ _ (u32_lt x) (u32_lt y)).2.2, UInt32.toNat_xor]
theorem f_add (x y : UInt32) : IntKind.u32.wrap ((x.toNat : Int) + (y.toNat : Int)) = ((x + y).toNat : Int) := by rw [IntKind.wrap_u32, UInt32.toNat_add]; omega
theorem f_add2 (x y : UInt32) : ((x.toNat : Int) + (y.toNat : Int)) % 4294967296 = ((x + y).toNat : Int) := by rw [UInt32.toNat_add]; omega
theorem f_byte (x : UInt8) : IntKind.u32.wrap (x.toNat : Int) = ((x.toUInt32).toNat : Int) := by
  rw [IntKind.wrap_u32, UInt8.toNat_toUInt32]
  have := x.toNat_lt
  omega
theorem f_shl (x : UInt32) (k : Nat) (hk : k < 32) : IntKind.u32.wrap ((x.toNat : Int) * ((2 ^ k : Nat) : Int)) = ((x <<< UInt32.ofNat k).toNat : Int) := by
  have e1 : (UInt32.ofNat k).toNat = k := by rw [UInt32.toNat_ofNat']; omega
  rw [IntKind.wrap_u32, UInt32.toNat_shiftLeft, e1, Nat.mod_eq_of_lt hk, Nat.shiftLeft_eq, ← Int.natCast_mul]
  rfl
theorem f_shr (x : UInt32) (k : Nat) (hk : k < 32) : (x.toNat : Int) / ((2 ^ k : Nat) : Int) = ((x >>> UInt32.ofNat k).toNat : Int) := by
  have e1 : (UInt32.ofNat k).toNat = k := by rw [UInt32.toNat_ofNat']; omega
  rw [UInt32.toNat_shiftRight, e1, Nat.mod_eq_of_lt hk, Nat.shiftRight_eq_div_pow]
  rfl
theorem word_form (x0 x1 x2 x3 : UInt8) : bits BinOp.or .u32 (bits BinOp.or .u32 (bits BinOp.or .u32 (IntKind.u32.wrap (IntKind.u32.wrap (x0.toNat : Int) * 16777216)) (IntKind.u32.wrap (IntKind.u32.wrap (x1.toNat : Int) * 65536))) (IntKind.u32.wrap (IntKind.u32.wrap (x2.toNat : Int) * 256))) (IntKind.u32.wrap (x3.toNat : Int)) =
    (((x0.toUInt32 <<< 24) ||| (x1.toUInt32 <<< 16) ||| (x2.toUInt32 <<< 8) ||| x3.toUInt32).toNat : Int) := by
  rw [f_byte, f_byte, f_byte, f_byte]
  have h24 := f_shl x0.toUInt32 24 (by decide)
  have h16 := f_shl x1.toUInt32 16 (by decide)
  have h8 := f_shl x2.toUInt32 8 (by decide)
  simp only [Nat.reducePow, Int.cast_ofNat_Int] at h24 h16 h8
  rw [h24, h16, h8, f_or, f_or, f_or]
  rfl
theorem sched_form (v16 v15 v7 v2 : UInt32) : IntKind.u32.wrap (IntKind.u32.wrap (IntKind.u32.wrap ((v16.toNat : Int) + bits .xor .u32 (bits .xor .u32 ((rotr v15 7).toNat : Int) ((rotr v15 18).toNat : Int)) ((v15.toNat : Int) / 8)) + (v7.toNat : Int)) + bits .xor .u32 (bits .xor .u32 ((rotr v2 17).toNat : Int) ((rotr v2 19).toNat : Int)) ((v2.toNat : Int) / 1024)) = ((v16 + s0 v15 + v7 + s1 v2).toNat : Int) := by
  have h3 := f_shr v15 3 (by decide)
  have h10 := f_shr v2 10 (by decide)
  simp only [Nat.reducePow, Int.cast_ofNat_Int] at h3 h10
  rw [h3, h10, f_xor, f_xor, f_xor, f_xor, f_add, f_add, f_add]
  rfl
theorem byte_form (x : UInt32) (k : Nat) (hk : k < 32) : (x.toNat : Int) / 2 ^ k % 256 = (((x >>> UInt32.ofNat k).toUInt8).toNat : Int) := by
  have h := f_shr x k hk
  have e : ((2 ^ k : Nat) : Int) = (2 : Int) ^ k := by simp
  rw [e] at h
  rw [h, UInt32.toNat_toUInt8]
  rfl
theorem f_not (x : UInt32) : bits .xor .u32 IntKind.u32.max (x.toNat : Int) = ((~~~x).toNat : Int) := by
  have e : IntKind.u32.max = ((4294967295 : UInt32).toNat : Int) := by decide
  rw [e, f_xor]
  have h : (4294967295 : UInt32) ^^^ x = ~~~x := by
    apply UInt32.toBitVec_inj.1
    rw [UInt32.toBitVec_xor, UInt32.toBitVec_not]
    exact BitVec.allOnes_xor
  rw [h]
theorem t_form (s : St) (k x : UInt32) : IntKind.u32.wrap (IntKind.u32.wrap (IntKind.u32.wrap (IntKind.u32.wrap ((s.h.toNat : Int) + bits .xor .u32 (bits .xor .u32 ((rotr s.e 6).toNat : Int) ((rotr s.e 11).toNat : Int)) ((rotr s.e 25).toNat : Int)) +
    bits .xor .u32 (bits .and .u32 (s.e.toNat : Int) (s.f.toNat : Int)) (bits .and .u32 (bits .xor .u32 IntKind.u32.max (s.e.toNat : Int)) (s.g.toNat : Int))) + (k.toNat : Int)) + (x.toNat : Int)) = ((r1 s k x).toNat : Int) := by
  rw [f_not, f_and, f_and, f_xor, f_xor, f_xor, f_add, f_add, f_add, f_add]
  rfl
theorem u_form (s : St) : IntKind.u32.wrap (bits .xor .u32 (bits .xor .u32 ((rotr s.a 2).toNat : Int) ((rotr s.a 13).toNat : Int)) ((rotr s.a 22).toNat : Int) +
    bits .xor .u32 (bits .xor .u32 (bits .and .u32 (s.a.toNat : Int) (s.b.toNat : Int)) (bits .and .u32 (s.a.toNat : Int) (s.c.toNat : Int))) (bits .and .u32 (s.b.toNat : Int) (s.c.toNat : Int))) = ((r2 s).toNat : Int) := by
  rw [f_and, f_and, f_and, f_xor, f_xor, f_xor, f_xor, f_add]
  rfl
end Go.Proofs.YtanbddaecojijaaDoor.Sha
