/- SHA-256 as the document's answer reckons it: words in numbers of 64 bits. -/
import Derived.Test.YtnfneokmiopieaaDoorShaR
import Derived.Test.YtnfneokmiopieaaDoorShaO
import Derived.Test.YtnfneokmiopieaaDoorCopy
import Derived.Test.YtnfneokmiopieaaDoorRowS
set_option linter.unusedVariables false
set_option linter.unusedSimpArgs false
namespace Go.Proofs.YtnfneokmiopieaaDoor.Sha
open Go.RowKit Go.Proofs.YtnfneokmiopieaaDoorW.PrintWords Go.Proofs.YtnfneokmiopieaaDoor.B Go.Proofs.YtnfneokmiopieaaDoor.PB

abbrev vw (x : UInt32) : Value := .int .u64 (x.toNat : Int)
def w64 : Fl UInt32 := Fl.of vw (fun _ => rfl)
theorem w64_cells (xs : List UInt32) : w64.cells xs = xs.map vw := Fl.of_cells _ _ _
theorem infoU64 : (Tryd.prog.info? 80).map (fun i => (i.zero, i.size, i.bytes)) = some (some (.int .u64 0), 1, 8) := by kernel_rfl
/-- Words in a row of their own. -/
def Wq (w : World) (g : Nat) (xs : List UInt32) : Prop := w.heap[g]? = some (.cells (xs.map vw).toArray 80 (0, 0))
section
variable {w w' : World} {g : Nat} {xs : List UInt32}
theorem Wq.cell (h : Wq w g xs) (i : Nat) (hi : i < xs.length) : w.cell? ⟨g, i, none⟩ = some (vw (xs.getD i 0)) := by
  rw [blk_cell h]
  simp [hi]
theorem Wq.frozen (h : Wq w g xs) (i : Nat) : w.frozen? ⟨g, i, none⟩ = false := blk_frozen h i
theorem Wq.fr {S : Nat → Prop} (h : Wq w g xs) (k : Fr S w w') (hs : ¬ S g) : Wq w' g xs := k.heap h hs
theorem Wq.no (h : Wq w g xs) (k : Fr No w w') : Wq w' g xs := k.heap h id
theorem Wq.lt (h : Wq w g xs) : g < w.heap.size := blk_lt h
theorem Wq.set (h : Wq w g xs) (i : Nat) (x : UInt32) : Wq (w.setCell ⟨g, i, none⟩ (vw x)) g (xs.set i x) := by
  have := blk_set h i (vw x)
  unfold Wq
  rw [this]
  simp
theorem Wq.rd (h : Wq w g xs) (hm : xs.length ≤ maxLen) : Rd w64 w (.slice (some ⟨g, 0, none⟩) xs.length xs.length) xs :=
  ⟨_, _, rfl, Nat.le_refl _, hm, fun _ => ⟨_, rfl, fun i u hu => by
    rw [add_plain, blk_cell h]
    rw [w64_cells] at hu
    simpa using hu⟩⟩
end
theorem wq_new (W : World) (g : Nat) (hg : W.heap.size = g) (xs : List UInt32) : Wq (W.alloc (.cells (xs.map vw).toArray 80)) g xs := by
  subst hg; exact heap_alloc_new W _
/-- A literal of constants in a row of its own. -/
theorem stepBS {ops : Array Oper} {rest : List Oper} {o : Oper} {a : Act} {Q : Exit → Act → World → Prop} {W : World} (v : Value) (W' : World) (ty : TypeId) (n : Nat) (parts : Array (Nat × Operand)) (hgd : o.guard = none) (ho : o.op = .buildSlice ty n parts)
    (hr : (execOp a.eval o).run Tryd.prog W = .ok (.value v) W') (h : wpList Tryd.prog ops Q rest (a.put o.dst v) W') : wpList Tryd.prog ops Q (o :: rest) a W := by
  refine wpList_plain hgd fun K hK => ?_
  unfold Oper.wp
  rw [hr]
  exact hK _ _ h
set_option maxHeartbeats 4000000 in
set_option maxRecDepth 100000 in
theorem parts_calls (w : World) : Calls Tryd.prog 31 #[] w fun e w' => ∃ g, e = .returned (.slice (some ⟨g, 0, none⟩) 64 64) ∧ w.heap.size ≤ g ∧ Wq w' g K ∧ Fr No w w' := by
  go_enter Tryd.func31, Tryd.ntmps31
  go_wp2_with (refine stepBS (.slice (some ⟨w.heap.size, 0, none⟩) 64 64) (w.alloc (.cells (K.map vw).toArray 80)) _ _ _ rfl rfl (by kernel_rfl) ?_)
  go_ret
  exact ⟨_, rfl, Nat.le_refl _, wq_new w _ rfl K, (Fr.refl _ _).alloc _⟩

set_option maxRecDepth 100000 in
theorem mk64 (W : World) : (Instr.makeSlice 81 (.int .i64 64) (.int .i64 64)).run Tryd.prog W = .ok (.slice (some ⟨W.heap.size, 0, none⟩) 64 64) (W.alloc (.cells ((List.replicate 64 (0 : UInt32)).map vw).toArray 80)) := by
  kernel_rfl
/-! ### the arithmetic -/
theorem x_or (x y : UInt32) : bits .or .u64 (x.toNat : Int) (y.toNat : Int) = ((x ||| y).toNat : Int) := by
  rw [(bits_u64 _ _ (Nat.lt_trans (u32_lt x) (by decide)) (Nat.lt_trans (u32_lt y) (by decide))).2.1, UInt32.toNat_or]
theorem x_and (x y : UInt32) : bits .and .u64 (x.toNat : Int) (y.toNat : Int) = ((x &&& y).toNat : Int) := by
  rw [(bits_u64 _ _ (Nat.lt_trans (u32_lt x) (by decide)) (Nat.lt_trans (u32_lt y) (by decide))).1, UInt32.toNat_and]
theorem x_xor (x y : UInt32) : bits .xor .u64 (x.toNat : Int) (y.toNat : Int) = ((x ^^^ y).toNat : Int) := by
  rw [(bits_u64 _ _ (Nat.lt_trans (u32_lt x) (by decide)) (Nat.lt_trans (u32_lt y) (by decide))).2.2, UInt32.toNat_xor]
/-- The first c bytes of a word. -/
def pw (b : List UInt8) (i : Nat) : Nat → UInt32
  | 0 => 0
  | c + 1 => pw b i c * 256 + (b.getD (4 * i + c) 0).toUInt32
theorem or_add (a b k : Nat) (h : b < 2 ^ k) : a * 2 ^ k ||| b = a * 2 ^ k + b := by
  rw [← Nat.shiftLeft_eq, Nat.shiftLeft_add_eq_or_of_lt h]
theorem word_nat (x0 x1 x2 x3 : UInt8) : ((x0.toUInt32 <<< 24) ||| (x1.toUInt32 <<< 16) ||| (x2.toUInt32 <<< 8) ||| x3.toUInt32).toNat = ((x0.toNat * 256 + x1.toNat) * 256 + x2.toNat) * 256 + x3.toNat := by
  have h0 := x0.toNat_lt; have h1 := x1.toNat_lt; have h2 := x2.toNat_lt; have h3 := x3.toNat_lt
  rw [UInt32.toNat_or, UInt32.toNat_or, UInt32.toNat_or, UInt32.toNat_shiftLeft, UInt32.toNat_shiftLeft, UInt32.toNat_shiftLeft]
  simp only [UInt8.toNat_toUInt32]
  rw [show (24 : UInt32).toNat % 32 = 24 from rfl, show (16 : UInt32).toNat % 32 = 16 from rfl, show (8 : UInt32).toNat % 32 = 8 from rfl, Nat.shiftLeft_eq, Nat.shiftLeft_eq, Nat.shiftLeft_eq,
    Nat.mod_eq_of_lt (by omega), Nat.mod_eq_of_lt (by omega), Nat.mod_eq_of_lt (by omega)]
  have e1 : x0.toNat * 2 ^ 24 ||| x1.toNat * 2 ^ 16 = x0.toNat * 2 ^ 24 + x1.toNat * 2 ^ 16 := or_add _ _ 24 (by omega)
  rw [e1]
  have e2 : (x0.toNat * 2 ^ 24 + x1.toNat * 2 ^ 16) ||| x2.toNat * 2 ^ 8 = x0.toNat * 2 ^ 24 + x1.toNat * 2 ^ 16 + x2.toNat * 2 ^ 8 := by
    have := or_add (x0.toNat * 2 ^ 8 + x1.toNat) (x2.toNat * 2 ^ 8) 16 (by omega)
    rw [show (x0.toNat * 2 ^ 8 + x1.toNat) * 2 ^ 16 = x0.toNat * 2 ^ 24 + x1.toNat * 2 ^ 16 by omega] at this
    exact this
  rw [e2]
  have e3 : (x0.toNat * 2 ^ 24 + x1.toNat * 2 ^ 16 + x2.toNat * 2 ^ 8) ||| x3.toNat = x0.toNat * 2 ^ 24 + x1.toNat * 2 ^ 16 + x2.toNat * 2 ^ 8 + x3.toNat := by
    have := or_add (x0.toNat * 2 ^ 16 + x1.toNat * 2 ^ 8 + x2.toNat) x3.toNat 8 (by omega)
    rw [show (x0.toNat * 2 ^ 16 + x1.toNat * 2 ^ 8 + x2.toNat) * 2 ^ 8 = x0.toNat * 2 ^ 24 + x1.toNat * 2 ^ 16 + x2.toNat * 2 ^ 8 by omega] at this
    exact this
  rw [e3]
  omega
theorem pw_end (b : List UInt8) (i : Nat) : pw b i 4 = word b i := by
  apply UInt32.toNat_inj.1
  rw [word, word_nat]
  have h0 := (b.getD (4 * i) 0).toNat_lt; have h1 := (b.getD (4 * i + 1) 0).toNat_lt; have h2 := (b.getD (4 * i + 2) 0).toNat_lt; have h3 := (b.getD (4 * i + 3) 0).toNat_lt
  simp only [pw, UInt32.toNat_add, UInt32.toNat_mul, UInt8.toNat_toUInt32, Nat.add_zero]
  rw [show (0 : UInt32).toNat = 0 from rfl, show (256 : UInt32).toNat = 256 from rfl]
  omega
/-- Fewer than c + 1 bytes are small. -/
theorem pw_lt (b : List UInt8) (i : Nat) : ∀ c, c ≤ 4 → (pw b i c).toNat < 256 ^ c ∧ (c < 4 → (pw b i (c + 1)).toNat = (pw b i c).toNat * 256 + (b.getD (4 * i + c) 0).toNat) := by
  intro c hc
  induction c with
  | zero =>
    refine ⟨by show (0 : UInt32).toNat < 1; decide, fun _ => ?_⟩
    have h0 := (b.getD (4 * i + 0) 0).toNat_lt
    simp only [pw, UInt32.toNat_add, UInt32.toNat_mul, UInt8.toNat_toUInt32]
    rw [show (0 : UInt32).toNat = 0 from rfl, show (256 : UInt32).toNat = 256 from rfl]
    omega
  | succ c ih =>
    obtain ⟨h1, h2⟩ := ih (by omega)
    have h3 := h2 (by omega)
    have h0 := (b.getD (4 * i + c) 0).toNat_lt
    have hp : (pw b i (c + 1)).toNat < 256 ^ (c + 1) := by rw [h3, Nat.pow_succ]; omega
    refine ⟨hp, fun hc4 => ?_⟩
    have h5 := (b.getD (4 * i + (c + 1)) 0).toNat_lt
    have hle : 256 ^ (c + 1) ≤ 256 ^ 3 := Nat.pow_le_pow_right (by decide) (by omega)
    have e : pw b i (c + 1 + 1) = pw b i (c + 1) * 256 + (b.getD (4 * i + (c + 1)) 0).toUInt32 := rfl
    rw [e, UInt32.toNat_add, UInt32.toNat_mul, UInt8.toNat_toUInt32, show (256 : UInt32).toNat = 256 from rfl]
    have : (256 : Nat) ^ 3 = 16777216 := by decide
    omega
theorem u64_small (n : Nat) (h : n < 18446744073709551616) : IntKind.u64.wrap (n : Int) = (n : Int) := wraps_u64 _ (Int.natCast_nonneg _) (by exact_mod_cast h)
theorem tmod32 (n : Nat) : ((n : Int)).tmod 4294967296 = ((n % 4294967296 : Nat) : Int) := rfl
theorem x_shr (x : UInt32) (k : Nat) (hk : k < 32) : IntKind.u64.wrap ((x.toNat : Int) / ((2 ^ k : Nat) : Int)) = ((x >>> UInt32.ofNat k).toNat : Int) := by
  rw [f_shr x k hk, u64_small _ (Nat.lt_trans (u32_lt _) (by decide))]
theorem sched64_form (v16 v15 v7 v2 : UInt32) : (IntKind.u64.wrap (IntKind.u64.wrap (IntKind.u64.wrap ((v16.toNat : Int) + bits .xor .u64 (bits .xor .u64 ((rotr v15 7).toNat : Int) ((rotr v15 18).toNat : Int)) (IntKind.u64.wrap ((v15.toNat : Int) / 8))) + (v7.toNat : Int)) +
    bits .xor .u64 (bits .xor .u64 ((rotr v2 17).toNat : Int) ((rotr v2 19).toNat : Int)) (IntKind.u64.wrap ((v2.toNat : Int) / 1024)))).tmod 4294967296 = ((v16 + s0 v15 + v7 + s1 v2).toNat : Int) := by
  have h3 := x_shr v15 3 (by decide)
  have h10 := x_shr v2 10 (by decide)
  simp only [Nat.reducePow, Int.cast_ofNat_Int] at h3 h10
  rw [h3, h10, x_xor, x_xor, x_xor, x_xor]
  have e0 : rotr v15 7 ^^^ rotr v15 18 ^^^ v15 >>> UInt32.ofNat 3 = s0 v15 := rfl
  have e1 : rotr v2 17 ^^^ rotr v2 19 ^^^ v2 >>> UInt32.ofNat 10 = s1 v2 := rfl
  rw [e0, e1]
  have a1 := u32_lt v16; have a2 := u32_lt (s0 v15); have a3 := u32_lt v7; have a4 := u32_lt (s1 v2)
  rw [← Int.natCast_add, u64_small _ (by omega), ← Int.natCast_add, u64_small _ (by omega), ← Int.natCast_add, u64_small _ (by omega), tmod32, UInt32.toNat_add, UInt32.toNat_add, UInt32.toNat_add]
  omega
theorem bytes_form (p x : Nat) (hp : p < 16777216) (hx : x < 256) : IntKind.u64.wrap (IntKind.u64.wrap ((p : Int) * 256) + IntKind.u64.wrap (x : Int)) = ((p * 256 + x : Nat) : Int) := by
  rw [show (p : Int) * 256 = ((p * 256 : Nat) : Int) by omega, u64_small _ (by omega), u64_small x (by omega), ← Int.natCast_add, u64_small _ (by omega)]
theorem choose_form (e f g : UInt32) : bits .or .u64 (bits .and .u64 (e.toNat : Int) (f.toNat : Int)) (bits .and .u64 (IntKind.u64.wrap (IntKind.u64.wrap 4294967295 - (e.toNat : Int))) (g.toNat : Int)) = ((ch e f g).toNat : Int) := by
  have he := u32_lt e
  have h1 : IntKind.u64.wrap 4294967295 = ((4294967295 : Nat) : Int) := u64_small 4294967295 (by decide)
  rw [h1, show ((4294967295 : Nat) : Int) - (e.toNat : Int) = ((4294967295 - e.toNat : Nat) : Int) by omega, u64_small _ (by omega), ← not_nat, x_and, x_and, x_or, ch_or]
theorem most_form (a b c : UInt32) : bits .or .u64 (bits .or .u64 (bits .and .u64 (a.toNat : Int) (b.toNat : Int)) (bits .and .u64 (a.toNat : Int) (c.toNat : Int))) (bits .and .u64 (b.toNat : Int) (c.toNat : Int)) = ((maj a b c).toNat : Int) := by
  rw [x_and, x_and, x_and, x_or, x_or, maj_or]
theorem one_form (s : St) (k x : UInt32) : ∃ N : Nat, IntKind.u64.wrap (IntKind.u64.wrap (IntKind.u64.wrap (IntKind.u64.wrap ((s.h.toNat : Int) + bits .xor .u64 (bits .xor .u64 ((rotr s.e 6).toNat : Int) ((rotr s.e 11).toNat : Int)) ((rotr s.e 25).toNat : Int)) + ((ch s.e s.f s.g).toNat : Int)) + (k.toNat : Int)) + (x.toNat : Int)) = (N : Int) ∧
    N % 4294967296 = (r1 s k x).toNat ∧ N < 34359738368 := by
  rw [x_xor, x_xor]
  have e1 : rotr s.e 6 ^^^ rotr s.e 11 ^^^ rotr s.e 25 = S1 s.e := rfl
  rw [e1]
  have a1 := u32_lt s.h; have a2 := u32_lt (S1 s.e); have a3 := u32_lt (ch s.e s.f s.g); have a4 := u32_lt k; have a5 := u32_lt x
  rw [← Int.natCast_add, u64_small _ (by omega), ← Int.natCast_add, u64_small _ (by omega), ← Int.natCast_add, u64_small _ (by omega), ← Int.natCast_add, u64_small _ (by omega)]
  refine ⟨_, rfl, ?_, by omega⟩
  rw [r1, UInt32.toNat_add, UInt32.toNat_add, UInt32.toNat_add, UInt32.toNat_add]
  omega
theorem two_form (s : St) : ∃ N : Nat, IntKind.u64.wrap (bits .xor .u64 (bits .xor .u64 ((rotr s.a 2).toNat : Int) ((rotr s.a 13).toNat : Int)) ((rotr s.a 22).toNat : Int) + ((maj s.a s.b s.c).toNat : Int)) = (N : Int) ∧ N % 4294967296 = (r2 s).toNat ∧ N < 17179869184 := by
  rw [x_xor, x_xor]
  have e1 : rotr s.a 2 ^^^ rotr s.a 13 ^^^ rotr s.a 22 = S0 s.a := rfl
  rw [e1]
  have a1 := u32_lt (S0 s.a); have a2 := u32_lt (maj s.a s.b s.c)
  rw [← Int.natCast_add, u64_small _ (by omega)]
  refine ⟨_, rfl, ?_, by omega⟩
  rw [r2, UInt32.toNat_add]
theorem sum_form (a b : Nat) (x y : UInt32) (ha : a % 4294967296 = x.toNat) (hb : b % 4294967296 = y.toNat) (la : a < 34359738368) (lb : b < 34359738368) : (IntKind.u64.wrap ((a : Int) + (b : Int))).tmod 4294967296 = ((x + y).toNat : Int) := by
  rw [← Int.natCast_add, u64_small _ (by omega), tmod32, UInt32.toNat_add]
  omega
theorem byte_form2 (x : UInt32) (k : Nat) (hk : k < 32) : ((x.toNat : Int) / 2 ^ k).tmod 256 % 256 = (((x >>> UInt32.ofNat k).toUInt8).toNat : Int) := by
  have h := f_shr x k hk
  have e : ((2 ^ k : Nat) : Int) = (2 : Int) ^ k := by simp
  rw [e] at h
  rw [h, UInt32.toNat_toUInt8]
  show (((x >>> UInt32.ofNat k).toNat % 256 : Nat) : Int) % 256 = _
  omega
theorem word_mod (x : UInt32) : x.toNat % 4294967296 = x.toNat := Nat.mod_eq_of_lt (u32_lt x)
end Go.Proofs.YtnfneokmiopieaaDoor.Sha
