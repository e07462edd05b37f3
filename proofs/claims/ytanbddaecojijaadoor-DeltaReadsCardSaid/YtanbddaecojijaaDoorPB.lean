/- The words of Base at this program's types: append on []byte, string(b), []byte(s), cuts. -/
import Derived.Test.YtanbddaecojijaaDoorProg
import Derived.Test.YtanbddaecojijaaDoorBase
import Derived.WalkKit
import Derived.KernelRfl
import Derived.Deep.LoopGhost
import Derived.Deep.QuietTactic
import Derived.BigQuiet
import Derived.WideLaws
import Derived.Laws.BitsLemmas
import Derived.Outline
set_option linter.unusedVariables false
set_option linter.unusedSimpArgs false
namespace Go.Proofs.YtanbddaecojijaaDoor.PB
open Go.RowKit Go.Proofs.YtanbddaecojijaaDoorW.PrintWords Go.Proofs.YtanbddaecojijaaDoor.B

theorem infoU8 : (Tryd.prog.info? 5).map (fun i => (i.zero, i.size, i.bytes)) = some (some (.int .u8 0), 1, 1) := by kernel_rfl

abbrev OwB (w : World) (v : Value) (xs : List UInt8) : Prop := Ow u8 5 w v xs
abbrev RdB (w : World) (v : Value) (xs : List UInt8) : Prop := Rd u8 w v xs

section
variable {ops : Array Oper} {rest : List Oper} {o : Oper} {a : Act} {Q : Exit → Act → World → Prop} {W : World}
/-- append(b, x): one byte. -/
theorem apB (v : Value) (xs : List UInt8) (y : UInt8) (n : Int) (hgd : o.guard = none) (s x : Operand)
    (ho : o.op = .call { callee := .builtin .append, args := #[s, x], argTypes := #[22, 22] })
    (hs : a.eval s = v) (hx : a.eval x = .slice (some ⟨W.heap.size, 0, none⟩) 1 1) (hn : n = (y.toNat : Int)) (HO : OwB W v xs) (hl : xs.length + 1 ≤ 140737488355328)
    (h : ∀ v1 w1, OwB w1 v1 (xs ++ [y]) → Fr (blk v) W w1 → At W v v1 → OwB w1 v xs → wpList Tryd.prog ops Q rest (a.put o.dst v1) w1) :
    wpList Tryd.prog ops Q (o :: rest) a (W.alloc (.cells #[.int .u8 n] 5)) := by
  subst hn
  exact ap1 (f := u8) hgd s x _ _ (.int .u8 0) 1 ho Tryd.underlying22 infoU8 rfl Nat.one_pos Nat.one_pos v xs y _ rfl hs hx HO (by omega) h
/-- append(b, y...). -/
theorem apBs (v : Value) (xs : List UInt8) (y : Value) (ys : List UInt8) (hgd : o.guard = none) (s x : Operand)
    (ho : o.op = .call { callee := .builtin .append, args := #[s, x], argTypes := #[22, 22] })
    (hs : a.eval s = v) (hx : a.eval x = y) (HO : OwB W v xs) (HY : RdB W y ys) (hl : xs.length + ys.length ≤ 140737488355328)
    (h : ∀ v1 w1, OwB w1 v1 (xs ++ ys) → Fr (blk v) W w1 → At W v v1 → OwB w1 v xs → wpList Tryd.prog ops Q rest (a.put o.dst v1) w1) :
    wpList Tryd.prog ops Q (o :: rest) a W :=
  apN (f := u8) hgd s x _ _ (.int .u8 0) 1 ho Tryd.underlying22 infoU8 rfl Nat.one_pos Nat.one_pos v xs y ys hs hx HO HY (by omega) h
/-- append(b, y...) as one operation (a region that draws). -/
theorem opBs {a : Act} {K : Act → World → Prop} {Q : Exit → Act → World → Prop} {W : World} {o : Oper} (v : Value) (xs : List UInt8) (y : Value) (ys : List UInt8) (s x : Operand)
    (ho : o.op = .call { callee := .builtin .append, args := #[s, x], argTypes := #[22, 22] })
    (hs : a.eval s = v) (hx : a.eval x = y) (HO : OwB W v xs) (HY : RdB W y ys) (hl : xs.length + ys.length ≤ 140737488355328)
    (h : ∀ v1 w1, OwB w1 v1 (xs ++ ys) → Fr (blk v) W w1 → At W v v1 → OwB w1 v xs → K (a.put o.dst v1) w1) : Oper.wp Tryd.prog o a W K Q := by
  obtain ⟨v', w', hr, h2, h3, h4, h5⟩ := run_append (f := u8) (P := Tryd.prog) W 22 o.type 5 (.int .u8 0) 1 Tryd.underlying22 infoU8 rfl Nat.one_pos Nat.one_pos v xs HO y ys HY (by omega)
  unfold Oper.wp execOp
  simp only [ho, resolve, invoke, builtin, Sem.run_bind, Sem.run_pure, Result.andThen_ok, List.map_toArray, List.map_cons, List.map_nil, hs, hx, hr]
  exact h v' w' h2 h3 h4 h5
end

/-- A row that has grown by ys. -/
structure Gw (w : World) (v : Value) (xs : List UInt8) (w' : World) (v' : Value) (ys : List UInt8) : Prop where
  own : OwB w' v' (xs ++ ys)
  fr : Fr (blk v) w w'
  at_ : At w v v'
  old : OwB w' v xs
theorem Gw.trans {w w1 w2 : World} {v v1 v2 : Value} {xs ys zs : List UInt8} (h : Gw w v xs w1 v1 ys) (k : Gw w1 v1 (xs ++ ys) w2 v2 zs) : Gw w v xs w2 v2 (ys ++ zs) :=
  ⟨by rw [← List.append_assoc]; exact k.own, h.fr.trans k.fr (fun q hq hb => h.at_.back hb hq), h.at_.trans k.at_ h.fr.size, Ow.keep h.old h.own k.fr k.old⟩
theorem Gw.noL {w w1 w2 : World} {v v2 : Value} {xs ys : List UInt8} (h : Fr No w w1) (k : Gw w1 v xs w2 v2 ys) : Gw w v xs w2 v2 ys :=
  ⟨k.own, (h.mono (fun _ _ h => h.elim)).trans k.fr (fun _ _ h => h), k.at_.elim .inl (fun ⟨b, h1, h2⟩ => .inr ⟨b, h1, Nat.le_trans h.size h2⟩), k.old⟩
theorem Gw.noR {w w1 w2 : World} {v v1 : Value} {xs ys : List UInt8} (h : Gw w v xs w1 v1 ys) (k : Fr No w1 w2) : Gw w v xs w2 v1 ys :=
  ⟨h.own.no k, h.fr.none k, h.at_, h.old.no k⟩
/-- What was apart from it is apart from it still. -/
theorem Gw.sep {w w1 : World} {v v1 : Value} {xs ys : List UInt8} (h : Gw w v xs w1 v1 ys) {k : Nat} (hk : k < w.heap.size) (hn : ¬ blk v k) : ¬ blk v1 k := fun hb => hn (h.at_.back hb hk)

/-- []byte{}: nothing, in a block of its own. -/
theorem own_empty (W : World) : OwB (W.alloc (.cells #[] 5)) (.slice (some ⟨W.heap.size, 0, none⟩) 0 0) [] := by
  have := World.ownsRow_made (base := 0) (e := 5) (size := 1) W #[] 0 (Nat.zero_le _) (by simp) rfl
  exact this
theorem blk_new_ne (W : World) : ∀ k, k < W.heap.size → blk (.slice (some ⟨W.heap.size, 0, none⟩) 0 0) k → False := by
  intro k hk hb
  have : W.heap.size = k := by simpa [blk, Value.ownBlock] using hb
  omega
/-! ### string(b) -/
theorem nums_u8 (xs : List UInt8) : nums .u8 (xs.map fun b => (b.toNat : Int)) = xs.map vu8 := by simp [nums]
theorem Rd.ints {w : World} {A : Option Addr} {c : Nat} {xs : List UInt8} (h : RdB w (.slice A xs.length c) xs) : ReadsInt w .u8 A xs.length (xs.map fun b => (b.toNat : Int)) := by
  obtain ⟨A', c', he, hc, hm, hr⟩ := h
  injection he with e1 _ e3
  subst e1
  simp only [maxLen] at hm
  refine ⟨by simp, by omega, fun hn => ?_⟩
  obtain ⟨ad, rfl, hcell⟩ := hr hn
  refine ⟨ad, rfl, fun j hj => ?_⟩
  have := hcell j (vu8 xs[j]) (by rw [u8_cells]; simp [hj])
  simpa [List.getD, hj] using this
def bstr (xs : List UInt8) : ByteArray := ⟨xs.toArray⟩
@[go_sem] theorem bstr_toList (xs : List UInt8) : (bstr xs).toList = xs := ByteArray.toList_mk xs
@[go_sem] theorem bstr_append (xs ys : List UInt8) : bstr xs ++ bstr ys = bstr (xs ++ ys) := by
  apply ByteArray.ext
  simp [bstr]
@[go_sem] theorem bstr_size (xs : List UInt8) : (bstr xs).size = xs.length := by simp [bstr, ByteArray.size]
@[go_sem] theorem bstr_extract (xs : List UInt8) (a b : Nat) : (bstr xs).extract a b = bstr ((xs.take b).drop a) := by
  apply ByteArray.ext
  simp [bstr, List.extract_eq_take_drop, List.drop_take]
theorem bstr_eta (s : ByteArray) : s = bstr s.data.toList := by simp [bstr]
theorem bstr_inj {xs ys : List UInt8} (h : bstr xs = bstr ys) : xs = ys := by
  have := congrArg ByteArray.toList h
  rwa [bstr_toList, bstr_toList] at this
theorem strOf_u8 (xs : List UInt8) : strOfNums (xs.map fun b => (b.toNat : Int)) = bstr xs := by
  unfold strOfNums bstr
  rw [List.map_map]
  congr 2
  conv => rhs; rw [← List.map_id xs]
  exact List.map_congr_left fun x _ => by simp
theorem str_of_rd {w : World} {v : Value} {xs : List UInt8} (h : RdB w v xs) : (convert 22 9 v).run Tryd.prog w = .ok (.string (bstr xs)) w := by
  obtain ⟨A, c, rfl, _⟩ := id h
  rw [string_of_reads (n := xs.length) Tryd.underlying22 Tryd.underlying5 Tryd.underlying9 (Rd.ints h), strOf_u8]

/-- A whole number's lowest byte, as a literal has it. -/
def b8 (n : Int) : UInt8 := UInt8.ofNat n.toNat
theorem b8_nat (n : Nat) : b8 (n : Int) = UInt8.ofNat n := by simp [b8]
/-- string([]byte{..}), the literal just laid. -/
theorem str_lit (W : World) (ns : List Int) (hn : ns.length ≤ 9223372036854775807) : (convert 22 9 (.slice (some ⟨W.heap.size, 0, none⟩) ns.length ns.length)).run Tryd.prog (W.alloc (.cells (ns.map (Value.int .u8)).toArray 5)) = .ok (.string (bstr (ns.map b8))) (W.alloc (.cells (ns.map (Value.int .u8)).toArray 5)) := by
  have h : ReadsInt (W.alloc (.cells (ns.map (Value.int .u8)).toArray 5)) .u8 (some ⟨W.heap.size, 0, none⟩) ns.length ns := by
    refine ⟨rfl, hn, fun _ => ⟨_, rfl, fun j hj => ?_⟩⟩
    exact heap_new_cells W (ns.map (Value.int .u8)) 5 j _ (by simp [List.getD, hj])
  exact string_of_reads Tryd.underlying22 Tryd.underlying5 Tryd.underlying9 h
theorem str_box (W : World) (n : Int) : (convert 22 9 (.slice (some ⟨W.heap.size, 0, none⟩) 1 1)).run Tryd.prog (W.alloc (.cells #[.int .u8 n] 5)) = .ok (.string (bstr [b8 n])) (W.alloc (.cells #[.int .u8 n] 5)) := str_lit W [n] (by simp)
theorem str_box2 (W : World) (n m : Int) : (convert 22 9 (.slice (some ⟨W.heap.size, 0, none⟩) 2 2)).run Tryd.prog (W.alloc (.cells #[.int .u8 n, .int .u8 m] 5)) = .ok (.string (bstr [b8 n, b8 m])) (W.alloc (.cells #[.int .u8 n, .int .u8 m] 5)) := str_lit W [n, m] (by simp)

/-! ### errors: nil, or a Fault in a block of its own -/
def IsErr (w : World) (ev : Value) : Option (Nat × Nat) → Prop
  | none => ev = .nilIface
  | some (a, c) => ∃ b, ev = .iface 97 (.pointer (some ⟨b, 0, none⟩)) ∧ w.heap[b]? = some (.cells #[.int .i64 (a : Int), .int .i64 (c : Int)] 99 (0, 0))
theorem IsErr.fr {S : Nat → Prop} {w w' : World} {ev : Value} {e : Option (Nat × Nat)} (h : IsErr w ev e) (k : Fr S w w') (hs : ∀ b cs, w.heap[b]? = some (.cells cs 99 (0, 0)) → ¬ S b) : IsErr w' ev e := by
  cases e with
  | none => exact h
  | some q => obtain ⟨b, h1, h2⟩ := h; exact ⟨b, h1, k.heap h2 (hs _ _ h2)⟩
theorem IsErr.no {w w' : World} {ev : Value} {e : Option (Nat × Nat)} (h : IsErr w ev e) (k : Fr No w w') : IsErr w' ev e := h.fr k (fun _ _ _ => id)
end Go.Proofs.YtanbddaecojijaaDoor.PB
