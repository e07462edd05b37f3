/- What the walks of the laws of feed.Feed share. -/
import Derived.Test.YtkljeafnmcmifaaDoorFeedL
import Derived.Test.YtkljeafnmcmifaaDoorSpecFeed2
set_option linter.unusedVariables false
namespace Go.Proofs.YtkljeafnmcmifaaDoor.Fee
open Go.RowKit Go.IntWalk Go.Proofs.YtkljeafnmcmifaaDoorW.PrintWords Go.Proofs.YtkljeafnmcmifaaDoor.B Go.Proofs.YtkljeafnmcmifaaDoor.PB Go.Proofs.YtkljeafnmcmifaaDoor.SCode Go.Proofs.YtkljeafnmcmifaaDoor.Frm

theorem parse_nil : parse [] = ([], 0, none) := by
  rw [parse_err (q := (0, 30)) (by decide)]
  simp
theorem gd_length (f : Gd) : f.b.length ≤ 16400 := by
  have := numI_length (f.xs.length : Int)
  have := checkE_ok f.h
  unfold Gd.b
  simp [frameB]; omega
theorem gds_length : ∀ fs : List Gd, (fs.flatMap Gd.b).length ≤ fs.length * 16400
  | [] => by simp
  | f :: fs => by
    have h1 := gd_length f
    have h2 := gds_length fs
    rw [List.flatMap_cons, List.length_append, List.length_cons]
    omega
theorem gds_snoc (fs : List Gd) (f : Gd) : (fs ++ [f]).flatMap Gd.b = fs.flatMap Gd.b ++ f.b := by simp
theorem addS_rd (P : List UInt8) : (addS [] 0 none P).rd ≤ P.length := by
  rw [addS_nil]
  have := parse_le P
  cases (parse P).2.2 <;> exact this
theorem addS_out (P : List UInt8) : (addS [] 0 none P).out.length ≤ P.length := by
  rw [addS_nil]
  have := parse_le P
  have := parse_len P
  cases (parse P).2.2 <;> simp only <;> omega
theorem addS_flat (fs : List Gd) : addS [] 0 none (fs.flatMap Gd.b) = ⟨fs.map Gd.q, [], (fs.flatMap Gd.b).length, none⟩ := by
  have h := parse_flat [] fs
  rw [List.append_nil, parse_nil] at h
  rw [addS_nil, h]
  simp
theorem addS_wrong (fs : List Gd) (y : UInt8) (hy : y.toNat < 8) : addS [] 0 none (fs.flatMap Gd.b ++ [y]) = ⟨fs.map Gd.q, [], (fs.flatMap Gd.b).length, some ((fs.flatMap Gd.b).length, 40)⟩ := by
  have h := parse_flat [y] fs
  rw [parse_bad1 y hy] at h
  rw [addS_nil, h]
  simp
/-- A row of bytes that was begun behind w0, which stays as it was. -/
structure On (w0 w : World) (v : Value) (xs : List UInt8) : Prop where
  own : OwB w v xs
  new : ∀ q, v.ownBlock = some q → w0.heap.size ≤ q
  fr : Fr No w0 w
theorem On.nil {w0 w : World} (h : Fr No w0 w) : On w0 w (.slice none 0 0) [] := ⟨Ow.nil _ _ _, fun q hq => (by cases hq), h⟩
theorem On.no {w0 w w' : World} {v : Value} {xs : List UInt8} (h : On w0 w v xs) (k : Fr No w w') : On w0 w' v xs := ⟨h.own.no k, h.new, h.fr.none k⟩
theorem On.step {w0 w w' : World} {v v' : Value} {xs ys : List UInt8} (h : On w0 w v xs) (ho : OwB w' v' ys) (k : Fr (blk v) w w') (ha : At w v v') : On w0 w' v' ys :=
  ⟨ho, fun q hq => by
    rcases ha with h9 | ⟨q', h9, h10⟩
    · exact h.new q (h9 ▸ hq)
    · rw [hq] at h9; injection h9 with h9; have := h.fr.size; omega, h.fr.trans k (fun q hq hb => absurd (h.new q hb) (by omega))⟩
theorem On.back {w0 w1 w : World} {v : Value} {xs : List UInt8} (h : On w1 w v xs) (k : Fr No w0 w1) : On w0 w v xs := ⟨h.own, fun q hq => by have := h.new q hq; have := k.size; omega, k.none h.fr⟩
end Go.Proofs.YtkljeafnmcmifaaDoor.Fee
