/- Signature.Bytes: walked. -/
import Derived.Test.YtnfneokmiopieaaDoorSpecLaw6
import Derived.Test.YtnfneokmiopieaaDoorChk
set_option linter.unusedVariables false
set_option linter.unusedSimpArgs false
namespace Go.Proofs.YtnfneokmiopieaaDoor.Blk
open Go.RowKit Go.IntWalk Go.Proofs.YtnfneokmiopieaaDoorW.PrintWords Go.Proofs.YtnfneokmiopieaaDoor.B Go.Proofs.YtnfneokmiopieaaDoor.PB Go.Proofs.YtnfneokmiopieaaDoor.SWeak Go.Proofs.YtnfneokmiopieaaDoor.Bk Go.Proofs.YtnfneokmiopieaaDoor.SBlk Go.Proofs.YtnfneokmiopieaaDoor.SCode

/-- A row of bytes that was begun behind w0, which stays as it was. -/
structure On (w0 w : World) (v : Value) (xs : List UInt8) : Prop where
  own : OwB w v xs
  new : ∀ q, v.ownBlock = some q → w0.heap.size ≤ q
  fr : Fr No w0 w
theorem On.nil {w0 w : World} (h : Fr No w0 w) : On w0 w (.slice none 0 0) [] := ⟨Ow.nil _ _ _, fun q hq => (by cases hq), h⟩
theorem On.no {w0 w w' : World} {v : Value} {xs : List UInt8} (h : On w0 w v xs) (k : Fr No w w') : On w0 w' v xs := ⟨h.own.no k, h.new, h.fr.none k⟩
theorem On.step {w0 w w' : World} {v v' : Value} {xs ys : List UInt8} (h : On w0 w v xs) (ho : OwB w' v' ys) (k : Fr (blk v) w w') (ha : At w v v') : On w0 w' v' ys :=
  ⟨ho, fun q hq => by
    rcases ha with h9 | ⟨q', h9, h10⟩
    · exact h.new q (h9 ▸ hq)
    · rw [hq] at h9; injection h9 with h9; have := h.fr.size; omega, h.fr.trans k (fun q hq hb => absurd (h.new q hb) (by omega))⟩
theorem On.back {w0 w1 w : World} {v : Value} {xs : List UInt8} (h : On w1 w v xs) (k : Fr No w0 w1) : On w0 w v xs := ⟨h.own, fun q hq => by have := h.new q hq; have := k.size; omega, k.none h.fr⟩
end Go.Proofs.YtnfneokmiopieaaDoor.Blk
