/- Tokens: how they lie. The statements' plain of tokens: walked. -/
import Derived.Test.YtanbddaecojijaaDoorSpecTell
import Derived.Test.YtanbddaecojijaaDoorIx
import Derived.Laws.OwnMore
import Derived.Test.YtanbddaecojijaaDoorRegion
set_option linter.unusedVariables false
set_option linter.unusedSimpArgs false
namespace Go.Proofs.YtanbddaecojijaaDoor.Tk
open Go.RowKit Go.Proofs.YtanbddaecojijaaDoorW.PrintWords Go.Proofs.YtanbddaecojijaaDoor.B Go.Proofs.YtanbddaecojijaaDoor.PB Go.Proofs.YtanbddaecojijaaDoor.STell

/-- A cell of a row of one's own, stored. -/
theorem Ow.store {α : Type} {f : Fl α} {e : Nat} {w : World} {g c : Nat} {xs : List α} (h : Ow f e w (.slice (some ⟨g, 0, none⟩) xs.length c) xs) (j i : Nat) (x x' : α) (u : Value) (hj : xs[j]? = some x) (he : f.enc x' = (f.enc x).set i u) (hi : i < f.sz) :
    Ow f e (w.setCell ⟨g, j * f.sz + i, none⟩ u) (.slice (some ⟨g, 0, none⟩) xs.length c) (xs.set j x') := by
  obtain ⟨hl, hx⟩ := List.getElem?_eq_some_iff.1 hj
  have h1 := (World.ownsRow.stored h (j * f.sz + i) u).1
  unfold Ow
  rw [List.length_set]
  have e0 := f.cells_set xs j x hl
  rw [← hx, List.set_getElem_self, hx] at e0
  have e1 : (f.cells xs).set (j * f.sz + i) u = f.cells (xs.set j x') := by
    have hA : ((f.cells xs).take (j * f.sz)).length = j * f.sz := by
      rw [List.length_take, f.cells_length]
      exact Nat.min_eq_left (Nat.mul_le_mul_right _ (by omega))
    rw [f.cells_set xs j x' hl, he]
    conv => lhs; rw [e0]
    rw [List.append_assoc, List.set_append_right _ _ (by omega), hA, Nat.add_sub_cancel_left, List.set_append_left _ _ (by rw [f.len]; exact hi), ← List.append_assoc]
  rw [e1] at h1
  exact h1

/-- A token with its data's slice. -/
structure TV where
  f : Int
  c : Int
  A : Option Addr
  cp : Nat
  xs : List UInt8
def TV.dv (e : TV) : Value := .slice e.A e.xs.length e.cp
def TV.tok (e : TV) : Tok := (e.f, e.c, e.xs)
def fT : Fl TV := ⟨3, fun e => [.int .i64 e.f, .int .i64 e.c, e.dv], fun _ => rfl, fun e u hu => by
  rcases List.mem_cons.1 hu with rfl | hu
  · rfl
  · rcases List.mem_cons.1 hu with rfl | hu
    · rfl
    · rcases List.mem_cons.1 hu with rfl | hu
      · rfl
      · cases hu⟩
theorem infoT : (Tryd.prog.info? 117).map (fun i => (i.zero, i.size, i.bytes)) = some (some (.agg #[.int .i64 0, .int .i64 0, .slice none 0 0]), 3, 40) := by kernel_rfl
abbrev tkC (f c : Int) (d : Value) : Array Value := #[.int .i64 f, .int .i64 c, d]
/-- Tokens whose data lie apart, in blocks from n on. -/
structure Tks (w : World) (n : Nat) (vo : Value) (fs : List TV) : Prop where
  row : Ow fT 117 w vo fs
  new : ∀ q, vo.ownBlock = some q → n ≤ q
  own : ∀ e ∈ fs, OwB w e.dv e.xs ∧ ∀ q, e.dv.ownBlock = some q → n ≤ q
  ap : ∀ (i j : Nat) (a b : TV), i < j → fs[i]? = some a → fs[j]? = some b → ∀ q, a.dv.ownBlock = some q → b.dv.ownBlock ≠ some q
def Tl (w : World) (n : Nat) (vo : Value) (L : List Tok) : Prop := ∃ fs : List TV, Tks w n vo fs ∧ fs.map TV.tok = L
/-- What may be turned: blocks from n on. -/
def Up (n : Nat) : Nat → Prop := fun k => n ≤ k
theorem Tks.no {w w' : World} {n : Nat} {vo : Value} {fs : List TV} (h : Tks w n vo fs) (k : Fr No w w') : Tks w' n vo fs :=
  ⟨h.row.no k, h.new, fun e he => ⟨(h.own e he).1.no k, (h.own e he).2⟩, h.ap⟩
theorem Tl.no {w w' : World} {n : Nat} {vo : Value} {L : List Tok} (h : Tl w n vo L) (k : Fr No w w') : Tl w' n vo L := by
  obtain ⟨fs, h1, h2⟩ := h
  exact ⟨fs, h1.no k, h2⟩
theorem Tl.nil (w : World) (n : Nat) : Tl w n (.slice none 0 0) [] := ⟨[], ⟨Ow.nil _ _ _, fun q hq => (by cases hq), fun e he => (by cases he), fun i j a b _ h => by simp at h⟩, rfl⟩
theorem up_no {w0 w w' : World} {n : Nat} (h : Fr No w0 w) (k : Fr (Up n) w w') (hn : w0.heap.size ≤ n) : Fr No w0 w' :=
  h.trans k (fun q hq hb => absurd hb (by unfold Up; omega))
/-- The row's own cells: what a token is known by. -/
theorem Tks.ne {w : World} {n : Nat} {vo : Value} {fs : List TV} (h : Tks w n vo fs) : ∀ e ∈ fs, ∀ q, e.dv.ownBlock = some q → vo.ownBlock ≠ some q := fun e he q hq hb => by
  obtain ⟨cs, h1⟩ := (h.own e he).1.typed q hq
  obtain ⟨cs', h2⟩ := h.row.typed q hb
  rw [h1] at h2
  injection h2 with h2
  injection h2 with _ h2
  exact absurd h2 (by decide)
/-- A count, stored. -/
theorem Tks.count {w : World} {n g c : Nat} {p : List TV} {e : TV} (z : Int) (h : Tks w n (.slice (some ⟨g, 0, none⟩) (p ++ [e]).length c) (p ++ [e])) :
    Tks (w.setCell ⟨g, p.length * 3 + 1, none⟩ (.int .i64 z)) n (.slice (some ⟨g, 0, none⟩) (p ++ [{ e with c := z }]).length c) (p ++ [{ e with c := z }]) := by
  have hs := Ow.store h.row p.length 1 e { e with c := z } (.int .i64 z) (by simp) rfl (by decide)
  have e1 : (p ++ [e]).set p.length { e with c := z } = p ++ [{ e with c := z }] := by simp
  rw [e1] at hs
  have hk : Fr (one g) w (w.setCell ⟨g, p.length * 3 + 1, none⟩ (.int .i64 z)) := fr_one_set _ _ _ _
  have hs' : Ow fT 117 _ _ _ := hs
  rw [show fT.sz = 3 from rfl] at hs'
  refine ⟨by simpa using hs', fun q hq => h.new q hq, fun x hx => ?_, fun i j a b hij ha hb => ?_⟩
  · have key : ∀ y ∈ p ++ [e], OwB (w.setCell ⟨g, p.length * 3 + 1, none⟩ (.int .i64 z)) y.dv y.xs ∧ ∀ q, y.dv.ownBlock = some q → n ≤ q := fun y hy =>
      ⟨(h.own y hy).1.fr hk (fun q hq hb => h.ne y hy q hq (by have e' : q = g := hb; rw [e']; rfl)), (h.own y hy).2⟩
    rcases List.mem_append.1 hx with hx | hx
    · exact key x (List.mem_append_left _ hx)
    · simp at hx; subst hx; exact key e (by simp)
  · have key : ∀ (k : Nat) (y : TV), (p ++ [{ e with c := z }])[k]? = some y → ∃ y', (p ++ [e])[k]? = some y' ∧ y'.dv = y.dv := fun k y hy => by
      rcases Nat.lt_or_ge k p.length with hk | hk
      · rw [List.getElem?_append_left hk] at hy; exact ⟨y, by rw [List.getElem?_append_left hk]; exact hy, rfl⟩
      · have hl := (List.getElem?_eq_some_iff.1 hy).1
        simp at hl
        have : k = p.length := by omega
        subst this
        simp at hy; subst hy
        exact ⟨e, by simp, rfl⟩
    obtain ⟨a', ha', da⟩ := key i a ha
    obtain ⟨b', hb', db⟩ := key j b hb
    rw [← da, ← db]
    exact h.ap i j a' b' hij ha' hb'
/-- The last one's data, grown and stored. -/
theorem Tks.data {w w1 : World} {n g c : Nat} {p : List TV} {e : TV} {A1 : Option Addr} {c1 : Nat} {ys : List UInt8} (h : Tks w n (.slice (some ⟨g, 0, none⟩) (p ++ [e]).length c) (p ++ [e])) (hn : n ≤ w.heap.size)
    (ho : OwB w1 (.slice A1 ys.length c1) ys) (hf : Fr (blk e.dv) w w1) (ha : At w e.dv (.slice A1 ys.length c1)) :
    Tks (w1.setCell ⟨g, p.length * 3 + 2, none⟩ (.slice A1 ys.length c1)) n (.slice (some ⟨g, 0, none⟩) (p ++ [(⟨e.f, e.c, A1, c1, ys⟩ : TV)]).length c) (p ++ [(⟨e.f, e.c, A1, c1, ys⟩ : TV)]) := by
  have he : e ∈ p ++ [e] := by simp
  have hr1 : Ow fT 117 w1 (.slice (some ⟨g, 0, none⟩) (p ++ [e]).length c) (p ++ [e]) := h.row.fr hf (fun q hq hb => h.ne e he q hb hq)
  have hs := Ow.store hr1 p.length 2 e (⟨e.f, e.c, A1, c1, ys⟩ : TV) (.slice A1 ys.length c1) (by simp) rfl (by decide)
  have e1 : (p ++ [e]).set p.length (⟨e.f, e.c, A1, c1, ys⟩ : TV) = p ++ [(⟨e.f, e.c, A1, c1, ys⟩ : TV)] := by simp
  rw [e1] at hs
  have hk : Fr (one g) w1 (w1.setCell ⟨g, p.length * 3 + 2, none⟩ (.slice A1 ys.length c1)) := fr_one_set _ _ _ _
  have hty : ∃ cs, w1.heap[g]? = some (.cells cs 117 (0, 0)) := hr1.typed g rfl
  have hng : ∀ (v : Value) (xs : List UInt8), OwB w1 v xs → v.ownBlock ≠ some g := fun v xs hv hq => by
    obtain ⟨cs, h1⟩ := hv.typed g hq
    obtain ⟨cs', h2⟩ := hty
    rw [h1] at h2
    injection h2 with h2
    injection h2 with _ h2
    exact absurd h2 (by decide)
  have hnew : ∀ q, (Value.slice A1 ys.length c1).ownBlock = some q → e.dv.ownBlock = some q ∨ w.heap.size ≤ q := fun q hq => by
    rcases ha with h9 | ⟨q', h9, h10⟩
    · exact .inl (h9 ▸ hq)
    · rw [hq] at h9; injection h9 with h9; exact .inr (by omega)
  have hp : ∀ x ∈ p, OwB w1 x.dv x.xs ∧ (∀ q, x.dv.ownBlock = some q → n ≤ q) ∧ ∀ q, x.dv.ownBlock = some q → e.dv.ownBlock ≠ some q ∧ q < w.heap.size := fun x hx => by
    obtain ⟨k, hk⟩ := List.getElem?_of_mem hx
    have hkl := (List.getElem?_eq_some_iff.1 hk).1
    have hox := h.own x (List.mem_append_left _ hx)
    have hxe : ∀ q, x.dv.ownBlock = some q → e.dv.ownBlock ≠ some q := h.ap k p.length x e hkl (by rw [List.getElem?_append_left hkl]; exact hk) (by simp)
    exact ⟨hox.1.fr hf (fun q hq hb => hxe q hq hb), hox.2, fun q hq => ⟨hxe q hq, hox.1.lt q hq⟩⟩
  have hs' : Ow fT 117 _ _ _ := hs
  rw [show fT.sz = 3 from rfl] at hs'
  refine ⟨by simpa using hs', fun q hq => h.new q hq, fun x hx => ?_, fun i j a b hij ha hb => ?_⟩
  · rcases List.mem_append.1 hx with hx | hx
    · have hx1 := hp x hx
      exact ⟨hx1.1.fr hk (fun q hq hb => hng _ _ hx1.1 (by have e' : q = g := hb; rw [← e']; exact hq)), hx1.2.1⟩
    · simp at hx; subst hx
      refine ⟨ho.fr hk (fun q hq hb => hng _ _ ho (by have e' : q = g := hb; rw [← e']; exact hq)), fun q hq => ?_⟩
      rcases hnew q hq with h9 | h9
      · exact (h.own e he).2 q h9
      · omega
  · have hjl := (List.getElem?_eq_some_iff.1 hb).1
    simp at hjl
    rcases Nat.lt_or_ge j p.length with hj | hj
    · rw [List.getElem?_append_left (by omega)] at ha
      rw [List.getElem?_append_left hj] at hb
      exact h.ap i j a b hij (by rw [List.getElem?_append_left (by omega)]; exact ha) (by rw [List.getElem?_append_left hj]; exact hb)
    · have : j = p.length := by omega
      subst this
      rw [List.getElem?_append_left hij] at ha
      simp at hb; subst hb
      intro q hq hb
      have h1 := (hp a (List.mem_of_getElem? ha)).2.2 q hq
      rcases hnew q hb with h9 | h9
      · exact h1.1 h9
      · omega
/-- One more. -/
theorem Tks.snoc {w w1 : World} {n : Nat} {vo v1 : Value} {fs : List TV} {e : TV} (h : Tks w n vo fs) (hn : n ≤ w.heap.size) (he : OwB w e.dv e.xs) (hen : ∀ q, e.dv.ownBlock = some q → n ≤ q) (hap : ∀ x ∈ fs, ∀ q, x.dv.ownBlock = some q → e.dv.ownBlock ≠ some q)
    (ho : Ow fT 117 w1 v1 (fs ++ [e])) (hf : Fr (blk vo) w w1) (ha : At w vo v1) : Tks w1 n v1 (fs ++ [e]) := by
  refine ⟨ho, fun q hq => ?_, fun x hx => ?_, fun i j a b hij ha hb => ?_⟩
  · rcases ha with h9 | ⟨q', h9, h10⟩
    · exact h.new q (h9 ▸ hq)
    · rw [hq] at h9; injection h9 with h9; omega
  · have hne : ∀ x : TV, OwB w x.dv x.xs → ∀ q, x.dv.ownBlock = some q → ¬ blk vo q := fun x hx q hq hb => by
      obtain ⟨cs, h1⟩ := hx.typed q hq
      obtain ⟨cs', h2⟩ := h.row.typed q hb
      rw [h1] at h2
      injection h2 with h2
      injection h2 with _ h2
      exact absurd h2 (by decide)
    rcases List.mem_append.1 hx with hx | hx
    · exact ⟨(h.own x hx).1.fr hf (hne x (h.own x hx).1), (h.own x hx).2⟩
    · simp at hx; subst hx
      exact ⟨he.fr hf (hne x he), hen⟩
  · have hjl := (List.getElem?_eq_some_iff.1 hb).1
    simp at hjl
    rcases Nat.lt_or_ge j fs.length with hj | hj
    · rw [List.getElem?_append_left (by omega)] at ha
      rw [List.getElem?_append_left hj] at hb
      exact h.ap i j a b hij ha hb
    · have : j = fs.length := by omega
      subst this
      rw [List.getElem?_append_left hij] at ha
      simp at hb; subst hb
      exact hap a (List.mem_of_getElem? ha)
end Go.Proofs.YtanbddaecojijaaDoor.Tk
namespace Go.Proofs.YtanbddaecojijaaDoor.Tk
open Go.RowKit Go.IntWalk Go.Proofs.YtanbddaecojijaaDoorW.PrintWords Go.Proofs.YtanbddaecojijaaDoor.B Go.Proofs.YtanbddaecojijaaDoor.PB Go.Proofs.YtanbddaecojijaaDoor.STell

/-- The document's tokens. -/
def fD : Fl Tok := ⟨3, fun t => [.int .i64 t.1, .int .i64 t.2.1, .string (bstr t.2.2)], fun _ => rfl, fun e u hu => by
  rcases List.mem_cons.1 hu with rfl | hu
  · rfl
  · rcases List.mem_cons.1 hu with rfl | hu
    · rfl
    · rcases List.mem_cons.1 hu with rfl | hu
      · rfl
      · cases hu⟩
theorem infoD : (Tryd.prog.info? 119).map (fun i => (i.zero, i.size, i.bytes)) = some (some (.agg #[.int .i64 0, .int .i64 0, .string ⟨#[]⟩]), 3, 32) := by kernel_rfl

set_option maxHeartbeats 4000000 in
set_option maxRecDepth 100000 in
theorem plain7_calls (v : Value) (fs : List TV) (w : World) (hv : Rd fT w v fs) (hes : ∀ e ∈ fs, RdB w e.dv e.xs) (hn : fs.length ≤ 1000000) : Calls Tryd.prog 19 #[v] w fun e w' =>
    ∃ v', e = .returned v' ∧ Ow fD 119 w' v' (fs.map TV.tok) ∧ Fr No w w' := by
  obtain ⟨A, c, rfl, hlc, hcm, hcell⟩ := id hv
  have HES := Aside0.mk hes; have HC := Aside0.mk hcell
  clear hv hes hcell
  go_enter Tryd.func19, Tryd.ntmps19
  go_wp2
  go_loopw [3, 8] (fun v3 v8 wr => ∃ j : Nat, v8 = .int .i64 (j : Int) ∧ j ≤ fs.length ∧ Aside0 (Ow fD 119 wr v3 ((fs.take j).map TV.tok)) ∧ Aside0 (Fr No w wr) ∧ Aside0 (∀ q, v3.ownBlock = some q → w.heap.size ≤ q)) (fun _ v8 _ => fs.length - (intOf v8).toNat)
  case atStart => exact ⟨0, rfl, Nat.zero_le _, ⟨Ow.nil _ _ _⟩, ⟨Fr.refl _ _⟩, ⟨fun q hq => by cases hq⟩⟩
  case round =>
    obtain ⟨j, rfl, hj, HO, HF, HN⟩ := hrel
    by_cases hjl : j < fs.length
    · have hjI : (j : Int) < (fs.length : Int) := by omega
      obtain ⟨ad, rfl, hc⟩ := HC.out (by omega)
      obtain ⟨e, he⟩ : ∃ e, fs[j]? = some e := ⟨_, List.getElem?_eq_getElem hjl⟩
      have hcj : ∀ i u, (fT.enc e)[i]? = some u → wr.cell? ((ad.add (j * 3)).add i) = some u := fun i u hu => by
        rw [add_add]
        refine HF.out.cell (hc _ _ ?_) id
        have hi : i < 3 := (List.getElem?_eq_some_iff.1 hu).1
        have := fT.cells_get fs j e he i hi
        rw [show j * fT.sz + i = j * 3 + i from rfl] at this
        rw [this, hu]
      have k0 : wr.cell? (ad.add (j * 3)) = some (.int .i64 e.f) := hcj 0 _ rfl
      have k1 : wr.cell? { block := (ad.add (j * 3)).block, off := (ad.add (j * 3)).off + 1 } = some (.int .i64 e.c) := hcj 1 _ rfl
      have k2 : wr.cell? { block := (ad.add (j * 3)).block, off := (ad.add (j * 3)).off + 2 } = some (.slice e.A e.xs.length e.cp) := hcj 2 _ rfl
      have RB := (HES.out e (List.mem_of_getElem? he)).no HF.out
      have HTK : Aside0 ((fs.take (j + 1)).map TV.tok = (fs.take j).map TV.tok ++ [e.tok]) := ⟨by rw [List.take_add_one, he]; simp⟩
      have hll : ((fs.take j).map TV.tok).length = j := by rw [List.length_map, List.length_take]; omega
      have HLL := Aside0.mk hll
      have HRB := Aside0.mk RB
      clear hcj hc hll RB
      go_upto_region 5 with fail
      have XB := heap_alloc_new wr (.cells #[.int .i64 e.f, .int .i64 e.c, .slice e.A e.xs.length e.cp] 117)
      have FX : Aside0 (Fr No wr (wr.alloc (.cells #[.int .i64 e.f, .int .i64 e.c, .slice e.A e.xs.length e.cp] 117))) := ⟨(Fr.refl _ _).alloc _⟩
      change Code.wp _ _ _ _ (wr.alloc (.cells #[.int .i64 e.f, .int .i64 e.c, .slice e.A e.xs.length e.cp] 117))
      generalize wr.alloc (.cells #[.int .i64 e.f, .int .i64 e.c, .slice e.A e.xs.length e.cp] 117) = wx at XB FX ⊢
      have c0 : wx.cell? ⟨wr.heap.size, 0, Option.none⟩ = some (.int .i64 e.f) := by rw [blk_cell XB]; rfl
      have c1 : wx.cell? ⟨wr.heap.size, 1, Option.none⟩ = some (.int .i64 e.c) := by rw [blk_cell XB]; rfl
      have c2 : wx.cell? ⟨wr.heap.size, 2, Option.none⟩ = some (.slice e.A e.xs.length e.cp) := by rw [blk_cell XB]; rfl
      have q1 : (convert 22 9 (.slice e.A e.xs.length e.cp)).run Tryd.prog wx = .ok (.string (bstr e.xs)) wx := str_of_rd (HRB.out.no FX.out)
      clear XB k0 k1 k2
      go_wp2_with (at_builtin; go_loud (refine ap1 (f := fD) rfl (.tmp 12) (.tmp 21) 47 119 (.agg #[.int .i64 0, .int .i64 0, .string ⟨#[]⟩]) 32 rfl Tryd.underlying47 infoD rfl (by decide) (by decide) u3 ((fs.take j).map TV.tok) e.tok [.int .i64 e.f, .int .i64 e.c, .string (bstr e.xs)] rfl rfl rfl (HO.out.no FX.out) ?c3 ?_; (case c3 => (rw [HLL.out]; omega)); intro v5 w5 h1 h2 h3 h4; have H1 := Aside0.mk h1; have H2 := Aside0.mk h2; have H3 := Aside0.mk h3; clear h1 h2 h3 h4))
      go_roundw
      case rel =>
        have hsz := HF.out.size
        have F4 : Fr (blk u3) wr w5 := (FX.out.mono (fun _ _ h => h.elim)).trans H2.out (fun _ _ h => h)
        refine ⟨j + 1, by go_num, by omega, ⟨by rw [HTK.out]; exact H1.out⟩, ⟨HF.out.trans F4 (fun q hq hb => absurd (HN.out q hb) (by omega))⟩, ⟨fun q hq => ?_⟩⟩
        rcases H3.out with h9 | ⟨q', h9, h10⟩
        · exact HN.out q (h9 ▸ hq)
        · rw [hq] at h9; injection h9 with h9; have := FX.out.size; omega
      case measure => simp [intOf]; omega
    · have hjI : ¬ (j : Int) < (fs.length : Int) := by omega
      have HT : Aside0 (Ow fD 119 wr u3 (fs.map TV.tok)) := ⟨by have := HO.out; rw [List.take_of_length_le (by omega)] at this; exact this⟩
      go_wp2
      go_ret
      exact ⟨_, rfl, HT.out, HF.out⟩

set_option maxHeartbeats 4000000 in
set_option maxRecDepth 100000 in
/-- The same tokens are the same. -/
theorem same7_calls (va vb : Value) (L : List Tok) (w : World) (ha : Rd fD w va L) (hb : Rd fD w vb L) : Calls Tryd.prog 18 #[va, vb] w fun e w' => e = .returned (.bool true) ∧ Fr No w w' := by
  obtain ⟨A, c, rfl, hAc, hm, _⟩ := id ha
  obtain ⟨A', c', rfl, hAc', hm', _⟩ := id hb
  have hlen := ha.len_le
  have HA := Aside0.mk ha; have HB := Aside0.mk hb
  clear ha hb
  go_enter Tryd.func18, Tryd.ntmps18
  go_wp2
  go_loopw [5] (fun v5 wr => ∃ i : Nat, v5 = .int .i64 (i : Int) ∧ i ≤ L.length ∧ Aside0 (Fr No w wr)) (fun v5 _ => L.length - (intOf v5).toNat)
  case atStart => exact ⟨0, rfl, Nat.zero_le _, ⟨Fr.refl _ _⟩⟩
  case round =>
    obtain ⟨i, rfl, hi, HF⟩ := hrel
    by_cases hil : i < L.length
    · have hiI : (i : Int) < (L.length : Int) := by omega
      obtain ⟨t, ht⟩ : ∃ t, L[i]? = some t := ⟨_, List.getElem?_eq_getElem hil⟩
      obtain ⟨ad, hA, hcv⟩ := rd_elem HA.out i t ht
      obtain ⟨ad', hA', hcv'⟩ := rd_elem HB.out i t ht
      obtain ⟨t1, t2, t3⟩ := t
      have LA : ∀ x, Fr No wr x → (loadVar 119 (ad.add (i * 3))).run Tryd.prog x = .ok (.agg #[.int .i64 t1, .int .i64 t2, .string (bstr t3)]) x := ld_elem (hcv.no HF.out) Tryd.underlying119 rfl (by show _ = some 3; kernel_rfl)
      have LB : ∀ x, Fr No wr x → (loadVar 119 (ad'.add (i * 3))).run Tryd.prog x = .ok (.agg #[.int .i64 t1, .int .i64 t2, .string (bstr t3)]) x := ld_elem (hcv'.no HF.out) Tryd.underlying119 rfl (by show _ = some 3; kernel_rfl)
      have HA2 := Aside0.mk hA; have HA3 := Aside0.mk hA'
      clear hcv hcv' ht hA hA'
      go_wp2
      refine Rg.start (fun _ x => Fr No wr x) (by kernel_rfl) (by kernel_rfl) [] [] (by kernel_rfl) (.q 0 0 (.q 1 0 (.q 2 0 (.q 3 0 (.q 4 0 (.q 5 0 (.q 6 0 (.q 7 0 (.q 8 0 (.done)))))))))) (by kernel_rfl) ?_ ?_
      · exact fun _ => (Fr.refl _ _).drew
      repeat (first
        | (refine Rg.q (o := ?_) (v := ?_) ?_ ?_ ?_ ?_ ?_
           rotate_left 2
           · (simp only [List.getElem?_toArray, List.getElem?_cons_succ, List.getElem?_cons_zero]; rfl)
           · exact fun _ _ _ h => h
           · first | rfl | (go_simp; done)
           · (intro x_ hx; (try dsimp only at hx); first | (first|(refine (ex_ix 47 119 3 _ _ ad A L.length c i _ Tryd.underlying47 (by kernel_rfl) rfl rfl HA2.out rfl rfl hil).trans ?_; with_reducible rfl)|(refine (ex_ix 47 119 3 _ _ ad' A' L.length c' i _ Tryd.underlying47 (by kernel_rfl) rfl rfl HA3.out rfl rfl hil).trans ?_; with_reducible rfl)) | (first|(refine (ex_ld rfl rfl (LA _ hx)).trans ?_; with_reducible rfl)|(refine (ex_ld rfl rfl (LB _ hx)).trans ?_; with_reducible rfl)) | (skip; (try clear hx); go_simp; (try rw [if_neg (by omega)]); (try rw [if_pos (by omega)]); (try go_simp); try with_reducible rfl))
           try simp only [Act.put, List.setIfInBounds_toArray, List.set_cons_zero, List.set_cons_succ])
        | (refine Rg.skip (o := ?_) ?_ ?_ ?_ ?_
           rotate_left 1
           · (simp only [List.getElem?_toArray, List.getElem?_cons_succ, List.getElem?_cons_zero]; rfl)
           · exact fun _ _ _ h => h
           · first | rfl | (go_simp; done)
           try simp only [Act.put, List.setIfInBounds_toArray, List.set_cons_zero, List.set_cons_succ]))
      refine Rg.done ?_
      go_simp
      clear LA LB
      go_wp2
      go_roundw
      case rel => exact ⟨i + 1, by go_num, by omega, ⟨HF.out.drew⟩⟩
      case measure => simp [intOf]; omega
    · have hiI : ¬ (i : Int) < (L.length : Int) := by omega
      go_wp2
      go_ret
      exact ⟨rfl, HF.out⟩
end Go.Proofs.YtanbddaecojijaaDoor.Tk
