/- A loop in a wide frame: what the body writes is one function of the slot. '[]byte(s)': a row of one's own whose block bears a mark beyond its cells; append onto it. -/
import Derived.Test.YtnfneokmiopieaaDoorPB
import Derived.Lib.ConvBytes
import Derived.ArgAppend
set_option linter.unusedVariables false
set_option linter.unusedSimpArgs false
namespace Go.Proofs.YtnfneokmiopieaaDoor.PB
open Go.RowKit Go.Proofs.YtnfneokmiopieaaDoorW.PrintWords Go.Proofs.YtnfneokmiopieaaDoor.B

/-- The frame: what the body writes is f's. -/
def over : List (Option Nat) → (Nat → Value) → List Value → List Value
  | [], _, l => l
  | _ :: _, _, [] => []
  | none :: m, f, x :: xs => x :: over m f xs
  | some k :: m, f, _ :: xs => f k :: over m f xs
/-- The same from another frame. -/
def mix : List (Option Nat) → List Value → List Value → List Value
  | [], l, _ => l
  | _ :: _, [], _ => []
  | _ :: _, x :: xs, [] => x :: xs
  | none :: m, x :: xs, _ :: ys => x :: mix m xs ys
  | some _ :: m, _ :: xs, y :: ys => y :: mix m xs ys
def posB : List (Option Nat) → Nat → Bool
  | [], _ => true
  | none :: m, i => posB m (i + 1)
  | some k :: m, i => k == i && posB m (i + 1)
def keeps (m : List (Option Nat)) (l l' : List Value) : Prop := mix m l l' = l'
theorem mix_self : ∀ (m : List (Option Nat)) (l : List Value), mix m l l = l
  | [], _ => rfl
  | _ :: _, [] => rfl
  | none :: m, x :: xs => by rw [mix, mix_self m xs]
  | some _ :: m, x :: xs => by rw [mix, mix_self m xs]
theorem over_mix : ∀ (m : List (Option Nat)) (i : Nat) (l l' p : List Value), posB m i = true → p.length = i → mix m l l' = l' → over m (fun n => (p ++ l').getD n undef) l = l'
  | [], _, l, l', _, _, _, h => h
  | none :: _, _, [], _, _, _, _, h => h
  | some _ :: _, _, [], _, _, _, _, h => h
  | none :: m, _, x :: xs, [], _, _, _, h => by rw [mix] at h; cases h
  | some _ :: m, _, x :: xs, [], _, _, _, h => by rw [mix] at h; cases h
  | none :: m, i, x :: xs, y :: ys, p, hp, hl, h => by
    rw [mix] at h
    injection h with h1 h2
    have := over_mix m (i + 1) xs ys (p ++ [y]) hp (by simp [hl]) h2
    rw [over]
    simp only [List.append_assoc, List.cons_append, List.nil_append] at this
    rw [this, h1]
  | some k :: m, i, x :: xs, y :: ys, p, hp, hl, h => by
    rw [mix] at h
    injection h with h1 h2
    simp only [posB, Bool.and_eq_true, beq_iff_eq] at hp
    have := over_mix m (i + 1) xs ys (p ++ [y]) hp.2 (by simp [hl]) h2
    rw [over]
    simp only [List.append_assoc, List.cons_append, List.nil_append] at this
    rw [this, hp.1]
    congr 1
    subst hl
    simp [List.getD]
theorem wp_loopf {P : Program} {c : Code} {Q : Exit → Act → World → Prop} {l : List Value} {ds : List Deferred} {w : World} (m : List (Option Nat)) (R : (Nat → Value) → World → Prop) (μ : (Nat → Value) → World → Nat) (hm : posB m 0 = true)
    (h₀ : R (fun n => l.getD n undef) w)
    (round : ∀ (f : Nat → Value) (w : World) (K : Act → World → Prop), R f w → Aside0 (∀ (l' : List Value) (w' : World), keeps m l l' → R (fun n => l'.getD n undef) w' → μ (fun n => l'.getD n undef) w' < μ f w → K (Act.mk l'.toArray ds) w') → c.wp P (Exit.then K Q) (Act.mk (over m f l).toArray ds) w) : (Code.loop c).wp P Q (Act.mk l.toArray ds) w := by
  refine wp_loop (fun a w => ∃ l', a = Act.mk l'.toArray ds ∧ keeps m l l' ∧ R (fun n => l'.getD n undef) w) (fun a w => μ (fun n => a.tmps.toList.getD n undef) w) ⟨l, rfl, mix_self m l, h₀⟩ ?_
  rintro a w ⟨l', rfl, hk, hR⟩
  have h := round (fun n => l'.getD n undef) w (fun a' w' => (∃ l2, a' = Act.mk l2.toArray ds ∧ keeps m l l2 ∧ R (fun n => l2.getD n undef) w') ∧ μ (fun n => a'.tmps.toList.getD n undef) w' < μ (fun n => l'.getD n undef) w) hR ⟨fun l2 w2 h1 h2 h3 => ⟨⟨l2, rfl, h1, h2⟩, h3⟩⟩
  have ho := over_mix m 0 l l' [] hm rfl hk
  simp only [List.nil_append] at ho
  rw [ho] at h
  exact h
end Go.Proofs.YtnfneokmiopieaaDoor.PB
namespace Go.Proofs.YtnfneokmiopieaaDoor.PB
open Go.RowKit Go.Proofs.YtnfneokmiopieaaDoorW.PrintWords Go.Proofs.YtnfneokmiopieaaDoor.B

/-- The mark lies beyond the cells, or there is none. -/
def noMark (n : Nat) (fz : Nat × Nat) : Prop := fz = (0, 0) ∨ n ≤ fz.1
def Oz (w : World) (v : Value) (xs : List UInt8) : Prop :=
  (v = .slice none 0 0 ∧ xs = []) ∨
  ∃ g cap cur fz, v = .slice (some ⟨g, 0, none⟩) xs.length cap ∧ w.heap[g]? = some (.cells cur 5 fz) ∧ noMark cur.size fz ∧ xs.length ≤ cap ∧ cap ≤ maxLen ∧ cur.size = cap ∧ cur.toList.take xs.length = xs.map vu8
theorem noMark_frozen {w : World} {g : Nat} {cur : Array Value} {t : TypeId} {fz : Nat × Nat} (h : w.heap[g]? = some (.cells cur t fz)) (hm : noMark cur.size fz) (i : Nat) (hi : i < cur.size) : w.frozen? ⟨g, i, none⟩ = false := by
  obtain ⟨lo, hi'⟩ := fz
  unfold World.frozen?
  simp only [h]
  rcases hm with hm | hm
  · injection hm with h1 h2
    subst h1; subst h2
    simp
  · have : lo ≤ i → False := fun h => by have hm' : cur.size ≤ lo := hm; omega
    simp
    intro h
    exact absurd h (fun h => this h)
section
variable {w w' : World} {v : Value} {xs : List UInt8}
theorem Oz.fr {S : Nat → Prop} (h : Oz w v xs) (k : Fr S w w') (hs : ∀ b, v.ownBlock = some b → ¬ S b) : Oz w' v xs := by
  rcases h with h | ⟨g, cap, cur, fz, rfl, hg, r⟩
  · exact .inl h
  · exact .inr ⟨g, cap, cur, fz, rfl, k.heap hg (hs g rfl), r⟩
theorem Oz.no (h : Oz w v xs) (k : Fr No w w') : Oz w' v xs := h.fr k (fun _ _ => id)
theorem Oz.form (h : Oz w v xs) : ∃ A c, v = .slice A xs.length c ∧ xs.length ≤ c := by
  rcases h with ⟨rfl, rfl⟩ | ⟨g, cap, cur, fz, rfl, hg, hm, hc, r⟩
  · exact ⟨_, _, rfl, Nat.le_refl _⟩
  · exact ⟨_, _, rfl, hc⟩
theorem Oz.rd (h : Oz w v xs) : RdB w v xs := by
  rcases h with ⟨rfl, rfl⟩ | ⟨g, cap, cur, fz, rfl, hg, hm, hc, hcm, hcs, ht⟩
  · exact Rd.nil _ _
  · refine ⟨_, cap, rfl, hc, hcm, fun _ => ⟨_, rfl, fun i u hu => ?_⟩⟩
    rw [add_plain, cell_of_row w g i cur _ fz hg]
    rw [u8_cells, ← ht, List.getElem?_take] at hu
    split at hu
    · rw [← Array.getElem?_toList]; exact hu
    · cases hu
theorem Oz.len_le (h : Oz w v xs) : xs.length ≤ 9223372036854775807 := h.rd.len_le
theorem Oz.lt (h : Oz w v xs) : ∀ b, v.ownBlock = some b → b < w.heap.size := by
  intro b hb
  rcases h with ⟨rfl, rfl⟩ | ⟨g, cap, cur, fz, rfl, hg, r⟩
  · simp [Value.ownBlock] at hb
  · have : g = b := by simpa [Value.ownBlock] using hb
    subst this
    exact (Array.getElem?_eq_some_iff.1 hg).1
theorem Oz.apart (h : Oz w v xs) {g : Nat} {cs : Array Value} {t : TypeId} {fz : Nat × Nat} (hg : w.heap[g]? = some (.cells cs t fz)) (ht : t ≠ 5) : ∀ k, v.ownBlock = some k → k ≠ g := by
  rintro k hk rfl
  rcases h with ⟨rfl, rfl⟩ | ⟨g', cap, cur, fz', rfl, hg', r⟩
  · simp [Value.ownBlock] at hk
  · have : g' = k := by simpa [Value.ownBlock] using hk
    subst this
    rw [hg] at hg'
    injection hg' with hc
    injection hc with _ hc
    exact ht hc
theorem Oz.of_ow (h : OwB w v xs) : Oz w v xs := by
  rcases h.2 with ⟨rfl, h0⟩ | ⟨g, cap, cur, rfl, _, hh, hnc, hm, hcs, ht⟩
  · exact .inl ⟨rfl, List.eq_nil_of_length_eq_zero h0⟩
  · refine .inr ⟨g, cap, cur, (0, 0), rfl, hh, .inl rfl, hnc, hm, by rw [hcs]; exact Nat.mul_one _, ?_⟩
    rw [u8_cells] at ht
    simpa [u8_sz] using ht
theorem setCells_rowF {g : Nat} {e : TypeId} {fz : Nat × Nat} : ∀ (vs : List Value) (o : Nat) (w : World) (cur : Array Value), w.heap[g]? = some (.cells cur e fz) → o + vs.length ≤ cur.size →
    ∃ cur', (w.setCells g o vs).heap[g]? = some (.cells cur' e fz) ∧ cur'.size = cur.size ∧ cur'.toList = cur.toList.take o ++ vs ++ cur.toList.drop (o + vs.length)
  | [], o, w, cur, h, _ => ⟨cur, h, rfl, by simp⟩
  | v :: r, o, w, cur, h, hl => by
    have h2 : (w.setCell ⟨g, o, none⟩ v).heap[g]? = some (.cells (cur.setIfInBounds o v) e fz) := by
      simp [World.setCell, Array.getElem?_modify, h]
    simp only [List.length_cons] at hl
    obtain ⟨cur', h3, h4, h5⟩ := setCells_rowF r (o + 1) (w.setCell ⟨g, o, none⟩ v) _ h2 (by simp; omega)
    refine ⟨cur', h3, by rw [h4]; simp, ?_⟩
    rw [h5, Array.toList_setIfInBounds]
    have ho : o < cur.toList.length := by rw [Array.length_toList]; omega
    rw [List.take_set, List.drop_set_of_lt (by omega)]
    simp only [List.length_cons]
    rw [show o + 1 + r.length = o + (r.length + 1) by omega]
    congr 1
    rw [List.take_succ_eq_append_getElem ho, List.set_append_right _ _ (by rw [List.length_take]; omega)]
    have ho' : o < cur.size := by omega
    simp [Nat.min_eq_left (Nat.le_of_lt ho')]
theorem run_append_z (h : Oz w v xs) (y : Value) (ys : List UInt8) (hy : RdB w y ys) (h0 : 0 < ys.length) (ty : TypeId) (hl : xs.length + ys.length ≤ 140737488355328) :
    ∃ v' w', (Builtin.append_ #[22, 22] ty #[v, y]).run Tryd.prog w = .ok v' w' ∧ Oz w' v' (xs ++ ys) ∧ Fr (blk v) w w' ∧ At w v v' := by
  rcases h with ⟨rfl, rfl⟩ | ⟨g, cap, cur, fz, rfl, hg, hm, hc, hcm, hcs, ht⟩
  · obtain ⟨v', w', hr, h2, h3, h4, _⟩ := run_append (f := u8) (P := Tryd.prog) w 22 ty 5 (.int .u8 0) 1 Tryd.underlying22 infoU8 rfl Nat.one_pos Nat.one_pos _ [] (Ow.nil _ _ _) y ys hy (by simpa using hl)
    exact ⟨v', w', hr, Oz.of_ow h2, h3, h4⟩
  · obtain ⟨i0, hi, hzz⟩ := Option.map_eq_some_iff.1 infoU8
    simp only [Prod.mk.injEq] at hzz
    obtain ⟨hz0, hz1, hz2⟩ := hzz
    have htt := Tryd.underlying22
    obtain ⟨A, c, rfl, hyc, hcm2, hcell⟩ := hy
    obtain ⟨ad, rfl, hcl⟩ := hcell h0
    have hnews : ∀ j u, (ys.map vu8)[j]? = some u → w.cell? (ad.add j) = some u := fun j u hu => hcl j u (by rw [u8_cells]; exact hu)
    by_cases hroom : xs.length + ys.length ≤ cap
    · have hr := run_append_room_cells (P := Tryd.prog) (w := w) 22 ty 5 i0 htt hi g 0 xs.length cap ad ys.length c (ys.map vu8) (by rw [hz1]; simp) hnews (by simp [Value.oneCell']) hroom
        (fun j hj => by rw [cell_of_row w g _ cur _ fz hg]; simp at hj ⊢; rw [hz1]; omega) (fun j hj => noMark_frozen hg hm _ (by simp at hj ⊢; rw [hz1]; omega))
      rw [hz1, Nat.mul_one, Nat.zero_add] at hr
      obtain ⟨cur', h3, h4, h5⟩ := setCells_rowF (ys.map vu8) xs.length w cur hg (by simp; omega)
      obtain ⟨s1, s2, s3, s4⟩ := setCells_same g (ys.map vu8) xs.length w
      refine ⟨_, _, hr, .inr ⟨g, cap, cur', fz, by rw [List.length_append], h3, by rw [h4]; exact hm, by rw [List.length_append]; exact hroom, hcm, by rw [h4]; exact hcs, ?_⟩,
        ⟨s1, s2, s3, by rw [s4]; exact Nat.le_refl _, fun k _ hk => setCells_far (ys.map vu8) _ k (fun he => hk (by rw [he]; simp [blk, Value.ownBlock]))⟩, .inl rfl⟩
      rw [h5, ht, List.map_append, List.length_append]
      exact List.take_left' (by simp)
    · obtain ⟨v', w', hr, ho, hgr⟩ := run_append_arg_grows (P := Tryd.prog) (w := w) 22 ty 5 i0 (.int .u8 0) 1 1 htt hi hz0 hz1 hz2 rfl Nat.one_pos ⟨g, 0, none⟩ xs.length cap (xs.map vu8) (by simp)
        (fun j u hu => by
          rw [add_plain, cell_of_row w g j cur _ fz hg]
          rw [← ht, List.getElem?_take] at hu
          split at hu
          · rw [← Array.getElem?_toList]; exact hu
          · cases hu) ad ys.length c (ys.map vu8) (by simp) hnews (by omega) (by simp only [maxLen]; omega) (by omega)
      have how : OwB w' v' (xs ++ ys) := by
        have h9 := own_less ho (Nat.zero_le _)
        unfold OwB Ow
        rw [u8_cells, List.map_append, List.length_append]
        exact h9
      obtain ⟨g', cap', he, hb, _⟩ := ho.form (by omega)
      exact ⟨v', w', hr, Oz.of_ow how, ⟨hgr.os, hgr.tape, hgr.output, hgr.size, fun k hk _ => hgr.block k hk (by simp)⟩, .inr ⟨g', by rw [he]; simp [Value.ownBlock], hb⟩⟩
end
/-- The bytes of a string, in a row of its own. -/
theorem oz_bytes (w : World) (s : ByteArray) (hs : s.size ≤ maxLen) : Oz (Lib.bytesWorld w 5 s) (.slice (some ⟨w.heap.size, 0, none⟩) s.size (grownCap w s.size 0 5)) s.data.toList ∧ Fr No w (Lib.bytesWorld w 5 s) := by
  have hge := grownCap_ge w s.size 0 5
  refine ⟨.inr ⟨w.heap.size, _, _, _, by rw [data_length], Lib.bytesWorld_at_new w _ s, .inr (Nat.le_refl _), by rw [data_length]; exact hge, grownCap_le_maxLen w _ _ _ hs, ?_, ?_⟩, ⟨rfl, rfl, rfl, by rw [Lib.bytesWorld_size]; omega, fun k hk _ => Lib.bytesWorld_at_old w _ s k hk⟩⟩
  · simp [Lib.bytesCells] at hge ⊢
    omega
  · simp [Lib.bytesCells]
section
variable {ops : Array Oper} {rest : List Oper} {o : Oper} {a : Act} {Q : Exit → Act → World → Prop} {W : World}
/-- append(b, y...) onto such a row. -/
theorem apZs (v : Value) (xs : List UInt8) (y : Value) (ys : List UInt8) (hgd : o.guard = none) (s x : Operand)
    (ho : o.op = .call { callee := .builtin .append, args := #[s, x], argTypes := #[22, 22] })
    (hs : a.eval s = v) (hx : a.eval x = y) (HO : Oz W v xs) (HY : RdB W y ys) (h0 : 0 < ys.length) (hl : xs.length + ys.length ≤ 140737488355328)
    (h : ∀ v1 w1, Oz w1 v1 (xs ++ ys) → Fr (blk v) W w1 → At W v v1 → wpList Tryd.prog ops Q rest (a.put o.dst v1) w1) :
    wpList Tryd.prog ops Q (o :: rest) a W := by
  obtain ⟨v', w', hr, h2, h3, h4⟩ := run_append_z HO y ys HY h0 o.type hl
  refine wpList_plain hgd fun K hK => ?_
  unfold Oper.wp execOp
  simp only [ho, resolve, invoke, builtin, Sem.run_bind, Sem.run_pure, Result.andThen_ok, List.map_toArray, List.map_cons, List.map_nil, hs, hx, hr]
  exact hK _ _ (h v' w' h2 h3 h4)
theorem apZ1 (v : Value) (xs : List UInt8) (y : UInt8) (n : Int) (hgd : o.guard = none) (s x : Operand)
    (ho : o.op = .call { callee := .builtin .append, args := #[s, x], argTypes := #[22, 22] })
    (hs : a.eval s = v) (hx : a.eval x = .slice (some ⟨W.heap.size, 0, none⟩) 1 1) (hn : n = (y.toNat : Int)) (HO : Oz W v xs) (hl : xs.length + 1 ≤ 140737488355328)
    (h : ∀ v1 w1, Oz w1 v1 (xs ++ [y]) → Fr (blk v) W w1 → At W v v1 → wpList Tryd.prog ops Q rest (a.put o.dst v1) w1) :
    wpList Tryd.prog ops Q (o :: rest) a (W.alloc (.cells #[.int .u8 n] 5)) := by
  subst hn
  have hfr : Fr No W (W.alloc (.cells #[vu8 y] 5)) := (Fr.refl _ _).alloc _
  have hyr : RdB (W.alloc (.cells #[vu8 y] 5)) (.slice (some ⟨W.heap.size, 0, none⟩) 1 1) [y] := ⟨_, 1, rfl, by simp, by simp [maxLen], fun _ => ⟨_, rfl, fun i u hu => by
    rw [u8.cells_one] at hu
    exact heap_new_cells W [vu8 y] 5 i u hu⟩⟩
  refine apZs v xs _ [y] hgd s x ho hs hx (HO.no hfr) hyr (by simp) (by simpa using hl) fun v1 w1 h1 h2 h3 => ?_
  refine h v1 w1 h1 ((hfr.mono (fun _ _ h => h.elim)).trans h2 (fun _ _ h => h)) ?_
  rcases h3 with h3 | ⟨b, h3, hb⟩
  · exact .inl h3
  · exact .inr ⟨b, h3, by simp at hb; omega⟩
/-- []byte(s). -/
theorem lsBytes (x : Operand) (s : ByteArray) (hgd : o.guard = none) (ho : o.op = .convert 9 22 x) (hx : a.eval x = .string s) (hs : s.size ≤ maxLen)
    (h : ∀ v1 w1, Oz w1 v1 s.data.toList → Fr No W w1 → (∀ b, v1.ownBlock = some b → W.heap.size ≤ b) → wpList Tryd.prog ops Q rest (a.put o.dst v1) w1) :
    wpList Tryd.prog ops Q (o :: rest) a W := by
  have hr := Lib.run_convert_string_bytes (P := Tryd.prog) W 9 22 5 s Tryd.underlying9 Tryd.underlying22 Tryd.underlying5
  obtain ⟨h1, h2⟩ := oz_bytes W s hs
  refine wpList_plain hgd fun K hK => ?_
  unfold Oper.wp execOp
  simp only [ho, hx, Sem.run_bind, Sem.run_pure, Result.andThen_ok, hr]
  exact hK _ _ (h _ _ h1 h2 (fun b hb => by have h9 : W.heap.size = b := Option.some.inj hb; omega))
end
end Go.Proofs.YtnfneokmiopieaaDoor.PB
