/- frame.Frame: Check, Append; the document's Check, Write; the law's plain. -/
import Derived.Test.YtkljeafnmcmifaaDoorCodeR
import Derived.Test.YtkljeafnmcmifaaDoorRegion
set_option linter.unusedVariables false
set_option linter.unusedSimpArgs false
namespace Go.Proofs.YtkljeafnmcmifaaDoor.Frm
open Go.RowKit Go.Proofs.YtkljeafnmcmifaaDoorW.PrintWords Go.Proofs.YtkljeafnmcmifaaDoor.B Go.Proofs.YtkljeafnmcmifaaDoor.PB Go.Proofs.YtkljeafnmcmifaaDoor.SCode Go.Proofs.YtkljeafnmcmifaaDoor.Rdr
attribute [local go_sem] B.max2_int B.min2_int B.max_two B.min_two

/-- The error's number of a frame. -/
def checkE (k s : Int) (n : Nat) : Int := if k < 1 ∨ 31 < k then 40 else if s < 0 ∨ 7 < s then 1 else if 16384 < n then 2 else 0
/-- A frame's first byte, and its bytes. -/
def headB (k s : Int) : UInt8 := b8 (k * 8 + s)
def frameB (k s : Int) (xs : List UInt8) : List UInt8 := headB k s :: (numI (xs.length : Int) ++ xs)
abbrev frV (k s : Int) (d : Value) : Value := .agg #[.int .i64 k, .int .i64 s, d]
theorem checkE_cases (k s : Int) (n : Nat) : (k < 1 ∧ checkE k s n = 40) ∨ (¬ k < 1 ∧ 31 < k ∧ checkE k s n = 40) ∨ (¬ k < 1 ∧ ¬ 31 < k ∧ s < 0 ∧ checkE k s n = 1) ∨ (¬ k < 1 ∧ ¬ 31 < k ∧ ¬ s < 0 ∧ 7 < s ∧ checkE k s n = 1) ∨
    (¬ k < 1 ∧ ¬ 31 < k ∧ ¬ s < 0 ∧ ¬ 7 < s ∧ 16384 < n ∧ checkE k s n = 2) ∨ (¬ k < 1 ∧ ¬ 31 < k ∧ ¬ s < 0 ∧ ¬ 7 < s ∧ ¬ 16384 < n ∧ checkE k s n = 0) := by
  unfold checkE
  repeat' split
  all_goals omega
theorem checkE_ok {k s : Int} {n : Nat} (h : checkE k s n = 0) : 1 ≤ k ∧ k ≤ 31 ∧ 0 ≤ s ∧ s ≤ 7 ∧ n ≤ 16384 := by
  rcases checkE_cases k s n with h | h | h | h | h | h <;> omega

theorem check_calls (k s : Int) (A : Option Addr) (n c : Nat) (w : World) : Calls Tryd.prog 20 #[frV k s (.slice A n c)] w fun e w' => e = .returned (.int .i64 (checkE k s n)) ∧ Fr No w w' := by
  have hf : Fr No w w := Fr.refl _ _
  have F0 := Aside0.mk hf; clear hf
  rcases checkE_cases k s n with ⟨h1, e⟩ | ⟨h1, h2, e⟩ | ⟨h1, h2, h3, e⟩ | ⟨h1, h2, h3, h4, e⟩ | ⟨h1, h2, h3, h4, h5, e⟩ | ⟨h1, h2, h3, h4, h5, e⟩
  all_goals
    rw [e]
    clear e
    (try have h5I : (16384 : Int) < (n : Int) := by omega)
    (try have h5I : ¬ (16384 : Int) < (n : Int) := by omega)
    go_enter Tryd.func20, Tryd.ntmps20
    go_wp2
    go_ret
    exact ⟨rfl, F0.out.alloc _⟩

theorem append_bad_calls (k s : Int) (A : Option Addr) (n c : Nat) (v : Value) (w : World) (he : checkE k s n ≠ 0) : Calls Tryd.prog 15 #[frV k s (.slice A n c), v] w fun e w' => e = .returned (.tuple #[.slice none 0 0, .int .i64 (checkE k s n)]) ∧ Fr No w w' := by
  go_enter Tryd.func15, Tryd.ntmps15
  go_wp2_with fail
  refine (check_calls k s A n c _).mono ?_
  rintro e w1 ⟨rfl, hf⟩
  have F1 := Aside0.mk hf; clear hf
  go_wp2
  (try simp only [Exit.inBlock, Exit.then]); refine bodyPost_ret (results_list (rs := [.tmp 4, .tmp 5]) rfl (by simp) (.tmp (.tmp .nil))) rfl ?_
  exact ⟨rfl, ((Fr.refl No w).alloc _).none F1.out⟩

theorem or_head (k s : Int) (h1 : 1 ≤ k) (h2 : k ≤ 31) (h3 : 0 ≤ s) (h4 : s ≤ 7) : bits BinOp.or .i64 (wrap64 (k * 8)) s % 256 = ((headB k s).toNat : Int) := by
  obtain ⟨k, rfl⟩ := Int.eq_ofNat_of_zero_le (Int.le_trans (by decide) h1)
  obtain ⟨s, rfl⟩ := Int.eq_ofNat_of_zero_le h3
  have : ∀ k, k < 32 → ∀ s, s < 8 → bits BinOp.or .i64 (wrap64 (((k : Nat) : Int) * 8)) (s : Nat) % 256 = ((headB k s).toNat : Int) := by decide +kernel
  exact this k (by omega) s (by omega)

theorem or_head' (k s : Int) (h1 : 1 ≤ k) (h2 : k ≤ 31) (h3 : 0 ≤ s) (h4 : s ≤ 7) : bits BinOp.or .i64 (k * 8) s % 256 = ((headB k s).toNat : Int) := by
  obtain ⟨k, rfl⟩ := Int.eq_ofNat_of_zero_le (Int.le_trans (by decide) h1)
  obtain ⟨s, rfl⟩ := Int.eq_ofNat_of_zero_le h3
  have : ∀ k, k < 32 → ∀ s, s < 8 → bits BinOp.or .i64 (((k : Nat) : Int) * 8) (s : Nat) % 256 = ((headB k s).toNat : Int) := by decide +kernel
  exact this k (by omega) s (by omega)

set_option maxHeartbeats 1000000 in
set_option maxRecDepth 100000 in
theorem append_calls (k s : Int) (d v : Value) (ds xs : List UInt8) (w : World) (he : checkE k s ds.length = 0) (ho : OwB w v xs) (hd : RdB w d ds) (hl : xs.length ≤ 140737488300000) (hsep : 0 < ds.length → ∀ b, d.ownBlock = some b → ¬ blk v b) :
    Calls Tryd.prog 15 #[frV k s d, v] w fun e w' => ∃ v', e = .returned (.tuple #[v', .int .i64 0]) ∧ Gw w v xs w' v' (frameB k s ds) := by
  obtain ⟨A, c, rfl, _⟩ := id hd
  have HD := Aside0.mk hd; have HO := Aside0.mk ho; have HL := Aside0.mk hl; have HE := Aside0.mk he; clear hd ho hl he
  go_enter Tryd.func15, Tryd.ntmps15
  go_wp2_with fail
  refine (check_calls k s A ds.length c _).mono ?_
  rw [HE.out]
  rintro e w1 ⟨rfl, hf⟩
  have hb1 : w1.heap[w.heap.size]? = some (.cells #[.int .i64 k, .int .i64 s, .slice A ds.length c] 39 (0, 0)) := hf.heap (blk_new w _) id
  have c0 : w1.cell? ⟨w.heap.size, 0, none⟩ = some (.int .i64 k) := by rw [blk_cell hb1]; rfl
  have c1 : w1.cell? ⟨w.heap.size, 1, none⟩ = some (.int .i64 s) := by rw [blk_cell hb1]; rfl
  have HB := Aside0.mk hb1
  have F1 := Aside0.mk hf; clear hf hb1
  have hk := checkE_ok HE.out
  go_wp2_with (at_builtin; refine apB v xs (headB k s) _ rfl (.tmp 12) (.tmp 20) rfl rfl rfl ?c4 ?c5 ?c3 ?_; (case c4 => first | exact or_head k s hk.1 hk.2.1 hk.2.2.1 hk.2.2.2.1 | exact or_head' k s hk.1 hk.2.1 hk.2.2.1 hk.2.2.2.1); (case c3 => have := HL.out; omega); (case c5 => exact HO.out.fr (((Fr.refl No w).alloc _).none F1.out) (fun _ _ => id)); intro v2 w2 h1 h2 h3 h4; have G1 := Aside0.mk h1; have G2 := Aside0.mk h2; have G3 := Aside0.mk h3; have G4 := Aside0.mk h4; clear h1 h2 h3 h4)
  have E1 : Aside0 (Fr No w w1) := ⟨((Fr.refl No w).alloc _).none F1.out⟩
  have nb : ∀ k, w.heap.size ≤ k → ¬ blk v k := fun k hk hb => absurd (HO.out.lt k hb) (by omega)
  have nb2 : ∀ k, w.heap.size ≤ k → k < w1.heap.size → ¬ blk v2 k := fun k hk hl hb => nb k hk (G3.out.back hb hl)
  have sz1 : w.heap.size < w1.heap.size := by have := F1.out.size; simp at this; omega
  have HB2 : Aside0 (w2.drew.heap[w.heap.size]? = some (.cells #[.int .i64 k, .int .i64 s, .slice A ds.length c] 39 (0, 0))) := ⟨(G2.out.drew).heap HB.out (nb _ (Nat.le_refl _))⟩
  have RD2 : Aside0 (RdB w2.drew (.slice A ds.length c) ds) := ⟨(HD.out.no E1.out).fr G2.out.drew hsep⟩
  have O2 : Aside0 (OwB w2.drew v2 (xs ++ [headB k s])) := ⟨G1.out.no (Fr.refl _ _).drew⟩
  have NB2 := Aside0.mk nb2; have NB := Aside0.mk nb; have SEP := Aside0.mk hsep
  clear nb nb2 hsep hk c0 c1
  refine Rg.start (fun k' x => k' ≤ 1 → x.heap[w.heap.size]? = some (.cells #[.int .i64 k, .int .i64 s, .slice A ds.length c] 39 (0, 0))) (by kernel_rfl) (by kernel_rfl) [4, 7] [[1, 2, 3, 0, 4], [5, 6, 1, 2, 3, 0, 4, 7]] (by kernel_rfl) (.q 0 0 (.q 1 0 (.q 2 0 (.q 3 0 (.q 5 1 (.q 6 1 (.e 4 1 (.e 7 2 (.q 8 2 (.q 9 2 (.done))))))))))) (by kernel_rfl) ?_ ?_
  · exact fun _ _ => HB2.out
  repeat (first
    | (refine Rg.q (o := ?_) (v := ?_) ?_ ?_ ?_ ?_ ?_
       rotate_left 2
       · (simp only [List.getElem?_toArray, List.getElem?_cons_succ, List.getElem?_cons_zero]; rfl)
       · exact fun _ _ _ h => h
       · first | rfl | (go_simp; done)
       · (intro x_ hx; (try dsimp only at hx); (try have q2 : x_.cell? ⟨w.heap.size, 2, none⟩ = some (.slice A ds.length c) := (by rw [blk_cell (hx (by decide))]; rfl)); go_simp; (try rw [if_neg (by omega)]); (try rw [if_pos (by omega)]); (try go_simp); try with_reducible rfl)
       try simp only [Act.put, List.setIfInBounds_toArray, List.set_cons_zero, List.set_cons_succ])
    | (refine Rg.skip (o := ?_) ?_ ?_ ?_ ?_
       rotate_left 1
       · (simp only [List.getElem?_toArray, List.getElem?_cons_succ, List.getElem?_cons_zero]; rfl)
       · exact fun _ _ _ h => h
       · first | rfl | (go_simp; done)
       try simp only [Act.put, List.setIfInBounds_toArray, List.set_cons_zero, List.set_cons_succ]))
  refine Rg.e (o := ?_) ?_ ?_
  rotate_left 1
  · (simp only [List.getElem?_toArray, List.getElem?_cons_succ, List.getElem?_cons_zero]; rfl)
  intro K hK
  go_simp
  refine (CodeW.num_calls v2 (xs ++ [headB k s]) (ds.length : Int) w2.drew O2.out (by have := HL.out; simp; omega)).mono ?_
  rintro e w3 ⟨v3, rfl, g1, g2, g3, g4⟩
  have A1 := Aside0.mk g1; have A2 := Aside0.mk g2; have A3 := Aside0.mk g3; have A4 := Aside0.mk g4; clear g1 g2 g3 g4
  go_simp
  refine hK.out _ _ (fun k' x => k' ≤ 1 → x.heap[w.heap.size]? = some (.cells #[.int .i64 k, .int .i64 s, .slice A ds.length c] 39 (0, 0))) (fun k x hk h => h) ?_ ?_
  · exact fun _ _ _ => A2.out.heap HB2.out (NB2.out _ (Nat.le_refl _) sz1)
  try simp only [Act.put, List.setIfInBounds_toArray, List.set_cons_zero, List.set_cons_succ]
  repeat (first
    | (refine Rg.q (o := ?_) (v := ?_) ?_ ?_ ?_ ?_ ?_
       rotate_left 2
       · (simp only [List.getElem?_toArray, List.getElem?_cons_succ, List.getElem?_cons_zero]; rfl)
       · exact fun _ _ _ h => h
       · first | rfl | (go_simp; done)
       · (intro x_ hx; (try dsimp only at hx); (try have q2 : x_.cell? ⟨w.heap.size, 2, none⟩ = some (.slice A ds.length c) := (by rw [blk_cell (hx (by decide))]; rfl)); go_simp; (try rw [if_neg (by omega)]); (try rw [if_pos (by omega)]); (try go_simp); try with_reducible rfl)
       try simp only [Act.put, List.setIfInBounds_toArray, List.set_cons_zero, List.set_cons_succ])
    | (refine Rg.skip (o := ?_) ?_ ?_ ?_ ?_
       rotate_left 1
       · (simp only [List.getElem?_toArray, List.getElem?_cons_succ, List.getElem?_cons_zero]; rfl)
       · exact fun _ _ _ h => h
       · first | rfl | (go_simp; done)
       try simp only [Act.put, List.setIfInBounds_toArray, List.set_cons_zero, List.set_cons_succ]))
  refine Rg.e (o := ?_) ?_ ?_
  rotate_left 1
  · (simp only [List.getElem?_toArray, List.getElem?_cons_succ, List.getElem?_cons_zero]; rfl)
  intro K hK
  rw [if_pos (by first | rfl | (go_simp; done))]
  have sep3 : 0 < ds.length → ∀ b, (Value.slice A ds.length c).ownBlock = some b → ¬ blk v2 b := fun hn b hb hk => by
    have hlt := Rd.lt (by decide) HD.out hn b hb
    exact SEP.out hn b hb (G3.out.back hk (Nat.lt_trans hlt sz1))
  have sep4 : 0 < ds.length → ∀ b, (Value.slice A ds.length c).ownBlock = some b → ¬ blk v3 b := fun hn b hb hk => by
    have hlt := Rd.lt (by decide) RD2.out hn b hb
    exact sep3 hn b hb (A3.out.back hk hlt)
  have hnl := numI_length (ds.length : Int)
  refine opBs v3 (xs ++ [headB k s] ++ numI (ds.length : Int)) (.slice A ds.length c) ds (.tmp 26) (.tmp 28) rfl rfl rfl A1.out (RD2.out.fr A2.out sep3) (by have := HL.out; have := (checkE_ok HE.out).2.2.2.2; simp; omega) ?_
  intro v4 w4 h1 h2 h3 h4
  have B1 := Aside0.mk h1; have B2 := Aside0.mk h2; have B3 := Aside0.mk h3; have B4 := Aside0.mk h4; clear h1 h2 h3 h4
  refine hK.out _ _ (fun _ x => True) (fun k x hk h => fun h2 => absurd (Nat.le_trans hk h2) (by decide)) ?_ ?_
  · exact fun _ _ => trivial
  try simp only [Act.put, List.setIfInBounds_toArray, List.set_cons_zero, List.set_cons_succ]
  repeat (first
    | (refine Rg.q (o := ?_) (v := ?_) ?_ ?_ ?_ ?_ ?_
       rotate_left 2
       · (simp only [List.getElem?_toArray, List.getElem?_cons_succ, List.getElem?_cons_zero]; rfl)
       · exact fun _ _ _ h => h
       · first | rfl | (go_simp; done)
       · (intro x_ hx; (try dsimp only at hx); (skip); go_simp; (try rw [if_neg (by omega)]); (try rw [if_pos (by omega)]); (try go_simp); try with_reducible rfl)
       try simp only [Act.put, List.setIfInBounds_toArray, List.set_cons_zero, List.set_cons_succ])
    | (refine Rg.skip (o := ?_) ?_ ?_ ?_ ?_
       rotate_left 1
       · (simp only [List.getElem?_toArray, List.getElem?_cons_succ, List.getElem?_cons_zero]; rfl)
       · exact fun _ _ _ h => h
       · first | rfl | (go_simp; done)
       try simp only [Act.put, List.setIfInBounds_toArray, List.set_cons_zero, List.set_cons_succ]))
  refine Rg.done ?_
  go_simp
  go_wp2
  (try simp only [Exit.inBlock, Exit.then]); refine bodyPost_ret (results_list (rs := [.tmp 4, .tmp 5]) rfl (by simp) (.tmp (.tmp .nil))) rfl ?_
  refine ⟨v4, rfl, ?_⟩
  have t1 : Gw w v xs w2.drew v2 [headB k s] := Gw.noR (Gw.noL E1.out ⟨G1.out, G2.out, G3.out, G4.out⟩) (Fr.refl _ _).drew
  have t2 := (t1.trans ⟨A1.out, A2.out, A3.out, A4.out⟩).trans ⟨by simpa using B1.out, B2.out, B3.out, by simpa using B4.out⟩
  simpa [frameB] using t2
end Go.Proofs.YtkljeafnmcmifaaDoor.Frm
